/- Towards the statement, part 3 of 6: contracts of functions, and what they rest on. Conditions: each theorem names its own. -/
import Derived.Test.YtajkjlgddmkkaaaM2
set_option linter.unusedVariables false
set_option linter.unusedSimpArgs false

namespace Go.Proofs.Ytajkjlgddmkkaaa
open Go.RowKit

theorem zneg_meets (v : Value) (s : Bool) (a : List Nat) (ha : Lim a) (la : a.length ≤ 137438953472) :
    Meets Try.prog 62 [v] [(v, I s a)] (fun r os fs => os = [] ∧ fs = [(r, zd (-iv s a))]) := by
  refine meets_of_vc Try.func62 (by kernel_rfl) rfl (by kernel_rfl) (Nat.le_of_ble_eq_true rfl) ?_
  refine box_rule (Reads.fact (d := I s a) (by repeat (first | exact List.Mem.head _ | apply List.Mem.tail))) fun p hp => ?_
  refine alloc_rule (d := I false []) fun o ho => ?_
  refine draw_rule [0, 1, 2, 3, 4, 5, 6, 7] [0, 1, 2, 3, 4, 5, 6, 7] (by kernel_rfl) (by kernel_rfl) ?_
  refine field_box 1 rfl hp ?_
  refine load_box_field_one 1 rfl (Part.left (Part.refl _)) ?_
  refine field_box 1 rfl hp ?_
  refine load_box_field 1 rfl (Part.right (Part.refl _)) (load_L _) fun u => ?_
  refine call_fn (norm_meets u a ha (by omega)) (Seals.refl _ _) (by repeat (first | exact Sub.nil _ | refine Sub.cons (by repeat (first | exact List.Mem.head _ | apply List.Mem.tail)) ?_)) ?_
  rintro w _ _ ⟨rfl, rfl⟩
  have e : -iv s a = if !s then -(nv a : Int) else (nv a : Int) := by cases s <;> simp [iv]
  refine call_fn (made_of w (!s) (nv a) (-iv s a) e) (Seals.refl _ _) (by repeat (first | exact Sub.nil _ | refine Sub.cons (by repeat (first | exact List.Mem.head _ | apply List.Mem.tail)) ?_)) ?_
  rintro r _ _ ⟨rfl, rfl⟩
  refine store_box (d := zd (-iv s a)) 0 rfl ho rfl (by kernel_rfl) ?_ ?_; exact Reads.fact (by repeat (first | exact List.Mem.head _ | apply List.Mem.tail))
  refine load_box (d := zd (-iv s a)) 0 rfl ho rfl (load_I _ _) fun r => ?_
  exact fin ⟨rfl, rfl⟩ (Seals.trans (Seals.trans (Seals.drop 0 _ _) (Seals.drop 0 _ _)) (Seals.sub (by repeat (first | exact Sub.nil _ | refine Sub.cons (by repeat (first | exact List.Mem.head _ | apply List.Mem.tail)) ?_))))

theorem zabs_meets (v : Value) (s : Bool) (a : List Nat) (ha : Lim a) (la : a.length ≤ 137438953472) :
    Meets Try.prog 105 [v] [(v, I s a)] (fun r os fs => os = [] ∧ fs = [(r, zd ((nv a : Nat) : Int))]) := by
  refine meets_of_vc Try.func105 (by kernel_rfl) rfl (by kernel_rfl) (Nat.le_of_ble_eq_true rfl) ?_
  refine box_rule (Reads.fact (d := I s a) (by repeat (first | exact List.Mem.head _ | apply List.Mem.tail))) fun p hp => ?_
  refine alloc_rule (d := I false []) fun o ho => ?_
  refine field_box 1 rfl hp ?_
  refine load_box_field 1 rfl (Part.right (Part.refl _)) (load_L _) fun u => ?_
  refine call_fn (norm_meets u a ha (by omega)) (Seals.refl _ _) (by repeat (first | exact Sub.nil _ | refine Sub.cons (by repeat (first | exact List.Mem.head _ | apply List.Mem.tail)) ?_)) ?_
  rintro w _ _ ⟨rfl, rfl⟩
  refine call_fn (made_lims w false (nv a)) (Seals.refl _ _) (by repeat (first | exact Sub.nil _ | refine Sub.cons (by repeat (first | exact List.Mem.head _ | apply List.Mem.tail)) ?_)) ?_
  rintro r _ _ ⟨rfl, rfl⟩
  refine store_box (d := zd ((nv a : Nat) : Int)) 0 rfl ho rfl (by kernel_rfl) ?_ ?_; exact Reads.fact (by repeat (first | exact List.Mem.head _ | apply List.Mem.tail))
  refine load_box (d := zd ((nv a : Nat) : Int)) 0 rfl ho rfl (load_I _ _) fun r => ?_
  exact fin ⟨rfl, rfl⟩ (Seals.trans (Seals.trans (Seals.drop 0 _ _) (Seals.drop 0 _ _)) (Seals.sub (by repeat (first | exact Sub.nil _ | refine Sub.cons (by repeat (first | exact List.Mem.head _ | apply List.Mem.tail)) ?_))))

theorem zsign_meets (v : Value) (s : Bool) (a : List Nat) (ha : Lim a) (la : a.length ≤ 137438953472) :
    Meets Try.prog 64 [v] [(v, I s a)] (fun r os fs => os = [] ∧ fs = [] ∧ r = .int .i64 (iv s a).sign) := by
  refine meets_of_vc Try.func64 (by kernel_rfl) rfl (by kernel_rfl) (Nat.le_of_ble_eq_true rfl) ?_
  refine box_rule (Reads.fact (d := I s a) (by repeat (first | exact List.Mem.head _ | apply List.Mem.tail))) fun p hp => ?_
  refine field_box 0 rfl hp ?_
  refine load_box_field 0 rfl (Part.right (Part.refl _)) (load_L _) fun u => ?_
  refine call_fn (bitlen_meets u a ha (by omega)) (Seals.refl _ _) (by repeat (first | exact Sub.nil _ | refine Sub.cons (by repeat (first | exact List.Mem.head _ | apply List.Mem.tail)) ?_)) ?_
  rintro _ _ _ ⟨rfl, rfl, rfl⟩
  have hb : bitlen (nv a) = 0 ↔ nv a = 0 := by unfold bitlen; split <;> simp_all
  refine cmp_split _ rfl (fun hc => ?_) (fun hc => ?_)
  · have h0 : nv a = 0 := hb.1 (by omega)
    refine fin ⟨rfl, rfl, ?_⟩ (Seals.trans (Seals.drop 0 _ _) (Seals.nil _ _))
    unfold iv; rw [h0]; cases s <;> rfl
  · have h0 : nv a ≠ 0 := fun e => hc (by rw [hb.2 e]; rfl)
    refine field_box 0 rfl hp ?_
    refine load_box_field_one 0 rfl (Part.left (Part.refl _)) ?_
    cases s with
    | true =>
      refine fin ⟨rfl, rfl, ?_⟩ (Seals.trans (Seals.drop 0 _ _) (Seals.nil _ _))
      rw [show iv true a = -(nv a : Int) from rfl, Int.sign_eq_neg_one_of_neg (by omega)]; rfl
    | false =>
      refine fin ⟨rfl, rfl, ?_⟩ (Seals.trans (Seals.drop 0 _ _) (Seals.nil _ _))
      rw [show iv false a = (nv a : Int) from rfl, Int.sign_eq_one_of_pos (by omega)]; rfl

theorem zgcd_meets (v w : Value) (s t : Bool) (a b : List Nat) (ha : Lim a) (hb : Lim b) (la : a.length ≤ 137438953472) (lb : b.length ≤ 137438953472) :
    Meets Try.prog 78 [v, w] [(v, I s a), (w, I t b)] (fun r os fs => os = [] ∧ fs = [(r, zd ((Nat.gcd (nv a) (nv b) : Nat) : Int))]) := by
  refine meets_of_vc Try.func78 (by kernel_rfl) rfl (by kernel_rfl) (Nat.le_of_ble_eq_true rfl) ?_
  refine box_rule (Reads.fact (d := I s a) (by repeat (first | exact List.Mem.head _ | apply List.Mem.tail))) fun p hp => ?_
  refine box_rule (Reads.fact (d := I t b) (by repeat (first | exact List.Mem.head _ | apply List.Mem.tail))) fun q hq => ?_
  refine alloc_rule (d := I false []) fun o ho => ?_
  refine field_box 2 rfl hp ?_
  refine load_box_field 2 rfl (Part.right (Part.refl _)) (load_L _) fun x => ?_
  refine field_box 1 rfl hq ?_
  refine load_box_field 1 rfl (Part.right (Part.refl _)) (load_L _) fun y => ?_
  refine call_fn (gcd_meets x y a b ha hb (by omega) (by omega)) (Seals.refl _ _) (by repeat (first | exact Sub.nil _ | refine Sub.cons (by repeat (first | exact List.Mem.head _ | apply List.Mem.tail)) ?_)) ?_
  rintro z _ _ ⟨rfl, rfl⟩
  refine call_fn (made_lims z false (Nat.gcd (nv a) (nv b))) (Seals.refl _ _) (by repeat (first | exact Sub.nil _ | refine Sub.cons (by repeat (first | exact List.Mem.head _ | apply List.Mem.tail)) ?_)) ?_
  rintro r _ _ ⟨rfl, rfl⟩
  refine store_box (d := zd ((Nat.gcd (nv a) (nv b) : Nat) : Int)) 0 rfl ho rfl (by kernel_rfl) ?_ ?_; exact Reads.fact (by repeat (first | exact List.Mem.head _ | apply List.Mem.tail))
  refine load_box (d := zd ((Nat.gcd (nv a) (nv b) : Nat) : Int)) 0 rfl ho rfl (load_I _ _) fun r => ?_
  exact fin ⟨rfl, rfl⟩ (Seals.trans (Seals.trans (Seals.trans (Seals.drop 0 _ _) (Seals.drop 0 _ _)) (Seals.drop 0 _ _)) (Seals.sub (by repeat (first | exact Sub.nil _ | refine Sub.cons (by repeat (first | exact List.Mem.head _ | apply List.Mem.tail)) ?_))))

theorem zmul_meets (v w : Value) (s t : Bool) (a b : List Nat) (ha : Lim a) (hb : Lim b) (la : a.length ≤ 137438953472) (lb : b.length ≤ 137438953472) :
    Meets Try.prog 76 [v, w] [(v, I s a), (w, I t b)] (fun r os fs => os = [] ∧ fs = [(r, zd (iv s a * iv t b))]) := by
  refine meets_of_vc Try.func76 (by kernel_rfl) rfl (by kernel_rfl) (Nat.le_of_ble_eq_true rfl) ?_
  refine box_rule (Reads.fact (d := I s a) (by repeat (first | exact List.Mem.head _ | apply List.Mem.tail))) fun p hp => ?_
  refine box_rule (Reads.fact (d := I t b) (by repeat (first | exact List.Mem.head _ | apply List.Mem.tail))) fun q hq => ?_
  refine alloc_rule (d := I false []) fun o ho => ?_
  refine draw_rule [0, 1, 2, 3, 4, 5, 6, 7, 8, 9, 10, 11] [0, 1, 2, 3, 4, 5, 6, 7, 8, 9, 10, 11] (by kernel_rfl) (by kernel_rfl) ?_
  refine field_box 2 rfl hp ?_
  refine load_box_field_one 2 rfl (Part.left (Part.refl _)) ?_
  refine field_box 1 rfl hq ?_
  refine load_box_field_one 1 rfl (Part.left (Part.refl _)) ?_
  refine bne_split (fun hc => ?_) (fun hc => ?_)
  ·
    refine field_box 2 rfl hp ?_
    refine load_box_field 2 rfl (Part.right (Part.refl _)) (load_L _) fun x => ?_
    refine field_box 1 rfl hq ?_
    refine load_box_field 1 rfl (Part.right (Part.refl _)) (load_L _) fun y => ?_
    refine call_fn (mul_meets x y a b ha hb (by omega) (by omega)) (Seals.refl _ _) (by repeat (first | exact Sub.nil _ | refine Sub.cons (by repeat (first | exact List.Mem.head _ | apply List.Mem.tail)) ?_)) ?_
    rintro z _ _ ⟨rfl, rfl⟩
    have e : iv s a * iv t b = -((nv a * nv b : Nat) : Int) := by cases s <;> cases t <;> simp_all [iv, Int.mul_neg, Int.neg_mul]
    refine call_fn (made_of z true (nv a * nv b) (iv s a * iv t b) e) (Seals.refl _ _) (by repeat (first | exact Sub.nil _ | refine Sub.cons (by repeat (first | exact List.Mem.head _ | apply List.Mem.tail)) ?_)) ?_
    rintro r _ _ ⟨rfl, rfl⟩
    refine store_box (d := zd (iv s a * iv t b)) 0 rfl ho rfl (by kernel_rfl) ?_ ?_; exact Reads.fact (by repeat (first | exact List.Mem.head _ | apply List.Mem.tail))
    refine load_box (d := zd (iv s a * iv t b)) 0 rfl ho rfl (load_I _ _) fun r => ?_
    exact fin ⟨rfl, rfl⟩ (Seals.trans (Seals.trans (Seals.trans (Seals.drop 0 _ _) (Seals.drop 0 _ _)) (Seals.drop 0 _ _)) (Seals.sub (by repeat (first | exact Sub.nil _ | refine Sub.cons (by repeat (first | exact List.Mem.head _ | apply List.Mem.tail)) ?_))))
  ·
    refine field_box 2 rfl hp ?_
    refine load_box_field 2 rfl (Part.right (Part.refl _)) (load_L _) fun x => ?_
    refine field_box 1 rfl hq ?_
    refine load_box_field 1 rfl (Part.right (Part.refl _)) (load_L _) fun y => ?_
    refine call_fn (mul_meets x y a b ha hb (by omega) (by omega)) (Seals.refl _ _) (by repeat (first | exact Sub.nil _ | refine Sub.cons (by repeat (first | exact List.Mem.head _ | apply List.Mem.tail)) ?_)) ?_
    rintro z _ _ ⟨rfl, rfl⟩
    have e : iv s a * iv t b = ((nv a * nv b : Nat) : Int) := by cases s <;> cases t <;> simp_all [iv, Int.mul_neg, Int.neg_mul, Int.neg_mul_neg]
    refine call_fn (made_of z false (nv a * nv b) (iv s a * iv t b) e) (Seals.refl _ _) (by repeat (first | exact Sub.nil _ | refine Sub.cons (by repeat (first | exact List.Mem.head _ | apply List.Mem.tail)) ?_)) ?_
    rintro r _ _ ⟨rfl, rfl⟩
    refine store_box (d := zd (iv s a * iv t b)) 0 rfl ho rfl (by kernel_rfl) ?_ ?_; exact Reads.fact (by repeat (first | exact List.Mem.head _ | apply List.Mem.tail))
    refine load_box (d := zd (iv s a * iv t b)) 0 rfl ho rfl (load_I _ _) fun r => ?_
    exact fin ⟨rfl, rfl⟩ (Seals.trans (Seals.trans (Seals.trans (Seals.drop 0 _ _) (Seals.drop 0 _ _)) (Seals.drop 0 _ _)) (Seals.sub (by repeat (first | exact Sub.nil _ | refine Sub.cons (by repeat (first | exact List.Mem.head _ | apply List.Mem.tail)) ?_))))

theorem zadd_meets (v w : Value) (s t : Bool) (a b : List Nat) (ha : Lim a) (hb : Lim b) (la : a.length ≤ 137438953472) (lb : b.length ≤ 137438953472) :
    Meets Try.prog 75 [v, w] [(v, I s a), (w, I t b)] (fun r os fs => os = [] ∧ fs = [(r, zd (iv s a + iv t b))]) := by
  refine meets_of_vc Try.func75 (by kernel_rfl) rfl (by kernel_rfl) (Nat.le_of_ble_eq_true rfl) ?_
  refine box_rule (Reads.fact (d := I s a) (by repeat (first | exact List.Mem.head _ | apply List.Mem.tail))) fun p hp => ?_
  refine box_rule (Reads.fact (d := I t b) (by repeat (first | exact List.Mem.head _ | apply List.Mem.tail))) fun q hq => ?_
  refine alloc_rule (d := I false []) fun o ho => ?_
  refine field_box 2 rfl hp ?_
  refine load_box_field_one 2 rfl (Part.left (Part.refl _)) ?_
  refine field_box 1 rfl hq ?_
  refine load_box_field_one 1 rfl (Part.left (Part.refl _)) ?_
  refine beq_split (fun hc => ?_) (fun hc => ?_)
  · refine draw_rule [0, 1, 2, 3, 4, 5, 6, 7, 8] [0, 1, 2, 3, 4, 5, 6, 7, 8] (by kernel_rfl) (by kernel_rfl) ?_
    refine field_box 2 rfl hp ?_
    refine load_box_field_one 2 rfl (Part.left (Part.refl _)) ?_
    refine field_box 2 rfl hp ?_
    refine load_box_field 2 rfl (Part.right (Part.refl _)) (load_L _) fun x => ?_
    refine field_box 1 rfl hq ?_
    refine load_box_field 1 rfl (Part.right (Part.refl _)) (load_L _) fun y => ?_
    refine call_fn (add_meets x y a b ha hb (by omega) (by omega)) (Seals.refl _ _) (by repeat (first | exact Sub.nil _ | refine Sub.cons (by repeat (first | exact List.Mem.head _ | apply List.Mem.tail)) ?_)) ?_
    rintro z _ _ ⟨rfl, rfl⟩
    have e : iv s a + iv t b = if s then -((nv a + nv b : Nat) : Int) else ((nv a + nv b : Nat) : Int) := by subst hc; cases s <;> simp [iv]; omega
    refine call_fn (made_of z s (nv a + nv b) (iv s a + iv t b) e) (Seals.refl _ _) (by repeat (first | exact Sub.nil _ | refine Sub.cons (by repeat (first | exact List.Mem.head _ | apply List.Mem.tail)) ?_)) ?_
    rintro r _ _ ⟨rfl, rfl⟩
    refine store_box (d := zd (iv s a + iv t b)) 0 rfl ho rfl (by kernel_rfl) ?_ ?_; exact Reads.fact (by repeat (first | exact List.Mem.head _ | apply List.Mem.tail))
    refine load_box (d := zd (iv s a + iv t b)) 0 rfl ho rfl (load_I _ _) fun r => ?_
    exact fin ⟨rfl, rfl⟩ (Seals.trans (Seals.trans (Seals.trans (Seals.drop 0 _ _) (Seals.drop 0 _ _)) (Seals.drop 0 _ _)) (Seals.sub (by repeat (first | exact Sub.nil _ | refine Sub.cons (by repeat (first | exact List.Mem.head _ | apply List.Mem.tail)) ?_))))
  ·
    refine field_box 2 rfl hp ?_
    refine load_box_field 2 rfl (Part.right (Part.refl _)) (load_L _) fun x => ?_
    refine field_box 1 rfl hq ?_
    refine load_box_field 1 rfl (Part.right (Part.refl _)) (load_L _) fun y => ?_
    refine call_fn (sub_meets x y a b ha hb (by omega)) (Seals.refl _ _) (by repeat (first | exact Sub.nil _ | refine Sub.cons (by repeat (first | exact List.Mem.head _ | apply List.Mem.tail)) ?_)) ?_
    rintro _ _ _ ⟨rfl, ⟨hlt, rfl, rfl⟩ | ⟨hle, z, rfl, rfl⟩⟩
    ·
      refine field_box 1 rfl hq ?_
      refine load_box_field 1 rfl (Part.right (Part.refl _)) (load_L _) fun y' => ?_
      refine field_box 2 rfl hp ?_
      refine load_box_field 2 rfl (Part.right (Part.refl _)) (load_L _) fun x' => ?_
      refine call_fn (sub_meets y' x' b a hb ha (by omega)) (Seals.refl _ _) (by repeat (first | exact Sub.nil _ | refine Sub.cons (by repeat (first | exact List.Mem.head _ | apply List.Mem.tail)) ?_)) ?_
      rintro _ _ _ ⟨rfl, ⟨hlt', rfl, rfl⟩ | ⟨hle', z, rfl, rfl⟩⟩
      · omega
      refine field_box 1 rfl hq ?_
      refine load_box_field_one 1 rfl (Part.left (Part.refl _)) ?_
      have e : iv s a + iv t b = if t then -((nv b - nv a : Nat) : Int) else ((nv b - nv a : Nat) : Int) := by cases s <;> cases t <;> simp_all [iv] <;> omega
      refine call_fn (made_of z t (nv b - nv a) (iv s a + iv t b) e) (Seals.refl _ _) (by repeat (first | exact Sub.nil _ | refine Sub.cons (by repeat (first | exact List.Mem.head _ | apply List.Mem.tail)) ?_)) ?_
      rintro r _ _ ⟨rfl, rfl⟩
      refine store_box (d := zd (iv s a + iv t b)) 0 rfl ho rfl (by kernel_rfl) ?_ ?_; exact Reads.fact (by repeat (first | exact List.Mem.head _ | apply List.Mem.tail))
      refine load_box (d := zd (iv s a + iv t b)) 0 rfl ho rfl (load_I _ _) fun r => ?_
      exact fin ⟨rfl, rfl⟩ (Seals.trans (Seals.trans (Seals.trans (Seals.drop 0 _ _) (Seals.drop 0 _ _)) (Seals.drop 0 _ _)) (Seals.sub (by repeat (first | exact Sub.nil _ | refine Sub.cons (by repeat (first | exact List.Mem.head _ | apply List.Mem.tail)) ?_))))
    ·
      refine field_box 2 rfl hp ?_
      refine load_box_field_one 2 rfl (Part.left (Part.refl _)) ?_
      have e : iv s a + iv t b = if s then -((nv a - nv b : Nat) : Int) else ((nv a - nv b : Nat) : Int) := by cases s <;> cases t <;> simp_all [iv] <;> omega
      refine call_fn (made_of z s (nv a - nv b) (iv s a + iv t b) e) (Seals.refl _ _) (by repeat (first | exact Sub.nil _ | refine Sub.cons (by repeat (first | exact List.Mem.head _ | apply List.Mem.tail)) ?_)) ?_
      rintro r _ _ ⟨rfl, rfl⟩
      refine store_box (d := zd (iv s a + iv t b)) 0 rfl ho rfl (by kernel_rfl) ?_ ?_; exact Reads.fact (by repeat (first | exact List.Mem.head _ | apply List.Mem.tail))
      refine load_box (d := zd (iv s a + iv t b)) 0 rfl ho rfl (load_I _ _) fun r => ?_
      exact fin ⟨rfl, rfl⟩ (Seals.trans (Seals.trans (Seals.trans (Seals.drop 0 _ _) (Seals.drop 0 _ _)) (Seals.drop 0 _ _)) (Seals.sub (by repeat (first | exact Sub.nil _ | refine Sub.cons (by repeat (first | exact List.Mem.head _ | apply List.Mem.tail)) ?_))))

theorem zsub_meets (v w : Value) (s t : Bool) (a b : List Nat) (ha : Lim a) (hb : Lim b) (la : a.length ≤ 137438953472) (lb : b.length ≤ 137438953472) :
    Meets Try.prog 87 [v, w] [(v, I s a), (w, I t b)] (fun r os fs => os = [] ∧ fs = [(r, zd (iv s a - iv t b))]) := by
  refine meets_of_vc Try.func87 (by kernel_rfl) rfl (by kernel_rfl) (Nat.le_of_ble_eq_true rfl) ?_
  refine box_rule (Reads.fact (d := I s a) (by repeat (first | exact List.Mem.head _ | apply List.Mem.tail))) fun p hp => ?_
  refine box_rule (Reads.fact (d := I t b) (by repeat (first | exact List.Mem.head _ | apply List.Mem.tail))) fun q hq => ?_
  refine alloc_rule (d := I false []) fun o ho => ?_
  refine load_box (d := I s a) 2 rfl hp rfl (load_I _ _) fun x => ?_
  refine field_box 1 rfl hq ?_
  refine load_box_field_one 1 rfl (Part.left (Part.refl _)) ?_
  refine field_box 1 rfl hq ?_
  refine load_box_field 1 rfl (Part.right (Part.refl _)) (load_L _) fun u => ?_
  refine build2 (Knw.one rfl) (Knw.fact (by repeat (first | exact List.Mem.head _ | apply List.Mem.tail))) rfl rfl fun y => ?_
  refine call_fn (zadd_meets x y s (!t) a b ha hb la lb) (Seals.refl _ _) (by repeat (first | exact Sub.nil _ | refine Sub.cons (by repeat (first | exact List.Mem.head _ | apply List.Mem.tail)) ?_)) ?_
  rintro r _ _ ⟨rfl, rfl⟩
  have e : iv s a + iv (!t) b = iv s a - iv t b := by cases t <;> simp [iv] <;> omega
  rw [e]
  refine store_box (d := zd (iv s a - iv t b)) 0 rfl ho rfl (by kernel_rfl) ?_ ?_; exact Reads.fact (by repeat (first | exact List.Mem.head _ | apply List.Mem.tail))
  refine load_box (d := zd (iv s a - iv t b)) 0 rfl ho rfl (load_I _ _) fun r => ?_
  exact fin ⟨rfl, rfl⟩ (Seals.trans (Seals.trans (Seals.trans (Seals.drop 0 _ _) (Seals.drop 0 _ _)) (Seals.drop 0 _ _)) (Seals.sub (by repeat (first | exact Sub.nil _ | refine Sub.cons (by repeat (first | exact List.Mem.head _ | apply List.Mem.tail)) ?_))))

end Go.Proofs.Ytajkjlgddmkkaaa

namespace Go.Proofs.Ytajkjlgddmkkaaa
open Go.RowKit

theorem zof_meets (x : Int) (h1 : -9223372036854775808 ≤ x) (h2 : x < 9223372036854775808) :
    Meets Try.prog 57 [.int .i64 x] [] (fun r os fs => os = [] ∧ fs = [(r, zd x)]) := by
  refine meets_of_vc Try.func57 (by kernel_rfl) rfl (by kernel_rfl) (Nat.le_of_ble_eq_true rfl) ?_
  refine alloc_rule (d := I false []) fun o ho => ?_
  refine conv_int ⟨_, Try.underlying2⟩ Try.underlying67 (x % 18446744073709551616) (wrap_u64 _) ?_
  refine cmp_split _ rfl (fun hc => ?_) (fun hc => ?_)
  · refine un_neg (m := ((x.natAbs : Nat) : Int)) (by rw [wrap_u64]; omega) ?_
    refine cmp_true rfl (by omega) ?_
    refine lit_U x.natAbs rfl fun u => ?_
    refine call_fn (norm_meets u [x.natAbs] (Lim.cons (by omega) Lim.nil) (by simp)) (Seals.refl _ _) (by repeat (first | exact Sub.nil _ | refine Sub.cons (by repeat (first | exact List.Mem.head _ | apply List.Mem.tail)) ?_)) ?_
    rintro w _ _ ⟨rfl, rfl⟩
    rw [show nv [x.natAbs] = x.natAbs from by simp [nv]]
    refine call_fn (made_of w true x.natAbs x (by simp only [if_true]; omega)) (Seals.refl _ _) (by repeat (first | exact Sub.nil _ | refine Sub.cons (by repeat (first | exact List.Mem.head _ | apply List.Mem.tail)) ?_)) ?_
    rintro r _ _ ⟨rfl, rfl⟩
    refine store_box (d := zd x) 0 rfl ho rfl (by kernel_rfl) ?_ ?_; exact Reads.fact (by repeat (first | exact List.Mem.head _ | apply List.Mem.tail))
    refine load_box (d := zd x) 0 rfl ho rfl (load_I _ _) fun r => ?_
    exact fin ⟨rfl, rfl⟩ (Seals.trans (Seals.drop 0 _ _) (Seals.sub (by repeat (first | exact Sub.nil _ | refine Sub.cons (by repeat (first | exact List.Mem.head _ | apply List.Mem.tail)) ?_))))
  · refine cmp_false rfl (by omega) ?_
    refine lit_U x.natAbs (by omega) fun u => ?_
    refine call_fn (norm_meets u [x.natAbs] (Lim.cons (by omega) Lim.nil) (by simp)) (Seals.refl _ _) (by repeat (first | exact Sub.nil _ | refine Sub.cons (by repeat (first | exact List.Mem.head _ | apply List.Mem.tail)) ?_)) ?_
    rintro w _ _ ⟨rfl, rfl⟩
    rw [show nv [x.natAbs] = x.natAbs from by simp [nv]]
    refine call_fn (made_of w false x.natAbs x (by simp only [Bool.false_eq_true, if_false]; omega)) (Seals.refl _ _) (by repeat (first | exact Sub.nil _ | refine Sub.cons (by repeat (first | exact List.Mem.head _ | apply List.Mem.tail)) ?_)) ?_
    rintro r _ _ ⟨rfl, rfl⟩
    refine store_box (d := zd x) 0 rfl ho rfl (by kernel_rfl) ?_ ?_; exact Reads.fact (by repeat (first | exact List.Mem.head _ | apply List.Mem.tail))
    refine load_box (d := zd x) 0 rfl ho rfl (load_I _ _) fun r => ?_
    exact fin ⟨rfl, rfl⟩ (Seals.trans (Seals.drop 0 _ _) (Seals.sub (by repeat (first | exact Sub.nil _ | refine Sub.cons (by repeat (first | exact List.Mem.head _ | apply List.Mem.tail)) ?_))))

theorem bit_nil : (lims 0).length = 0 := by rw [lims_zero]; rfl

theorem div_signs {n d : Nat} {s t : Bool} (hd : d ≠ 0) (h : s = true ∧ n % d ≠ 0) :
    (if s then -(n : Int) else n) / (if t then -(d : Int) else d) = (if (s != t) then -((n / d + 1 : Nat) : Int) else ((n / d + 1 : Nat) : Int)) ∧
    (if s then -(n : Int) else n) % (if t then -(d : Int) else d) = ((d - n % d : Nat) : Int) := by
  obtain ⟨rfl, hr⟩ := h
  have hm := Nat.mod_lt n (Nat.pos_of_ne_zero hd)
  have hdm := Nat.div_add_mod n d
  have h1 : (-(n : Int)) % (d : Int) = ((d - n % d : Nat) : Int) ∧ (-(n : Int)) / (d : Int) = -((n / d + 1 : Nat) : Int) := by
    have := Int.ediv_emod_unique (a := -(n : Int)) (b := (d : Int)) (r := ((d - n % d : Nat) : Int)) (q := -((n / d + 1 : Nat) : Int)) (by omega)
    refine ((this.2 ⟨?_, by omega, by omega⟩).symm)
    have e : (d : Int) * -((n / d + 1 : Nat) : Int) = -((d * (n / d) : Nat) : Int) - d := by
      rw [Int.mul_neg]; push_cast; rw [Int.mul_add]; omega
    rw [e]
    omega
  cases t with
  | false => simp only [if_true, Bool.false_eq_true, if_false]; exact ⟨h1.2, h1.1⟩
  | true =>
    simp only [if_true]
    rw [Int.ediv_neg, Int.emod_neg, h1.1, h1.2]
    exact ⟨by simp, rfl⟩

theorem div_signs0 {n d : Nat} {s t : Bool} (h : ¬ (s = true ∧ n % d ≠ 0)) :
    (if s then -(n : Int) else n) / (if t then -(d : Int) else d) = (if (s != t) then -((n / d : Nat) : Int) else ((n / d : Nat) : Int)) ∧
    (if s then -(n : Int) else n) % (if t then -(d : Int) else d) = ((n % d : Nat) : Int) := by
  cases s with
  | false => cases t <;> simp [Int.ediv_neg, Int.emod_neg]
  | true =>
    have hr : n % d = 0 := by
      rcases Nat.eq_zero_or_pos (n % d) with h0 | h0
      · exact h0
      · exact absurd ⟨rfl, by omega⟩ h
    have hdvd : (d : Int) ∣ (n : Int) := Int.natCast_dvd_natCast.2 (Nat.dvd_of_mod_eq_zero hr)
    have h1 : (-(n : Int)) / (d : Int) = -((n / d : Nat) : Int) := by rw [Int.neg_ediv_of_dvd hdvd, Int.natCast_ediv]
    have h2 : (-(n : Int)) % (d : Int) = ((n % d : Nat) : Int) := by rw [hr]; exact Int.emod_eq_zero_of_dvd (Int.dvd_neg.2 hdvd)
    cases t with
    | false => simp only [if_true, Bool.false_eq_true, if_false]; exact ⟨h1, h2⟩
    | true => simp only [if_true]; rw [Int.ediv_neg, Int.emod_neg, h1, h2]; exact ⟨by simp, rfl⟩

theorem zdivmod_zero (v w : Value) (s t : Bool) (a b : List Nat) (ha : Lim a) (hb : Lim b) (la : a.length ≤ 137438953472) (lb : b.length ≤ 137438953472) (h0 : nv b = 0) :
    Meets Try.prog 107 [v, w] [(v, I s a), (w, I t b)] (fun r os fs => os = [] ∧ ∃ q m, r = .tuple #[q, m, .bool false] ∧ fs = [(q, zd 0), (m, zd 0)]) := by
  refine meets_of_vc Try.func107 (by kernel_rfl) rfl (by kernel_rfl) (Nat.le_of_ble_eq_true rfl) ?_
  refine box_rule (Reads.fact (d := I s a) (by repeat (first | exact List.Mem.head _ | apply List.Mem.tail))) fun p hp => ?_
  refine box_rule (Reads.fact (d := I t b) (by repeat (first | exact List.Mem.head _ | apply List.Mem.tail))) fun q hq => ?_
  refine alloc_rule (d := I false []) fun o ho => ?_
  refine alloc_rule (d := I false []) fun o' ho' => ?_
  refine field_box 3 rfl hp ?_
  refine load_box_field 3 rfl (Part.right (Part.refl _)) (load_L _) fun x => ?_
  refine field_box 2 rfl hq ?_
  refine load_box_field 2 rfl (Part.right (Part.refl _)) (load_L _) fun y => ?_
  refine call_fn (divmod_zero x y a b hb h0) (Seals.refl _ _) (by repeat (first | exact Sub.nil _ | refine Sub.cons (by repeat (first | exact List.Mem.head _ | apply List.Mem.tail)) ?_)) ?_
  rintro _ _ _ ⟨rfl, rfl, rfl⟩
  refine build0 (da := .one (.bool false)) (db := U (lims 0)) (fun S w => ⟨[.bool false], [.slice none 0 0], rfl, rd_false S w, by rw [lims_zero]; exact rd_nil S w 1 _⟩) fun z => ?_
  refine build0 (da := .one (.bool false)) (db := U (lims 0)) (fun S w => ⟨[.bool false], [.slice none 0 0], rfl, rd_false S w, by rw [lims_zero]; exact rd_nil S w 1 _⟩) fun z' => ?_
  refine store_box (d := zd 0) 1 rfl ho rfl (by kernel_rfl) ?_ ?_; exact Reads.fact (by repeat (first | exact List.Mem.head _ | apply List.Mem.tail))
  refine store_box (d := zd 0) 0 rfl ho' rfl (by kernel_rfl) ?_ ?_; exact Reads.fact (by repeat (first | exact List.Mem.head _ | apply List.Mem.tail))
  refine load_box (d := zd 0) 1 rfl ho rfl (load_I _ _) fun r => ?_
  refine load_box (d := zd 0) 0 rfl ho' rfl (load_I _ _) fun r' => ?_
  refine fin ⟨rfl, r, r', rfl, rfl⟩ (Seals.trans (Seals.trans (Seals.trans (Seals.trans (Seals.drop 0 _ _) (Seals.drop 0 _ _)) (Seals.drop 0 _ _)) (Seals.drop 0 _ _)) (Seals.sub (by repeat (first | exact Sub.nil _ | refine Sub.cons (by repeat (first | exact List.Mem.head _ | apply List.Mem.tail)) ?_))))

theorem zdivmod_meets (v w : Value) (s t : Bool) (a b : List Nat) (ha : Lim a) (hb : Lim b) (la : a.length ≤ 137438953472) (lb : b.length ≤ 137438953472) (h0 : nv b ≠ 0) :
    Meets Try.prog 107 [v, w] [(v, I s a), (w, I t b)] (fun r os fs => os = [] ∧ ∃ q m, r = .tuple #[q, m, .bool true] ∧ fs = [(q, zd (iv s a / iv t b)), (m, zd (iv s a % iv t b))]) := by
  have hml := Nat.mod_lt (nv a) (Nat.pos_of_ne_zero h0)
  have hrl := lims_length_le (Nat.lt_trans hml (nv_lt hb))
  have hql := lims_length_le (Nat.lt_of_le_of_lt (Nat.div_le_self (nv a) (nv b)) (nv_lt ha))
  have key1 := @div_signs (nv a) (nv b) s t h0
  have key0 := @div_signs0 (nv a) (nv b) s t
  change (s = true ∧ _ → iv s a / iv t b = _ ∧ iv s a % iv t b = _) at key1
  change (¬ (s = true ∧ _) → iv s a / iv t b = _ ∧ iv s a % iv t b = _) at key0
  have hrp : 0 < (lims (nv a % nv b)).length ↔ nv a % nv b ≠ 0 := ⟨fun h e => by rw [e, lims_zero] at h; exact absurd h (by decide), fun h => List.length_pos_iff.2 fun e => h (lims_eq_nil.1 e)⟩
  refine meets_of_vc Try.func107 (by kernel_rfl) rfl (by kernel_rfl) (Nat.le_of_ble_eq_true rfl) ?_
  refine box_rule (Reads.fact (d := I s a) (by repeat (first | exact List.Mem.head _ | apply List.Mem.tail))) fun p hp => ?_
  refine box_rule (Reads.fact (d := I t b) (by repeat (first | exact List.Mem.head _ | apply List.Mem.tail))) fun q hq => ?_
  refine alloc_rule (d := I false []) fun o ho => ?_
  refine alloc_rule (d := I false []) fun o' ho' => ?_
  refine field_box 3 rfl hp ?_
  refine load_box_field 3 rfl (Part.right (Part.refl _)) (load_L _) fun x => ?_
  refine field_box 2 rfl hq ?_
  refine load_box_field 2 rfl (Part.right (Part.refl _)) (load_L _) fun y => ?_
  refine call_fn (divmod_meets x y a b ha hb (by omega) (by omega) h0) (Seals.refl _ _) (by repeat (first | exact Sub.nil _ | refine Sub.cons (by repeat (first | exact List.Mem.head _ | apply List.Mem.tail)) ?_)) ?_
  rintro _ _ _ ⟨rfl, n, d, rfl, rfl⟩
  refine field_box 3 rfl hp ?_
  refine load_box_field_one 3 rfl (Part.left (Part.refl _)) ?_
  cases s with
  | false =>
    have k0 := key0 (fun h => by cases h.1)
    refine field_box 3 rfl hp ?_
    refine load_box_field_one 3 rfl (Part.left (Part.refl _)) ?_
    refine field_box 2 rfl hq ?_
    refine load_box_field_one 2 rfl (Part.left (Part.refl _)) ?_
    refine bne_split (fun hc => ?_) (fun hc => ?_)
    · refine call_fn (made_of n true (nv a / nv b) (iv false a / iv t b) (by rw [k0.1, if_pos (bne_iff_ne.2 hc)]; rfl)) (Seals.refl _ _) (by repeat (first | exact Sub.nil _ | refine Sub.cons (by repeat (first | exact List.Mem.head _ | apply List.Mem.tail)) ?_)) ?_
      rintro r1 _ _ ⟨rfl, rfl⟩
      refine call_fn (made_of d false (nv a % nv b) (iv false a % iv t b) k0.2) (Seals.refl _ _) (by repeat (first | exact Sub.nil _ | refine Sub.cons (by repeat (first | exact List.Mem.head _ | apply List.Mem.tail)) ?_)) ?_
      rintro r2 _ _ ⟨rfl, rfl⟩
      refine store_box (d := zd (iv false a / iv t b)) 1 rfl ho rfl (by kernel_rfl) ?_ ?_; exact Reads.fact (by repeat (first | exact List.Mem.head _ | apply List.Mem.tail))
      refine store_box (d := zd (iv false a % iv t b)) 0 rfl ho' rfl (by kernel_rfl) ?_ ?_; exact Reads.fact (by repeat (first | exact List.Mem.head _ | apply List.Mem.tail))
      refine load_box (d := zd (iv false a / iv t b)) 1 rfl ho rfl (load_I _ _) fun r => ?_
      refine load_box (d := zd (iv false a % iv t b)) 0 rfl ho' rfl (load_I _ _) fun r' => ?_
      refine fin ⟨rfl, r, r', rfl, rfl⟩ (Seals.trans (Seals.trans (Seals.trans (Seals.trans (Seals.drop 0 _ _) (Seals.drop 0 _ _)) (Seals.drop 0 _ _)) (Seals.drop 0 _ _)) (Seals.sub (by repeat (first | exact Sub.nil _ | refine Sub.cons (by repeat (first | exact List.Mem.head _ | apply List.Mem.tail)) ?_))))
    · refine call_fn (made_of n false (nv a / nv b) (iv false a / iv t b) (by rw [k0.1, if_neg (fun h => bne_iff_ne.1 h hc)]; rfl)) (Seals.refl _ _) (by repeat (first | exact Sub.nil _ | refine Sub.cons (by repeat (first | exact List.Mem.head _ | apply List.Mem.tail)) ?_)) ?_
      rintro r1 _ _ ⟨rfl, rfl⟩
      refine call_fn (made_of d false (nv a % nv b) (iv false a % iv t b) k0.2) (Seals.refl _ _) (by repeat (first | exact Sub.nil _ | refine Sub.cons (by repeat (first | exact List.Mem.head _ | apply List.Mem.tail)) ?_)) ?_
      rintro r2 _ _ ⟨rfl, rfl⟩
      refine store_box (d := zd (iv false a / iv t b)) 1 rfl ho rfl (by kernel_rfl) ?_ ?_; exact Reads.fact (by repeat (first | exact List.Mem.head _ | apply List.Mem.tail))
      refine store_box (d := zd (iv false a % iv t b)) 0 rfl ho' rfl (by kernel_rfl) ?_ ?_; exact Reads.fact (by repeat (first | exact List.Mem.head _ | apply List.Mem.tail))
      refine load_box (d := zd (iv false a / iv t b)) 1 rfl ho rfl (load_I _ _) fun r => ?_
      refine load_box (d := zd (iv false a % iv t b)) 0 rfl ho' rfl (load_I _ _) fun r' => ?_
      refine fin ⟨rfl, r, r', rfl, rfl⟩ (Seals.trans (Seals.trans (Seals.trans (Seals.trans (Seals.drop 0 _ _) (Seals.drop 0 _ _)) (Seals.drop 0 _ _)) (Seals.drop 0 _ _)) (Seals.sub (by repeat (first | exact Sub.nil _ | refine Sub.cons (by repeat (first | exact List.Mem.head _ | apply List.Mem.tail)) ?_))))
  | true =>
    refine len_fact (by repeat (first | exact List.Mem.head _ | apply List.Mem.tail)) fun _ => ?_
    refine cmp_split _ rfl (fun hc => ?_) (fun hc => ?_)
    · have hr : nv a % nv b ≠ 0 := hrp.1 (by omega)
      have k1 := key1 ⟨rfl, hr⟩
      refine lit_U 1 rfl fun u => ?_
      refine call_fn (add_meets n u (lims (nv a / nv b)) [1] (Lim_lims _) (Lim.cons (by decide) Lim.nil) (by omega) (by simp)) (Seals.refl _ _) (by repeat (first | exact Sub.nil _ | refine Sub.cons (by repeat (first | exact List.Mem.head _ | apply List.Mem.tail)) ?_)) ?_
      rintro n' _ _ ⟨rfl, rfl⟩
      rw [nv_lims, show nv [1] = 1 from by simp [nv]]
      refine field_box 2 rfl hq ?_
      refine load_box_field 2 rfl (Part.right (Part.refl _)) (load_L _) fun y' => ?_
      refine call_fn (sub_meets y' d b (lims (nv a % nv b)) hb (Lim_lims _) (by omega)) (Seals.refl _ _) (by repeat (first | exact Sub.nil _ | refine Sub.cons (by repeat (first | exact List.Mem.head _ | apply List.Mem.tail)) ?_)) ?_
      rw [nv_lims]
      rintro _ _ _ ⟨rfl, ⟨hlt, rfl, rfl⟩ | ⟨hle, d', rfl, rfl⟩⟩
      · omega
      refine field_box 3 rfl hp ?_
      refine load_box_field_one 3 rfl (Part.left (Part.refl _)) ?_
      refine field_box 2 rfl hq ?_
      refine load_box_field_one 2 rfl (Part.left (Part.refl _)) ?_
      refine bne_split (fun hc => ?_) (fun hc => ?_)
      · refine call_fn (made_of n' true (nv a / nv b + 1) (iv true a / iv t b) (by rw [k1.1, if_pos (bne_iff_ne.2 hc)]; rfl)) (Seals.refl _ _) (by repeat (first | exact Sub.nil _ | refine Sub.cons (by repeat (first | exact List.Mem.head _ | apply List.Mem.tail)) ?_)) ?_
        rintro r1 _ _ ⟨rfl, rfl⟩
        refine call_fn (made_of d' false (nv b - nv a % nv b) (iv true a % iv t b) k1.2) (Seals.refl _ _) (by repeat (first | exact Sub.nil _ | refine Sub.cons (by repeat (first | exact List.Mem.head _ | apply List.Mem.tail)) ?_)) ?_
        rintro r2 _ _ ⟨rfl, rfl⟩
        refine store_box (d := zd (iv true a / iv t b)) 1 rfl ho rfl (by kernel_rfl) ?_ ?_; exact Reads.fact (by repeat (first | exact List.Mem.head _ | apply List.Mem.tail))
        refine store_box (d := zd (iv true a % iv t b)) 0 rfl ho' rfl (by kernel_rfl) ?_ ?_; exact Reads.fact (by repeat (first | exact List.Mem.head _ | apply List.Mem.tail))
        refine load_box (d := zd (iv true a / iv t b)) 1 rfl ho rfl (load_I _ _) fun r => ?_
        refine load_box (d := zd (iv true a % iv t b)) 0 rfl ho' rfl (load_I _ _) fun r' => ?_
        refine fin ⟨rfl, r, r', rfl, rfl⟩ (Seals.trans (Seals.trans (Seals.trans (Seals.trans (Seals.drop 0 _ _) (Seals.drop 0 _ _)) (Seals.drop 0 _ _)) (Seals.drop 0 _ _)) (Seals.sub (by repeat (first | exact Sub.nil _ | refine Sub.cons (by repeat (first | exact List.Mem.head _ | apply List.Mem.tail)) ?_))))
      · refine call_fn (made_of n' false (nv a / nv b + 1) (iv true a / iv t b) (by rw [k1.1, if_neg (fun h => bne_iff_ne.1 h hc)]; rfl)) (Seals.refl _ _) (by repeat (first | exact Sub.nil _ | refine Sub.cons (by repeat (first | exact List.Mem.head _ | apply List.Mem.tail)) ?_)) ?_
        rintro r1 _ _ ⟨rfl, rfl⟩
        refine call_fn (made_of d' false (nv b - nv a % nv b) (iv true a % iv t b) k1.2) (Seals.refl _ _) (by repeat (first | exact Sub.nil _ | refine Sub.cons (by repeat (first | exact List.Mem.head _ | apply List.Mem.tail)) ?_)) ?_
        rintro r2 _ _ ⟨rfl, rfl⟩
        refine store_box (d := zd (iv true a / iv t b)) 1 rfl ho rfl (by kernel_rfl) ?_ ?_; exact Reads.fact (by repeat (first | exact List.Mem.head _ | apply List.Mem.tail))
        refine store_box (d := zd (iv true a % iv t b)) 0 rfl ho' rfl (by kernel_rfl) ?_ ?_; exact Reads.fact (by repeat (first | exact List.Mem.head _ | apply List.Mem.tail))
        refine load_box (d := zd (iv true a / iv t b)) 1 rfl ho rfl (load_I _ _) fun r => ?_
        refine load_box (d := zd (iv true a % iv t b)) 0 rfl ho' rfl (load_I _ _) fun r' => ?_
        refine fin ⟨rfl, r, r', rfl, rfl⟩ (Seals.trans (Seals.trans (Seals.trans (Seals.trans (Seals.drop 0 _ _) (Seals.drop 0 _ _)) (Seals.drop 0 _ _)) (Seals.drop 0 _ _)) (Seals.sub (by repeat (first | exact Sub.nil _ | refine Sub.cons (by repeat (first | exact List.Mem.head _ | apply List.Mem.tail)) ?_))))
    · have k0 := key0 (fun h => hc (by have := hrp.2 h.2; omega))
      refine field_box 3 rfl hp ?_
      refine load_box_field_one 3 rfl (Part.left (Part.refl _)) ?_
      refine field_box 2 rfl hq ?_
      refine load_box_field_one 2 rfl (Part.left (Part.refl _)) ?_
      refine bne_split (fun hc => ?_) (fun hc => ?_)
      · refine call_fn (made_of n true (nv a / nv b) (iv true a / iv t b) (by rw [k0.1, if_pos (bne_iff_ne.2 hc)]; rfl)) (Seals.refl _ _) (by repeat (first | exact Sub.nil _ | refine Sub.cons (by repeat (first | exact List.Mem.head _ | apply List.Mem.tail)) ?_)) ?_
        rintro r1 _ _ ⟨rfl, rfl⟩
        refine call_fn (made_of d false (nv a % nv b) (iv true a % iv t b) k0.2) (Seals.refl _ _) (by repeat (first | exact Sub.nil _ | refine Sub.cons (by repeat (first | exact List.Mem.head _ | apply List.Mem.tail)) ?_)) ?_
        rintro r2 _ _ ⟨rfl, rfl⟩
        refine store_box (d := zd (iv true a / iv t b)) 1 rfl ho rfl (by kernel_rfl) ?_ ?_; exact Reads.fact (by repeat (first | exact List.Mem.head _ | apply List.Mem.tail))
        refine store_box (d := zd (iv true a % iv t b)) 0 rfl ho' rfl (by kernel_rfl) ?_ ?_; exact Reads.fact (by repeat (first | exact List.Mem.head _ | apply List.Mem.tail))
        refine load_box (d := zd (iv true a / iv t b)) 1 rfl ho rfl (load_I _ _) fun r => ?_
        refine load_box (d := zd (iv true a % iv t b)) 0 rfl ho' rfl (load_I _ _) fun r' => ?_
        refine fin ⟨rfl, r, r', rfl, rfl⟩ (Seals.trans (Seals.trans (Seals.trans (Seals.trans (Seals.drop 0 _ _) (Seals.drop 0 _ _)) (Seals.drop 0 _ _)) (Seals.drop 0 _ _)) (Seals.sub (by repeat (first | exact Sub.nil _ | refine Sub.cons (by repeat (first | exact List.Mem.head _ | apply List.Mem.tail)) ?_))))
      · refine call_fn (made_of n false (nv a / nv b) (iv true a / iv t b) (by rw [k0.1, if_neg (fun h => bne_iff_ne.1 h hc)]; rfl)) (Seals.refl _ _) (by repeat (first | exact Sub.nil _ | refine Sub.cons (by repeat (first | exact List.Mem.head _ | apply List.Mem.tail)) ?_)) ?_
        rintro r1 _ _ ⟨rfl, rfl⟩
        refine call_fn (made_of d false (nv a % nv b) (iv true a % iv t b) k0.2) (Seals.refl _ _) (by repeat (first | exact Sub.nil _ | refine Sub.cons (by repeat (first | exact List.Mem.head _ | apply List.Mem.tail)) ?_)) ?_
        rintro r2 _ _ ⟨rfl, rfl⟩
        refine store_box (d := zd (iv true a / iv t b)) 1 rfl ho rfl (by kernel_rfl) ?_ ?_; exact Reads.fact (by repeat (first | exact List.Mem.head _ | apply List.Mem.tail))
        refine store_box (d := zd (iv true a % iv t b)) 0 rfl ho' rfl (by kernel_rfl) ?_ ?_; exact Reads.fact (by repeat (first | exact List.Mem.head _ | apply List.Mem.tail))
        refine load_box (d := zd (iv true a / iv t b)) 1 rfl ho rfl (load_I _ _) fun r => ?_
        refine load_box (d := zd (iv true a % iv t b)) 0 rfl ho' rfl (load_I _ _) fun r' => ?_
        refine fin ⟨rfl, r, r', rfl, rfl⟩ (Seals.trans (Seals.trans (Seals.trans (Seals.trans (Seals.drop 0 _ _) (Seals.drop 0 _ _)) (Seals.drop 0 _ _)) (Seals.drop 0 _ _)) (Seals.sub (by repeat (first | exact Sub.nil _ | refine Sub.cons (by repeat (first | exact List.Mem.head _ | apply List.Mem.tail)) ?_))))

end Go.Proofs.Ytajkjlgddmkkaaa

namespace Go.Proofs.Ytajkjlgddmkkaaa
open Go.RowKit

theorem rMake_meets (v : Value) (s : Bool) (a : List Nat) (ha : Lim a) (la : a.length ≤ 1099511627776) :
    Meets Try.prog 69 [.bool s, v] [(v, U a)] (fun r os fs => os = [] ∧ fs = [(r, zd (iv s a))]) := by
  refine meets_of_vc Try.func69 (by kernel_rfl) rfl (by kernel_rfl) (Nat.le_of_ble_eq_true rfl) ?_
  refine alloc_rule (d := I false []) fun o ho => ?_
  refine call_fn (rNorm_meets v a ha (by omega)) (Seals.refl _ _) (by repeat (first | exact Sub.nil _ | refine Sub.cons (by repeat (first | exact List.Mem.head _ | apply List.Mem.tail)) ?_)) ?_
  rintro w _ _ ⟨rfl, rfl⟩
  have e : decide (0 < (lims (nv a)).length) = decide (0 < nv a) := decide_eq_decide.2 ⟨fun h => Nat.pos_of_ne_zero fun e => by rw [e, lims_zero] at h; exact absurd h (by decide), fun h => List.length_pos_iff.2 fun e => by have := lims_eq_nil.1 e; omega⟩
  have hz := zd_of s (nv a)
  rw [← e] at hz
  change _ = zd (iv s a) at hz
  cases s with
  | false =>
    refine build2 (Knw.one rfl) (Knw.fact (by repeat (first | exact List.Mem.head _ | apply List.Mem.tail))) rfl rfl fun u => ?_
    rw [← hz]
    refine store_box (d := I false (lims (nv a))) 0 rfl ho rfl (by kernel_rfl) ?_ ?_; exact Reads.fact (by repeat (first | exact List.Mem.head _ | apply List.Mem.tail))
    refine load_box (d := I false (lims (nv a))) 0 rfl ho rfl (load_I _ _) fun r => ?_
    exact fin ⟨rfl, rfl⟩ (Seals.trans (Seals.drop 0 _ _) (Seals.sub (by repeat (first | exact Sub.nil _ | refine Sub.cons (by repeat (first | exact List.Mem.head _ | apply List.Mem.tail)) ?_))))
  | true =>
    refine len_fact (by repeat (first | exact List.Mem.head _ | apply List.Mem.tail)) fun _ => ?_
    refine cmp_split _ rfl (fun hc => ?_) (fun hc => ?_)
    · refine build2 (Knw.one rfl) (Knw.fact (by repeat (first | exact List.Mem.head _ | apply List.Mem.tail))) rfl rfl fun u => ?_
      rw [show (true && decide (0 < (lims (nv a)).length)) = true from decide_eq_true (by omega)] at hz
      rw [← hz]
      refine store_box (d := I true (lims (nv a))) 0 rfl ho rfl (by kernel_rfl) ?_ ?_; exact Reads.fact (by repeat (first | exact List.Mem.head _ | apply List.Mem.tail))
      refine load_box (d := I true (lims (nv a))) 0 rfl ho rfl (load_I _ _) fun r => ?_
      exact fin ⟨rfl, rfl⟩ (Seals.trans (Seals.drop 0 _ _) (Seals.sub (by repeat (first | exact Sub.nil _ | refine Sub.cons (by repeat (first | exact List.Mem.head _ | apply List.Mem.tail)) ?_))))
    · refine build2 (Knw.one rfl) (Knw.fact (by repeat (first | exact List.Mem.head _ | apply List.Mem.tail))) rfl rfl fun u => ?_
      rw [show (true && decide (0 < (lims (nv a)).length)) = false from decide_eq_false (by omega)] at hz
      rw [← hz]
      refine store_box (d := I false (lims (nv a))) 0 rfl ho rfl (by kernel_rfl) ?_ ?_; exact Reads.fact (by repeat (first | exact List.Mem.head _ | apply List.Mem.tail))
      refine load_box (d := I false (lims (nv a))) 0 rfl ho rfl (load_I _ _) fun r => ?_
      exact fin ⟨rfl, rfl⟩ (Seals.trans (Seals.drop 0 _ _) (Seals.sub (by repeat (first | exact Sub.nil _ | refine Sub.cons (by repeat (first | exact List.Mem.head _ | apply List.Mem.tail)) ?_))))

theorem rMake_of (v : Value) (s : Bool) (n : Nat) (x : Int) (ll : (lims n).length ≤ 1099511627776) (e : x = if s then -(n : Int) else (n : Int)) :
    Meets Try.prog 69 [.bool s, v] [(v, U (lims n))] (fun r os fs => os = [] ∧ fs = [(r, zd x)]) := by
  have := rMake_meets v s (lims n) (Lim_lims _) ll
  unfold iv at this
  rwa [nv_lims, ← e] at this

theorem rZNorm_meets (v : Value) (s : Bool) (a : List Nat) (ha : Lim a) (la : a.length ≤ 1099511627776) :
    Meets Try.prog 71 [v] [(v, I s a)] (fun r os fs => os = [] ∧ fs = [(r, zd (iv s a))]) := by
  refine meets_of_vc Try.func71 (by kernel_rfl) rfl (by kernel_rfl) (Nat.le_of_ble_eq_true rfl) ?_
  refine box_rule (Reads.fact (d := I s a) (by repeat (first | exact List.Mem.head _ | apply List.Mem.tail))) fun p hp => ?_
  refine alloc_rule (d := I false []) fun o ho => ?_
  refine field_box 1 rfl hp ?_
  refine load_box_field_one 1 rfl (Part.left (Part.refl _)) ?_
  refine field_box 1 rfl hp ?_
  refine load_box_field 1 rfl (Part.right (Part.refl _)) (load_L _) fun u => ?_
  refine call_fn (rMake_meets u s a ha la) (Seals.refl _ _) (by repeat (first | exact Sub.nil _ | refine Sub.cons (by repeat (first | exact List.Mem.head _ | apply List.Mem.tail)) ?_)) ?_
  rintro w _ _ ⟨rfl, rfl⟩
  refine store_box (d := zd (iv s a)) 0 rfl ho rfl (by kernel_rfl) ?_ ?_; exact Reads.fact (by repeat (first | exact List.Mem.head _ | apply List.Mem.tail))
  refine load_box (d := zd (iv s a)) 0 rfl ho rfl (load_I _ _) fun r => ?_
  exact fin ⟨rfl, rfl⟩ (Seals.trans (Seals.trans (Seals.drop 0 _ _) (Seals.drop 0 _ _)) (Seals.sub (by repeat (first | exact Sub.nil _ | refine Sub.cons (by repeat (first | exact List.Mem.head _ | apply List.Mem.tail)) ?_))))

theorem rNeg_meets (v : Value) (s : Bool) (a : List Nat) (ha : Lim a) (la : a.length ≤ 1099511627776) :
    Meets Try.prog 35 [v] [(v, I s a)] (fun r os fs => os = [] ∧ fs = [(r, zd (-iv s a))]) := by
  refine meets_of_vc Try.func35 (by kernel_rfl) rfl (by kernel_rfl) (Nat.le_of_ble_eq_true rfl) ?_
  refine box_rule (Reads.fact (d := I s a) (by repeat (first | exact List.Mem.head _ | apply List.Mem.tail))) fun p hp => ?_
  refine alloc_rule (d := I false []) fun o ho => ?_
  refine field_box 1 rfl hp ?_
  refine load_box_field_one 1 rfl (Part.left (Part.refl _)) ?_
  refine field_box 1 rfl hp ?_
  refine load_box_field 1 rfl (Part.right (Part.refl _)) (load_L _) fun u => ?_
  refine call_fn (rMake_meets u (!s) a ha la) (Seals.refl _ _) (by repeat (first | exact Sub.nil _ | refine Sub.cons (by repeat (first | exact List.Mem.head _ | apply List.Mem.tail)) ?_)) ?_
  rintro w _ _ ⟨rfl, rfl⟩
  rw [show iv (!s) a = -iv s a from by cases s <;> simp [iv]]
  refine store_box (d := zd (-iv s a)) 0 rfl ho rfl (by kernel_rfl) ?_ ?_; exact Reads.fact (by repeat (first | exact List.Mem.head _ | apply List.Mem.tail))
  refine load_box (d := zd (-iv s a)) 0 rfl ho rfl (load_I _ _) fun r => ?_
  exact fin ⟨rfl, rfl⟩ (Seals.trans (Seals.trans (Seals.drop 0 _ _) (Seals.drop 0 _ _)) (Seals.sub (by repeat (first | exact Sub.nil _ | refine Sub.cons (by repeat (first | exact List.Mem.head _ | apply List.Mem.tail)) ?_))))

theorem rSign_meets (v : Value) (s : Bool) (a : List Nat) (ha : Lim a) (la : a.length ≤ 1099511627776) :
    Meets Try.prog 36 [v] [(v, I s a)] (fun r os fs => os = [] ∧ fs = [] ∧ r = .int .i64 (iv s a).sign) := by
  refine meets_of_vc Try.func36 (by kernel_rfl) rfl (by kernel_rfl) (Nat.le_of_ble_eq_true rfl) ?_
  refine box_rule (Reads.fact (d := I s a) (by repeat (first | exact List.Mem.head _ | apply List.Mem.tail))) fun p hp => ?_
  refine load_box (d := I s a) 0 rfl hp rfl (load_I _ _) fun x => ?_
  refine call_fn (rZNorm_meets x s a ha la) (Seals.refl _ _) (by repeat (first | exact Sub.nil _ | refine Sub.cons (by repeat (first | exact List.Mem.head _ | apply List.Mem.tail)) ?_)) ?_
  rintro y _ _ ⟨rfl, rfl⟩
  refine store_box (d := zd (iv s a)) 0 rfl hp rfl (by kernel_rfl) ?_ ?_; exact Reads.fact (by repeat (first | exact List.Mem.head _ | apply List.Mem.tail))
  generalize iv s a = x
  refine field_box 0 rfl hp ?_
  refine load_box_field (d := U (lims x.natAbs)) 0 rfl (Part.right (Part.refl _)) (load_L _) fun u => ?_
  refine len_fact (by repeat (first | exact List.Mem.head _ | apply List.Mem.tail)) fun _ => ?_
  have hl : (lims x.natAbs).length = 0 ↔ x = 0 := ⟨fun h => by have := lims_eq_nil.1 (List.eq_nil_of_length_eq_zero h); omega, fun h => by subst h; exact bit_nil⟩
  refine cmp_split _ rfl (fun hc => ?_) (fun hc => ?_)
  · have h0 : x = 0 := hl.1 (by omega)
    refine fin ⟨rfl, rfl, ?_⟩ (Seals.trans (Seals.drop 0 _ _) (Seals.nil _ _))
    rw [h0]; rfl
  · have h0 : x ≠ 0 := fun e => hc (by rw [hl.2 e]; rfl)
    refine field_box 0 rfl hp ?_
    refine load_box_field_one (u := .bool (decide (x < 0))) 0 rfl (Part.left (Part.refl _)) ?_
    by_cases hx : x < 0
    · rw [decide_eq_true hx]
      refine fin ⟨rfl, rfl, ?_⟩ (Seals.trans (Seals.drop 0 _ _) (Seals.nil _ _))
      rw [Int.sign_eq_neg_one_of_neg hx]; rfl
    · rw [decide_eq_false hx]
      refine fin ⟨rfl, rfl, ?_⟩ (Seals.trans (Seals.drop 0 _ _) (Seals.nil _ _))
      rw [Int.sign_eq_one_of_pos (by omega)]; rfl

theorem rOf_meets (x : Int) (h1 : -9223372036854775808 ≤ x) (h2 : x < 9223372036854775808) :
    Meets Try.prog 44 [.int .i64 x] [] (fun r os fs => os = [] ∧ fs = [(r, zd x)]) := by
  refine meets_of_vc Try.func44 (by kernel_rfl) rfl (by kernel_rfl) (Nat.le_of_ble_eq_true rfl) ?_
  refine alloc_rule (d := I false []) fun o ho => ?_
  have hv : nv [x.natAbs] = x.natAbs := by simp [nv]
  refine cmp_split _ rfl (fun hc => ?_) (fun hc => ?_)
  · refine conv_int ⟨_, Try.underlying2⟩ Try.underlying67 ((x.natAbs : Nat) : Int) (by rw [wrap_u64]; omega) ?_
    refine lit_U x.natAbs rfl fun u => ?_
    refine call_fn (rMake_meets u false [x.natAbs] (Lim.cons (by omega) Lim.nil) (by simp)) (Seals.refl _ _) (by repeat (first | exact Sub.nil _ | refine Sub.cons (by repeat (first | exact List.Mem.head _ | apply List.Mem.tail)) ?_)) ?_
    rintro r _ _ ⟨rfl, rfl⟩
    rw [show iv false [x.natAbs] = x from by unfold iv; rw [hv]; simp only [Bool.false_eq_true, if_false]; omega]
    refine store_box (d := zd x) 0 rfl ho rfl (by kernel_rfl) ?_ ?_; exact Reads.fact (by repeat (first | exact List.Mem.head _ | apply List.Mem.tail))
    refine load_box (d := zd x) 0 rfl ho rfl (load_I _ _) fun r => ?_
    exact fin ⟨rfl, rfl⟩ (Seals.trans (Seals.drop 0 _ _) (Seals.sub (by repeat (first | exact Sub.nil _ | refine Sub.cons (by repeat (first | exact List.Mem.head _ | apply List.Mem.tail)) ?_))))
  · refine ar rfl (by first | exact ⟨by omega, by omega⟩ | (simp only [inK]; omega)) ?_
    refine un_neg (m := -(x + 1)) (by rw [show (0 - (x + 1)) = -(x + 1) from by omega]; exact wrap_in ⟨by omega, by omega⟩) ?_
    refine conv_int ⟨_, Try.underlying2⟩ Try.underlying67 (-(x + 1)) (by rw [wrap_u64]; omega) ?_
    refine ar_wrap rfl ((x.natAbs : Nat) : Int) (by rw [wrap_u64]; omega) ?_
    refine lit_U x.natAbs rfl fun u => ?_
    refine call_fn (rMake_meets u true [x.natAbs] (Lim.cons (by omega) Lim.nil) (by simp)) (Seals.refl _ _) (by repeat (first | exact Sub.nil _ | refine Sub.cons (by repeat (first | exact List.Mem.head _ | apply List.Mem.tail)) ?_)) ?_
    rintro r _ _ ⟨rfl, rfl⟩
    rw [show iv true [x.natAbs] = x from by unfold iv; rw [hv]; simp only [if_true]; omega]
    refine store_box (d := zd x) 0 rfl ho rfl (by kernel_rfl) ?_ ?_; exact Reads.fact (by repeat (first | exact List.Mem.head _ | apply List.Mem.tail))
    refine load_box (d := zd x) 0 rfl ho rfl (load_I _ _) fun r => ?_
    exact fin ⟨rfl, rfl⟩ (Seals.trans (Seals.drop 0 _ _) (Seals.sub (by repeat (first | exact Sub.nil _ | refine Sub.cons (by repeat (first | exact List.Mem.head _ | apply List.Mem.tail)) ?_))))

theorem rZMul_meets (v w : Value) (s t : Bool) (a b : List Nat) (ha : Lim a) (hb : Lim b) (la : a.length ≤ 137438953472) (lb : b.length ≤ 137438953472) :
    Meets Try.prog 33 [v, w] [(v, I s a), (w, I t b)] (fun r os fs => os = [] ∧ fs = [(r, zd (iv s a * iv t b))]) := by
  have hml := lims_length_le (k := a.length + b.length) (n := nv a * nv b) (by rw [Nat.pow_add]; exact Nat.mul_lt_mul'' (nv_lt ha) (nv_lt hb))
  refine meets_of_vc Try.func33 (by kernel_rfl) rfl (by kernel_rfl) (Nat.le_of_ble_eq_true rfl) ?_
  refine box_rule (Reads.fact (d := I s a) (by repeat (first | exact List.Mem.head _ | apply List.Mem.tail))) fun p hp => ?_
  refine box_rule (Reads.fact (d := I t b) (by repeat (first | exact List.Mem.head _ | apply List.Mem.tail))) fun q hq => ?_
  refine alloc_rule (d := I false []) fun o ho => ?_
  refine draw_rule [0, 1, 2, 3, 4, 5, 6, 7, 8, 9, 10, 11] [0, 1, 2, 3, 4, 5, 6, 7, 8, 9, 10, 11] (by kernel_rfl) (by kernel_rfl) ?_
  refine field_box 2 rfl hp ?_
  refine load_box_field_one 2 rfl (Part.left (Part.refl _)) ?_
  refine field_box 1 rfl hq ?_
  refine load_box_field_one 1 rfl (Part.left (Part.refl _)) ?_
  refine bne_split (fun hc => ?_) (fun hc => ?_)
  ·
    refine field_box 2 rfl hp ?_
    refine load_box_field 2 rfl (Part.right (Part.refl _)) (load_L _) fun x => ?_
    refine field_box 1 rfl hq ?_
    refine load_box_field 1 rfl (Part.right (Part.refl _)) (load_L _) fun y => ?_
    refine call_fn (rMul_meets x y a b ha hb (by omega) (by omega)) (Seals.refl _ _) (by repeat (first | exact Sub.nil _ | refine Sub.cons (by repeat (first | exact List.Mem.head _ | apply List.Mem.tail)) ?_)) ?_
    rintro z _ _ ⟨rfl, rfl⟩
    have e : iv s a * iv t b = -((nv a * nv b : Nat) : Int) := by cases s <;> cases t <;> simp_all [iv, Int.mul_neg, Int.neg_mul]
    refine call_fn (rMake_of z true (nv a * nv b) (iv s a * iv t b) (by omega) e) (Seals.refl _ _) (by repeat (first | exact Sub.nil _ | refine Sub.cons (by repeat (first | exact List.Mem.head _ | apply List.Mem.tail)) ?_)) ?_
    rintro r _ _ ⟨rfl, rfl⟩
    refine store_box (d := zd (iv s a * iv t b)) 0 rfl ho rfl (by kernel_rfl) ?_ ?_; exact Reads.fact (by repeat (first | exact List.Mem.head _ | apply List.Mem.tail))
    refine load_box (d := zd (iv s a * iv t b)) 0 rfl ho rfl (load_I _ _) fun r => ?_
    exact fin ⟨rfl, rfl⟩ (Seals.trans (Seals.trans (Seals.trans (Seals.drop 0 _ _) (Seals.drop 0 _ _)) (Seals.drop 0 _ _)) (Seals.sub (by repeat (first | exact Sub.nil _ | refine Sub.cons (by repeat (first | exact List.Mem.head _ | apply List.Mem.tail)) ?_))))
  ·
    refine field_box 2 rfl hp ?_
    refine load_box_field 2 rfl (Part.right (Part.refl _)) (load_L _) fun x => ?_
    refine field_box 1 rfl hq ?_
    refine load_box_field 1 rfl (Part.right (Part.refl _)) (load_L _) fun y => ?_
    refine call_fn (rMul_meets x y a b ha hb (by omega) (by omega)) (Seals.refl _ _) (by repeat (first | exact Sub.nil _ | refine Sub.cons (by repeat (first | exact List.Mem.head _ | apply List.Mem.tail)) ?_)) ?_
    rintro z _ _ ⟨rfl, rfl⟩
    have e : iv s a * iv t b = ((nv a * nv b : Nat) : Int) := by cases s <;> cases t <;> simp_all [iv, Int.mul_neg, Int.neg_mul, Int.neg_mul_neg]
    refine call_fn (rMake_of z false (nv a * nv b) (iv s a * iv t b) (by omega) e) (Seals.refl _ _) (by repeat (first | exact Sub.nil _ | refine Sub.cons (by repeat (first | exact List.Mem.head _ | apply List.Mem.tail)) ?_)) ?_
    rintro r _ _ ⟨rfl, rfl⟩
    refine store_box (d := zd (iv s a * iv t b)) 0 rfl ho rfl (by kernel_rfl) ?_ ?_; exact Reads.fact (by repeat (first | exact List.Mem.head _ | apply List.Mem.tail))
    refine load_box (d := zd (iv s a * iv t b)) 0 rfl ho rfl (load_I _ _) fun r => ?_
    exact fin ⟨rfl, rfl⟩ (Seals.trans (Seals.trans (Seals.trans (Seals.drop 0 _ _) (Seals.drop 0 _ _)) (Seals.drop 0 _ _)) (Seals.sub (by repeat (first | exact Sub.nil _ | refine Sub.cons (by repeat (first | exact List.Mem.head _ | apply List.Mem.tail)) ?_))))

theorem iv_abs (s : Bool) (a : List Nat) : (iv s a).natAbs = nv a := by cases s <;> simp [iv]

theorem rZAdd_meets (v w : Value) (s t : Bool) (a b : List Nat) (ha : Lim a) (hb : Lim b) (la : a.length ≤ 137438953472) (lb : b.length ≤ 137438953472) :
    Meets Try.prog 34 [v, w] [(v, I s a), (w, I t b)] (fun r os fs => os = [] ∧ fs = [(r, zd (iv s a + iv t b))]) := by
  refine meets_of_vc Try.func34 (by kernel_rfl) rfl (by kernel_rfl) (Nat.le_of_ble_eq_true rfl) ?_
  refine box_rule (Reads.fact (d := I s a) (by repeat (first | exact List.Mem.head _ | apply List.Mem.tail))) fun p hp => ?_
  refine box_rule (Reads.fact (d := I t b) (by repeat (first | exact List.Mem.head _ | apply List.Mem.tail))) fun q hq => ?_
  refine alloc_rule (d := I false []) fun o ho => ?_
  refine load_box (d := I s a) 2 rfl hp rfl (load_I _ _) fun v1 => ?_
  refine call_fn (rZNorm_meets v1 s a ha (by omega)) (Seals.refl _ _) (by repeat (first | exact Sub.nil _ | refine Sub.cons (by repeat (first | exact List.Mem.head _ | apply List.Mem.tail)) ?_)) ?_
  rintro v2 _ _ ⟨rfl, rfl⟩
  refine store_box (d := zd (iv s a)) 2 rfl hp rfl (by kernel_rfl) ?_ ?_; exact Reads.fact (by repeat (first | exact List.Mem.head _ | apply List.Mem.tail))
  refine load_box (d := I t b) 1 rfl hq rfl (load_I _ _) fun w1 => ?_
  refine call_fn (rZNorm_meets w1 t b hb (by omega)) (Seals.refl _ _) (by repeat (first | exact Sub.nil _ | refine Sub.cons (by repeat (first | exact List.Mem.head _ | apply List.Mem.tail)) ?_)) ?_
  rintro w2 _ _ ⟨rfl, rfl⟩
  refine store_box (d := zd (iv t b)) 1 rfl hq rfl (by kernel_rfl) ?_ ?_; exact Reads.fact (by repeat (first | exact List.Mem.head _ | apply List.Mem.tail))
  have hxl : (lims (iv s a).natAbs).length ≤ a.length := by rw [iv_abs]; exact lims_length_le (nv_lt ha)
  have hyl : (lims (iv t b).natAbs).length ≤ b.length := by rw [iv_abs]; exact lims_length_le (nv_lt hb)
  have hbig : ∀ n, n ≤ nv a + nv b → (lims n).length ≤ a.length + b.length + 1 := fun n hn => lims_length_le (by
    have h1 := nv_lt ha
    have h2 := nv_lt hb
    have h3 := Nat.pow_le_pow_right (show 0 < 18446744073709551616 by decide) (show a.length ≤ a.length + b.length by omega)
    have h4 := Nat.pow_le_pow_right (show 0 < 18446744073709551616 by decide) (show b.length ≤ a.length + b.length by omega)
    rw [Nat.pow_succ]
    generalize 18446744073709551616 ^ (a.length + b.length) = Q at *
    generalize 18446744073709551616 ^ a.length = Q1 at *
    generalize 18446744073709551616 ^ b.length = Q2 at *
    omega)
  have hxa := iv_abs s a
  have hyb := iv_abs t b
  generalize iv s a = x at *
  generalize iv t b = y at *
  refine field_box 2 rfl hp ?_
  refine load_box_field_one (u := .bool (decide (x < 0))) 2 rfl (Part.left (Part.refl _)) ?_
  refine field_box 1 rfl hq ?_
  refine load_box_field_one (u := .bool (decide (y < 0))) 1 rfl (Part.left (Part.refl _)) ?_
  refine beq_split (fun hc => ?_) (fun hc => ?_)
  · refine draw_rule [0, 1, 2, 3, 4, 5, 6, 7, 8] [0, 1, 2, 3, 4, 5, 6, 7, 8] (by kernel_rfl) (by kernel_rfl) ?_
    refine field_box 2 rfl hp ?_
    refine load_box_field_one (u := .bool (decide (x < 0))) 2 rfl (Part.left (Part.refl _)) ?_
    refine field_box 2 rfl hp ?_
    refine load_box_field (d := U (lims (x).natAbs)) 2 rfl (Part.right (Part.refl _)) (load_L _) fun x1 => ?_
    refine field_box 1 rfl hq ?_
    refine load_box_field (d := U (lims (y).natAbs)) 1 rfl (Part.right (Part.refl _)) (load_L _) fun y1 => ?_
    refine call_fn (rAdd_meets x1 y1 (lims x.natAbs) (lims y.natAbs) (Lim_lims _) (Lim_lims _) (by omega) (by omega)) (Seals.refl _ _) (by repeat (first | exact Sub.nil _ | refine Sub.cons (by repeat (first | exact List.Mem.head _ | apply List.Mem.tail)) ?_)) ?_
    rintro z _ _ ⟨rfl, rfl⟩
    rw [nv_lims, nv_lims]
    have e : x + y = if decide (x < 0) then -((x.natAbs + y.natAbs : Nat) : Int) else ((x.natAbs + y.natAbs : Nat) : Int) := by
      have := decide_eq_decide.1 hc
      by_cases hx : x < 0
      · simp only [hx, decide_true, if_true]; omega
      · simp only [hx, decide_false, Bool.false_eq_true, if_false]; omega
    refine call_fn (rMake_of z (decide (x < 0)) (x.natAbs + y.natAbs) (x + y) (by have := hbig (x.natAbs + y.natAbs) (by omega); omega) e) (Seals.refl _ _) (by repeat (first | exact Sub.nil _ | refine Sub.cons (by repeat (first | exact List.Mem.head _ | apply List.Mem.tail)) ?_)) ?_
    rintro r _ _ ⟨rfl, rfl⟩
    refine store_box (d := zd (x + y)) 0 rfl ho rfl (by kernel_rfl) ?_ ?_; exact Reads.fact (by repeat (first | exact List.Mem.head _ | apply List.Mem.tail))
    refine load_box (d := zd (x + y)) 0 rfl ho rfl (load_I _ _) fun r => ?_
    exact fin ⟨rfl, rfl⟩ (Seals.trans (Seals.trans (Seals.trans (Seals.drop 0 _ _) (Seals.drop 0 _ _)) (Seals.drop 0 _ _)) (Seals.sub (by repeat (first | exact Sub.nil _ | refine Sub.cons (by repeat (first | exact List.Mem.head _ | apply List.Mem.tail)) ?_))))
  · have hc' : ¬ (x < 0 ↔ y < 0) := fun h => hc (decide_eq_decide.2 h)
    refine field_box 2 rfl hp ?_
    refine load_box_field (d := U (lims (x).natAbs)) 2 rfl (Part.right (Part.refl _)) (load_L _) fun x1 => ?_
    refine field_box 1 rfl hq ?_
    refine load_box_field (d := U (lims (y).natAbs)) 1 rfl (Part.right (Part.refl _)) (load_L _) fun y1 => ?_
    refine call_fn (rSub_meets x1 y1 (lims x.natAbs) (lims y.natAbs) (Lim_lims _) (Lim_lims _) (by omega) (by omega)) (Seals.refl _ _) (by repeat (first | exact Sub.nil _ | refine Sub.cons (by repeat (first | exact List.Mem.head _ | apply List.Mem.tail)) ?_)) ?_
    rw [nv_lims, nv_lims]
    rintro _ _ _ ⟨rfl, ⟨hlt, rfl, rfl⟩ | ⟨hle, z, rfl, rfl⟩⟩
    ·
      refine field_box 1 rfl hq ?_
      refine load_box_field (d := U (lims (y).natAbs)) 1 rfl (Part.right (Part.refl _)) (load_L _) fun y2 => ?_
      refine field_box 2 rfl hp ?_
      refine load_box_field (d := U (lims (x).natAbs)) 2 rfl (Part.right (Part.refl _)) (load_L _) fun x2 => ?_
      refine call_fn (rSub_meets y2 x2 (lims y.natAbs) (lims x.natAbs) (Lim_lims _) (Lim_lims _) (by omega) (by omega)) (Seals.refl _ _) (by repeat (first | exact Sub.nil _ | refine Sub.cons (by repeat (first | exact List.Mem.head _ | apply List.Mem.tail)) ?_)) ?_
      rw [nv_lims, nv_lims]
      rintro _ _ _ ⟨rfl, ⟨hlt', rfl, rfl⟩ | ⟨hle', z, rfl, rfl⟩⟩
      · omega
      refine field_box 1 rfl hq ?_
      refine load_box_field_one (u := .bool (decide (y < 0))) 1 rfl (Part.left (Part.refl _)) ?_
      have e : x + y = if decide (y < 0) then -((y.natAbs - x.natAbs : Nat) : Int) else ((y.natAbs - x.natAbs : Nat) : Int) := by
        by_cases hy : y < 0
        · simp only [hy, decide_true, if_true]; omega
        · simp only [hy, decide_false, Bool.false_eq_true, if_false]; omega
      refine call_fn (rMake_of z (decide (y < 0)) (y.natAbs - x.natAbs) (x + y) (by have := hbig (y.natAbs - x.natAbs) (by omega); omega) e) (Seals.refl _ _) (by repeat (first | exact Sub.nil _ | refine Sub.cons (by repeat (first | exact List.Mem.head _ | apply List.Mem.tail)) ?_)) ?_
      rintro r _ _ ⟨rfl, rfl⟩
      refine store_box (d := zd (x + y)) 0 rfl ho rfl (by kernel_rfl) ?_ ?_; exact Reads.fact (by repeat (first | exact List.Mem.head _ | apply List.Mem.tail))
      refine load_box (d := zd (x + y)) 0 rfl ho rfl (load_I _ _) fun r => ?_
      exact fin ⟨rfl, rfl⟩ (Seals.trans (Seals.trans (Seals.trans (Seals.drop 0 _ _) (Seals.drop 0 _ _)) (Seals.drop 0 _ _)) (Seals.sub (by repeat (first | exact Sub.nil _ | refine Sub.cons (by repeat (first | exact List.Mem.head _ | apply List.Mem.tail)) ?_))))
    ·
      refine field_box 2 rfl hp ?_
      refine load_box_field_one (u := .bool (decide (x < 0))) 2 rfl (Part.left (Part.refl _)) ?_
      have e : x + y = if decide (x < 0) then -((x.natAbs - y.natAbs : Nat) : Int) else ((x.natAbs - y.natAbs : Nat) : Int) := by
        by_cases hx : x < 0
        · simp only [hx, decide_true, if_true]; omega
        · simp only [hx, decide_false, Bool.false_eq_true, if_false]; omega
      refine call_fn (rMake_of z (decide (x < 0)) (x.natAbs - y.natAbs) (x + y) (by have := hbig (x.natAbs - y.natAbs) (by omega); omega) e) (Seals.refl _ _) (by repeat (first | exact Sub.nil _ | refine Sub.cons (by repeat (first | exact List.Mem.head _ | apply List.Mem.tail)) ?_)) ?_
      rintro r _ _ ⟨rfl, rfl⟩
      refine store_box (d := zd (x + y)) 0 rfl ho rfl (by kernel_rfl) ?_ ?_; exact Reads.fact (by repeat (first | exact List.Mem.head _ | apply List.Mem.tail))
      refine load_box (d := zd (x + y)) 0 rfl ho rfl (load_I _ _) fun r => ?_
      exact fin ⟨rfl, rfl⟩ (Seals.trans (Seals.trans (Seals.trans (Seals.drop 0 _ _) (Seals.drop 0 _ _)) (Seals.drop 0 _ _)) (Seals.sub (by repeat (first | exact Sub.nil _ | refine Sub.cons (by repeat (first | exact List.Mem.head _ | apply List.Mem.tail)) ?_))))

theorem zd_I (x : Int) : zd x = I (decide (x < 0)) (lims x.natAbs) := rfl
theorem iv_zd (x : Int) : iv (decide (x < 0)) (lims x.natAbs) = x := by
  unfold iv
  rw [nv_lims]
  by_cases hx : x < 0
  · simp only [hx, decide_true, if_true]; omega
  · simp only [hx, decide_false, Bool.false_eq_true, if_false]; omega

theorem rZSub_meets (v w : Value) (s t : Bool) (a b : List Nat) (ha : Lim a) (hb : Lim b) (la : a.length ≤ 137438953472) (lb : b.length ≤ 137438953472) :
    Meets Try.prog 43 [v, w] [(v, I s a), (w, I t b)] (fun r os fs => os = [] ∧ fs = [(r, zd (iv s a - iv t b))]) := by
  refine meets_of_vc Try.func43 (by kernel_rfl) rfl (by kernel_rfl) (Nat.le_of_ble_eq_true rfl) ?_
  refine box_rule (Reads.fact (d := I s a) (by repeat (first | exact List.Mem.head _ | apply List.Mem.tail))) fun p hp => ?_
  refine box_rule (Reads.fact (d := I t b) (by repeat (first | exact List.Mem.head _ | apply List.Mem.tail))) fun q hq => ?_
  refine alloc_rule (d := I false []) fun o ho => ?_
  refine draw_rule [0, 1, 2, 3, 4] [0, 1, 2, 3, 4] (by kernel_rfl) (by kernel_rfl) ?_
  refine load_box (d := I s a) 2 rfl hp rfl (load_I _ _) fun x => ?_
  refine load_box (d := I t b) 1 rfl hq rfl (load_I _ _) fun y => ?_
  refine call_fn (rNeg_meets y t b hb (by omega)) (Seals.refl _ _) (by repeat (first | exact Sub.nil _ | refine Sub.cons (by repeat (first | exact List.Mem.head _ | apply List.Mem.tail)) ?_)) ?_
  rintro z _ _ ⟨rfl, rfl⟩
  have hyl : (lims (-iv t b).natAbs).length ≤ b.length := by rw [Int.natAbs_neg, iv_abs]; exact lims_length_le (nv_lt hb)
  refine call_fn (rZAdd_meets x z s (decide (-iv t b < 0)) a (lims (-iv t b).natAbs) ha (Lim_lims _) la (by omega)) (Seals.refl _ _) (by repeat (first | exact Sub.nil _ | refine Sub.cons (by repeat (first | exact List.Mem.head _ | apply List.Mem.tail)) ?_)) ?_
  rintro r _ _ ⟨rfl, rfl⟩
  rw [iv_zd, ← Int.sub_eq_add_neg]
  refine store_box (d := zd (iv s a - iv t b)) 0 rfl ho rfl (by kernel_rfl) ?_ ?_; exact Reads.fact (by repeat (first | exact List.Mem.head _ | apply List.Mem.tail))
  refine load_box (d := zd (iv s a - iv t b)) 0 rfl ho rfl (load_I _ _) fun r => ?_
  exact fin ⟨rfl, rfl⟩ (Seals.trans (Seals.trans (Seals.trans (Seals.drop 0 _ _) (Seals.drop 0 _ _)) (Seals.drop 0 _ _)) (Seals.sub (by repeat (first | exact Sub.nil _ | refine Sub.cons (by repeat (first | exact List.Mem.head _ | apply List.Mem.tail)) ?_))))

end Go.Proofs.Ytajkjlgddmkkaaa

namespace Go.Proofs.Ytajkjlgddmkkaaa
open Go.RowKit

/-- A list's data: its elements' data, one behind the other. -/
def LD {α : Type} (size : Nat) (f : α → Dat) (z : α) (l : List α) : Dat := .sl size l.length fun i => f (l.getD i z)

def ownL {α : Type} (size : Nat) (f : α → Dat) (z : α) (v : Value) (l : List α) : Own := own1 v size l.length fun i => f (l.getD i z)

section
variable {α : Type} {size : Nat} {f : α → Dat} {z : α} {P : Program} {t e ty : TypeId} {bytes : Nat} {os : List Own} {fs : List Fact} {K : Cont}

theorem empty_L [ht : TSl P t e size] [he : TEl P e size bytes] (f : α → Dat) (z : α) (hsz : size ≤ 16) (k : ∀ v, isSl v → K v (ownL size f z v [] :: os) fs) : BuildSliceK P t 0 [] os fs K := by
  have h1 := buildSlice_own (P := P) (t := t) (os := os) (fs := fs) (K := fun u os' fs' => ∃ os'' fs'', Seals os' fs' os'' fs'' ∧ K u os'' fs'') (n := 0) [] [] rfl rfl (by decide) hsz trivial
  refine ⟨Grw.sealed (h1 fun v hv => ⟨_, _, ?_, k v hv⟩).out⟩
  exact Seals.own_cong (os := own1 v size 0 (fun i => ([] : List Dat).getD i (.one undef)) :: os) (fs := fs) 0 (n' := ([] : List α).length) (fun i => f (([] : List α).getD i z)) rfl rfl fun i hi => absurd hi (Nat.not_lt_zero _)

theorem Seals.knw_cong {v : Value} {n n' : Nat} {g g' : Nat → Dat} (hn : n = n') (h : ∀ i, i < n → g i = g' i) : Seals os ((v, .sl size n g) :: fs) os ((v, .sl size n' g') :: fs) := by
  subst hn
  exact Seals.trans (Seals.add (Knw.sl_cong (Knw.fact (List.Mem.head _)) h)) (Seals.sub fun F hF => by
    rcases List.mem_cons.1 hF with rfl | hF
    · exact .head _
    · exact .tail _ (.tail _ hF))

theorem lit_L [ht : TSl P t e size] [he : TEl P e size bytes] {x : Value} (f : α → Dat) (z : α) (a : α) (hsz : size ≤ 16) (hx : Reads os fs x (f a)) (hc : (f a).cells = size) (k : ∀ v, K v os ((v, LD size f z [a]) :: fs)) : BuildSliceK P t 1 [(0, x)] os fs K := by
  have h1 := buildSlice_fact (P := P) (t := t) (os := os) (fs := fs) (K := fun u os' fs' => ∃ os'' fs'', Seals os' fs' os'' fs'' ∧ K u os'' fs'') (n := 1) [x] [f a] rfl rfl (by decide) hsz ⟨hx, hc, trivial⟩
  refine ⟨Grw.sealed (h1 fun v => ⟨_, _, ?_, k v⟩).out⟩
  exact Seals.knw_cong rfl fun i hi => by
    have : i = 0 := by omega
    subst this; rfl

theorem append_L [ht : TSl P t e size] [he : TEl P e size bytes] {a b : Value} {l m : List α} (pos : Nat) (h : nthOwn os pos = some (ownL size f z a l)) (hs : isSl a) (hb : Knw os fs b (LD size f z m)) (hm : l.length + m.length ≤ 9223372036854775807) (hby : (l.length + m.length) * bytes ≤ 140737488355328)
    (k : ∀ v, isSl v → K v (setOwn os pos (ownL size f z v (l ++ m))) fs) : AppendK P [t, t] ty a b os fs K := by
  have h1 := append_rule (P := P) (t := t) (ty := ty) (K := fun u os' fs' => ∃ os'' fs'', Seals os' fs' os'' fs'' ∧ K u os'' fs'') pos h hs hb hm hby
  refine ⟨Dyn.sealed (h1 fun v hv => ⟨_, _, ?_, k v hv⟩).out⟩
  have h2 := Seals.own_cong (os := setOwn os pos (own1 v size (l.length + m.length) (fun i => if i < l.length then f (l.getD i z) else f (m.getD (i - l.length) z)))) (fs := fs) pos (n' := (l ++ m).length) (fun i => f ((l ++ m).getD i z)) (nth_set h) (by simp) fun i hi => by
    simp only [List.getD_eq_getElem?_getD]
    by_cases hil : i < l.length
    · rw [if_pos hil, List.getElem?_append_left hil]
    · rw [if_neg hil, List.getElem?_append_right (by omega)]
  rw [set_set] at h2
  exact h2

theorem getD_setL {l : List α} {i j : Nat} {x z : α} (h : j < l.length) : (l.set j x).getD i z = if i = j then x else l.getD i z := by
  simp only [List.getD_eq_getElem?_getD, List.getElem?_set]
  by_cases hij : j = i
  · subst hij; simp [h]
  · have : i ≠ j := fun e => hij e.symm
    simp [hij, this]

theorem store_L {v x : Value} {l : List α} {j : Nat} (pos : Nat) (h : nthOwn os pos = some (ownL size f z v l)) (a : α) (hc : (f a).cells = size) (ht : (P.info? ty).map (·.size) = some size) (hx : Reads os fs x (f a))
    (hj : j < l.length) (k : K undef (setOwn os pos (ownL size f z v (l.set j a))) fs) : StoreK P ty (eptr v (j * size)) x os fs K := by
  have h1 := store_elem (P := P) (ty := ty) (x := x) (d := f a) (fs := fs)
    (K := fun u os' fs' => ∃ os'' fs'', Seals os' fs' os'' fs'' ∧ K u os'' fs'') pos h j hj hc ht hx
  refine ⟨Dyn.sealed (h1 ⟨_, _, ?_, k⟩).out⟩
  have h2 := Seals.own_cong (os := setOwn os pos (own1 v size l.length (upd (fun i => f (l.getD i z)) j (f a)))) (fs := fs) pos (n' := (l.set j a).length) (fun i => f ((l.set j a).getD i z)) (nth_set h) (by simp) fun i hi => by
    simp only [upd, getD_setL hj]
    by_cases hij : i = j
    · simp [hij]
    · simp [hij]
  rw [set_set] at h2
  exact h2

theorem Seals.L {v : Value} {l : List α} (pos : Nat) (h : nthOwn os pos = some (ownL size f z v l)) (hs : isSl v) : Seals os fs (dropOwn os pos) ((v, LD size f z l) :: fs) :=
  Seals.slice pos (fun i => f (l.getD i z)) h hs fun _ _ => rfl

end

abbrev Row := List (Bool × List Nat)

def z0 : Bool × List Nat := (false, [])
def J (x : Bool × List Nat) : Dat := I x.1 x.2
def jv (x : Bool × List Nat) : Int := iv x.1 x.2
/-- A row's data; rows' data. -/
def V (r : Row) : Dat := LD 2 J z0 r
def W (m : List Row) : Dat := LD 1 V [] m
def vv (r : Row) : List Int := r.map jv
def ww (m : List Row) : List (List Int) := m.map vv
def cn (x : Int) : Bool × List Nat := (decide (x < 0), lims x.natAbs)
def vd (l : List Int) : Dat := V (l.map cn)
def wd (m : List (List Int)) : Dat := W (m.map (·.map cn))

theorem zd_cn (x : Int) : zd x = J (cn x) := rfl
theorem jv_cn (x : Int) : jv (cn x) = x := iv_zd x
theorem vv_cn (l : List Int) : vv (l.map cn) = l := by
  unfold vv; rw [List.map_map]
  conv => rhs; rw [← List.map_id l]
  exact List.map_congr_left fun x _ => jv_cn x
theorem ww_cn (m : List (List Int)) : ww (m.map (·.map cn)) = m := by
  unfold ww; rw [List.map_map]
  conv => rhs; rw [← List.map_id m]
  exact List.map_congr_left fun x _ => vv_cn x

/-- All limbs are limbs, and there are at most k of them in each number. -/
def Fit (k : Nat) (r : Row) : Prop := ∀ x, x ∈ r → Lim x.2 ∧ x.2.length ≤ k
def Fits (k : Nat) (m : List Row) : Prop := ∀ r, r ∈ m → Fit k r

theorem Fit.get {k : Nat} {r : Row} (h : Fit k r) (i : Nat) : Lim (r.getD i z0).2 ∧ (r.getD i z0).2.length ≤ k := by
  rw [List.getD_eq_getElem?_getD]
  cases hi : r[i]? with
  | none => exact ⟨Lim.nil, Nat.zero_le _⟩
  | some x => exact h x (List.mem_of_getElem? hi)

theorem Fits.get {k : Nat} {m : List Row} (h : Fits k m) (i : Nat) : Fit k (m.getD i []) := by
  rw [List.getD_eq_getElem?_getD]
  cases hi : m[i]? with
  | none => exact fun _ h => by cases h
  | some x => exact h x (List.mem_of_getElem? hi)

theorem load_V (r : Row) : LoadAs Try.prog 37 (V r) := (inferInstance : TOne Try.prog 37)
theorem load_P (r : Row) : LoadAs Try.prog 46 (V r) := (inferInstance : TOne Try.prog 46)
theorem load_W (m : List Row) : LoadAs Try.prog 22 (W m) := (inferInstance : TOne Try.prog 22)
theorem load_J (x : Bool × List Nat) : LoadAs Try.prog 28 (J x) := load_I _ _

end Go.Proofs.Ytajkjlgddmkkaaa

namespace Go.Proofs.Ytajkjlgddmkkaaa
open Go.RowKit

theorem AppendK.post {P : Program} {ts : List TypeId} {ty : TypeId} {a b : Value} {os : List Own} {fs : List Fact} {K : Cont} (h : AppendK P ts ty a b os fs fun v os' fs' => ∃ os'' fs'', Seals os' fs' os'' fs'' ∧ K v os'' fs'') : AppendK P ts ty a b os fs K :=
  ⟨Dyn.sealed h.out⟩
theorem StoreK.post {P : Program} {t : TypeId} {a b : Value} {os : List Own} {fs : List Fact} {K : Cont} (h : StoreK P t a b os fs fun v os' fs' => ∃ os'' fs'', Seals os' fs' os'' fs'' ∧ K v os'' fs'') : StoreK P t a b os fs K :=
  ⟨Dyn.sealed h.out⟩

theorem list_eq_of_getD {l m : List Nat} (hl : l.length = m.length) (h : ∀ i, i < l.length → l.getD i 0 = m.getD i 0) : l = m := by
  refine List.ext_getElem hl fun n h1 h2 => ?_
  have := h n h1
  simpa [List.getD_eq_getElem?_getD, h1, h2] using this

theorem exact_meets (v w : Value) (x y : Bool × List Nat) :
    Meets Try.prog 20 [v, w] [(v, J x), (w, J y)] (fun r os fs => os = [] ∧ fs = [] ∧ r = .bool (decide (x = y))) := by
  refine meets_of_vc Try.func20 (by kernel_rfl) rfl (by kernel_rfl) (Nat.le_of_ble_eq_true rfl) ?_
  refine box_rule (Reads.fact (d := J x) (by repeat (first | exact List.Mem.head _ | apply List.Mem.tail))) fun p hp => ?_
  refine box_rule (Reads.fact (d := J y) (by repeat (first | exact List.Mem.head _ | apply List.Mem.tail))) fun q hq => ?_
  refine field_box 1 rfl hp ?_
  refine load_box_field_one 1 rfl (Part.left (Part.refl _)) ?_
  refine field_box 0 rfl hq ?_
  refine load_box_field_one 0 rfl (Part.left (Part.refl _)) ?_
  refine bne_split (fun hc => ?_) (fun hc => ?_)
  · refine fin ⟨rfl, rfl, ?_⟩ (Seals.trans (Seals.trans (Seals.drop 0 _ _) (Seals.drop 0 _ _)) (Seals.nil _ _))
    rw [decide_eq_false (fun e => hc (by rw [e]))]; rfl
  ·
    refine field_box 1 rfl hp ?_
    refine load_box_field 1 rfl (Part.right (Part.refl _)) (load_L _) fun u => ?_
    refine len_fact (by repeat (first | exact List.Mem.head _ | apply List.Mem.tail)) fun _ => ?_
    refine field_box 0 rfl hq ?_
    refine load_box_field 0 rfl (Part.right (Part.refl _)) (load_L _) fun u' => ?_
    refine len_fact (by repeat (first | exact List.Mem.head _ | apply List.Mem.tail)) fun _ => ?_
    refine cmp_split _ rfl (fun hl => ?_) (fun hl => ?_)
    · refine fin ⟨rfl, rfl, ?_⟩ (Seals.trans (Seals.trans (Seals.drop 0 _ _) (Seals.drop 0 _ _)) (Seals.nil _ _))
      rw [decide_eq_false (fun e => hl (by rw [e]))]; rfl
    · have hl' : x.2.length = y.2.length := by omega
      refine loop_rule (X := Nat) (fun i => ([(2, p), (3, q), (5, .int .i64 (i : Nat))], [own1 q 2 1 (fun _ => J y), own1 p 2 1 (fun _ => J x)], []))
        (fun i => i ≤ x.2.length ∧ ∀ k, k < i → x.2.getD k 0 = y.2.getD k 0) (fun i => x.2.length - i) rfl ?_ ?_
      · exact again 0 ⟨Nat.zero_le _, fun k hk => absurd hk (Nat.not_lt_zero _)⟩ trivial (by repeat (first | exact trivial | refine ⟨rfl, ?_⟩ | refine ⟨i64_eq (by first | omega | (simp only; omega)), ?_⟩ | refine ⟨u64_eq (by first | omega | (simp only; omega)), ?_⟩)) (Seals.nil _ _)
      · rintro i ⟨h1, h2⟩
        refine field_box 1 rfl hp ?_
        refine load_box_field 1 rfl (Part.right (Part.refl _)) (load_L _) fun u => ?_
        refine len_fact (by repeat (first | exact List.Mem.head _ | apply List.Mem.tail)) fun _ => ?_
        refine cmp_split _ rfl (fun hi => ?_) (fun hi => ?_)
        · refine draw_rule [0, 1, 2, 3, 4, 5, 6, 7, 8, 9, 10] [0, 1, 2, 3, 4, 5, 6, 7, 8, 9, 10] (by kernel_rfl) (by kernel_rfl) ?_
          refine field_box 1 rfl hp ?_
          refine load_box_field 1 rfl (Part.right (Part.refl _)) (load_L _) fun u1 => ?_
          refine index_fact (by repeat (first | exact List.Mem.head _ | apply List.Mem.tail)) i rfl (by omega) fun a1 => ?_
          refine load_one (by repeat (first | exact List.Mem.head _ | apply List.Mem.tail)) ?_
          refine field_box 0 rfl hq ?_
          refine load_box_field 0 rfl (Part.right (Part.refl _)) (load_L _) fun u2 => ?_
          refine index_fact (by repeat (first | exact List.Mem.head _ | apply List.Mem.tail)) i rfl (by omega) fun a2 => ?_
          refine load_one (by repeat (first | exact List.Mem.head _ | apply List.Mem.tail)) ?_
          refine cmp_split _ rfl (fun he => ?_) (fun he => ?_)
          · refine fin ⟨rfl, rfl, ?_⟩ (Seals.trans (Seals.trans (Seals.drop 0 _ _) (Seals.drop 0 _ _)) (Seals.nil _ _))
            rw [decide_eq_false (fun e => he (by rw [e]))]; rfl
          · refine ar rfl (by first | exact ⟨by omega, by omega⟩ | (simp only [inK]; omega)) ?_
            refine again (i + 1) ⟨by omega, fun k hk => ?_⟩ (by simp only; omega) (by repeat (first | exact trivial | refine ⟨rfl, ?_⟩ | refine ⟨i64_eq (by first | omega | (simp only; omega)), ?_⟩ | refine ⟨u64_eq (by first | omega | (simp only; omega)), ?_⟩)) (Seals.nil _ _)
            by_cases hki : k = i
            · subst hki; omega
            · exact h2 k (by omega)
        · refine fin ⟨rfl, rfl, ?_⟩ (Seals.trans (Seals.trans (Seals.drop 0 _ _) (Seals.drop 0 _ _)) (Seals.nil _ _))
          rw [decide_eq_true (Prod.ext_iff.2 ⟨hc, list_eq_of_getD hl' fun k hk => h2 k (by omega)⟩)]; rfl

theorem row_eq_of_getD {α : Type} {l m : List α} (z : α) (hl : l.length = m.length) (h : ∀ i, i < l.length → l.getD i z = m.getD i z) : l = m := by
  refine List.ext_getElem hl fun n h1 h2 => ?_
  have := h n h1
  simpa [List.getD_eq_getElem?_getD, h1, h2] using this

theorem exactAll_meets (v w : Value) (a b : Row) :
    Meets Try.prog 28 [v, w] [(v, V a), (w, V b)] (fun r os fs => os = [] ∧ fs = [] ∧ r = .bool (decide (a = b))) := by
  refine meets_of_vc Try.func28 (by kernel_rfl) rfl (by kernel_rfl) (Nat.le_of_ble_eq_true rfl) ?_
  refine len_fact (by repeat (first | exact List.Mem.head _ | apply List.Mem.tail)) fun _ => ?_
  refine len_fact (by repeat (first | exact List.Mem.head _ | apply List.Mem.tail)) fun _ => ?_
  refine cmp_split _ rfl (fun hl => ?_) (fun hl => ?_)
  · refine fin ⟨rfl, rfl, ?_⟩ (Seals.nil _ _)
    rw [decide_eq_false (fun e => hl (by rw [e]))]; rfl
  · have hl' : a.length = b.length := by omega
    refine loop_rule (X := Nat) (fun i => ([(0, v), (1, w), (5, .int .i64 (i : Nat))], [], [(v, V a), (w, V b)]))
      (fun i => i ≤ a.length ∧ ∀ k, k < i → a.getD k z0 = b.getD k z0) (fun i => a.length - i) rfl ?_ ?_
    · exact again 0 ⟨Nat.zero_le _, fun k hk => absurd hk (Nat.not_lt_zero _)⟩ trivial (by repeat (first | exact trivial | refine ⟨rfl, ?_⟩ | refine ⟨i64_eq (by first | omega | (simp only; omega)), ?_⟩ | refine ⟨u64_eq (by first | omega | (simp only; omega)), ?_⟩)) (Seals.sub (by repeat (first | exact Sub.nil _ | refine Sub.cons (by repeat (first | exact List.Mem.head _ | apply List.Mem.tail)) ?_)))
    · rintro i ⟨h1, h2⟩
      refine len_fact (by repeat (first | exact List.Mem.head _ | apply List.Mem.tail)) fun _ => ?_
      refine cmp_split _ rfl (fun hi => ?_) (fun hi => ?_)
      · refine draw_rule [0, 1, 2, 3, 4, 5, 6, 7, 8, 9] [0, 1, 2, 3, 4, 5, 6, 7, 8, 9] (by kernel_rfl) (by kernel_rfl) ?_
        refine index_fact (by repeat (first | exact List.Mem.head _ | apply List.Mem.tail)) i rfl (by omega) fun a1 => ?_
        refine load_fact (d := J (a.getD i z0)) (by repeat (first | exact List.Mem.head _ | apply List.Mem.tail)) (load_J _) fun x1 => ?_
        refine index_fact (by repeat (first | exact List.Mem.head _ | apply List.Mem.tail)) i rfl (by omega) fun a2 => ?_
        refine load_fact (d := J (b.getD i z0)) (by repeat (first | exact List.Mem.head _ | apply List.Mem.tail)) (load_J _) fun x2 => ?_
        refine call_fn (exact_meets x1 x2 (a.getD i z0) (b.getD i z0)) (Seals.refl _ _) (by repeat (first | exact Sub.nil _ | refine Sub.cons (by repeat (first | exact List.Mem.head _ | apply List.Mem.tail)) ?_)) ?_
        rintro _ _ _ ⟨rfl, rfl, rfl⟩
        by_cases he : a.getD i z0 = b.getD i z0
        · rw [decide_eq_true he]
          refine ar rfl (by first | exact ⟨by omega, by omega⟩ | (simp only [inK]; omega)) ?_
          refine again (i + 1) ⟨by omega, fun k hk => ?_⟩ (by simp only; omega) (by repeat (first | exact trivial | refine ⟨rfl, ?_⟩ | refine ⟨i64_eq (by first | omega | (simp only; omega)), ?_⟩ | refine ⟨u64_eq (by first | omega | (simp only; omega)), ?_⟩)) (Seals.sub (by repeat (first | exact Sub.nil _ | refine Sub.cons (by repeat (first | exact List.Mem.head _ | apply List.Mem.tail)) ?_)))
          by_cases hki : k = i
          · subst hki; exact he
          · exact h2 k (by omega)
        · rw [decide_eq_false he]
          refine fin ⟨rfl, rfl, ?_⟩ (Seals.nil _ _)
          rw [decide_eq_false (fun e => he (by rw [e]))]; rfl
      · refine fin ⟨rfl, rfl, ?_⟩ (Seals.nil _ _)
        rw [decide_eq_true (row_eq_of_getD z0 hl' fun k hk => h2 k (by omega))]; rfl

theorem rFits_meets (v : Value) (a : Row) (n k : Nat) :
    Meets Try.prog 22 [v, .int .i64 (n : Int), .int .i64 (k : Int)] [(v, V a)] (fun r os fs => os = [] ∧ fs = [] ∧ r = .bool (decide (a.length ≤ n ∧ ∀ x, x ∈ a → x.2.length ≤ k))) := by
  refine meets_of_vc Try.func22 (by kernel_rfl) rfl (by kernel_rfl) (Nat.le_of_ble_eq_true rfl) ?_
  refine len_fact (by repeat (first | exact List.Mem.head _ | apply List.Mem.tail)) fun _ => ?_
  refine cmp_split _ rfl (fun hl => ?_) (fun hl => ?_)
  · refine fin ⟨rfl, rfl, ?_⟩ (Seals.nil _ _)
    rw [decide_eq_false (fun e => by have := e.1; omega)]; rfl
  · refine loop_rule (X := Nat) (fun i => ([(0, v), (1, .int .i64 (n : Nat)), (2, .int .i64 (k : Nat)), (7, .int .i64 (i : Nat))], [], [(v, V a)]))
      (fun i => i ≤ a.length ∧ ∀ j, j < i → (a.getD j z0).2.length ≤ k) (fun i => a.length - i) rfl ?_ ?_
    · exact again 0 ⟨Nat.zero_le _, fun k hk => absurd hk (Nat.not_lt_zero _)⟩ trivial (by repeat (first | exact trivial | refine ⟨rfl, ?_⟩ | refine ⟨i64_eq (by first | omega | (simp only; omega)), ?_⟩ | refine ⟨u64_eq (by first | omega | (simp only; omega)), ?_⟩)) (Seals.sub (by repeat (first | exact Sub.nil _ | refine Sub.cons (by repeat (first | exact List.Mem.head _ | apply List.Mem.tail)) ?_)))
    · rintro i ⟨h1, h2⟩
      refine len_fact (by repeat (first | exact List.Mem.head _ | apply List.Mem.tail)) fun _ => ?_
      refine cmp_split _ rfl (fun hi => ?_) (fun hi => ?_)
      · have hlt : i < a.length := by omega
        refine index_fact (by repeat (first | exact List.Mem.head _ | apply List.Mem.tail)) i rfl hlt fun a1 => ?_
        refine field_fact (off := 1) (d := J (a.getD i z0)) (d' := U (a.getD i z0).2) (by repeat (first | exact List.Mem.head _ | apply List.Mem.tail)) (Part.right (Part.refl _)) fun a2 => ?_
        refine load_fact (d := U (a.getD i z0).2) (by repeat (first | exact List.Mem.head _ | apply List.Mem.tail)) (load_L _) fun x1 => ?_
        refine len_fact (by repeat (first | exact List.Mem.head _ | apply List.Mem.tail)) fun _ => ?_
        refine cmp_split _ rfl (fun he => ?_) (fun he => ?_)
        · refine fin ⟨rfl, rfl, ?_⟩ (Seals.nil _ _)
          refine congrArg Value.bool (decide_eq_false fun e => ?_).symm
          have := e.2 (a.getD i z0) (by rw [List.getD_eq_getElem?_getD, List.getElem?_eq_getElem hlt]; exact List.getElem_mem hlt)
          omega
        · refine ar rfl (by first | exact ⟨by omega, by omega⟩ | (simp only [inK]; omega)) ?_
          refine again (i + 1) ⟨by omega, fun j hj => ?_⟩ (by simp only; omega) (by repeat (first | exact trivial | refine ⟨rfl, ?_⟩ | refine ⟨i64_eq (by first | omega | (simp only; omega)), ?_⟩ | refine ⟨u64_eq (by first | omega | (simp only; omega)), ?_⟩)) (Seals.sub (by repeat (first | exact Sub.nil _ | refine Sub.cons (by repeat (first | exact List.Mem.head _ | apply List.Mem.tail)) ?_)))
          by_cases hji : j = i
          · subst hji; omega
          · exact h2 j (by omega)
      · refine fin ⟨rfl, rfl, ?_⟩ (Seals.nil _ _)
        refine congrArg Value.bool (decide_eq_true ⟨by omega, fun x hx => ?_⟩).symm
        obtain ⟨j, hj, rfl⟩ := List.getElem_of_mem hx
        have := h2 j (by omega)
        simpa [List.getD_eq_getElem?_getD, hj] using this

end Go.Proofs.Ytajkjlgddmkkaaa

namespace Go.Proofs.Ytajkjlgddmkkaaa
open Go.RowKit

theorem rOwn_meets (v : Value) (a : Row) (ll : a.length ≤ 274877906944) (hk : ∀ x, x ∈ a → x.2.length ≤ 1099511627776) :
    Meets Try.prog 23 [v] [(v, V a)] (fun r os fs => os = [ownL 2 J z0 r a] ∧ isSl r ∧ fs = []) := by
  refine meets_of_vc Try.func23 (by kernel_rfl) rfl (by kernel_rfl) (Nat.le_of_ble_eq_true rfl) ?_
  refine empty_L J z0 (by decide) fun w hw => ?_
  refine loop_rule (X := Nat × Value) (fun x => ([(0, v), (3, x.2), (4, .int .i64 (x.1 : Nat))], [ownL 2 J z0 x.2 (a.take x.1)], [(v, V a)])) (fun x => x.1 ≤ a.length ∧ isSl x.2) (fun x => a.length - x.1) rfl ?_ ?_
  · exact again (0, w) ⟨Nat.zero_le _, hw⟩ trivial (by repeat (first | exact trivial | refine ⟨rfl, ?_⟩ | refine ⟨i64_eq (by first | omega | (simp only; omega)), ?_⟩ | refine ⟨u64_eq (by first | omega | (simp only; omega)), ?_⟩)) (by simp only [List.take_zero]; exact Seals.sub (by repeat (first | exact Sub.nil _ | refine Sub.cons (by repeat (first | exact List.Mem.head _ | apply List.Mem.tail)) ?_)))
  · rintro ⟨i, w⟩ ⟨h1, hw⟩
    simp only at h1 hw ⊢
    refine len_fact (by repeat (first | exact List.Mem.head _ | apply List.Mem.tail)) fun _ => ?_
    refine cmp_split _ rfl (fun hi => ?_) (fun hi => ?_)
    · have hlt : i < a.length := by omega
      have hmag : (a.getD i z0).2.length ≤ 1099511627776 := hk _ (by rw [List.getD_eq_getElem?_getD, List.getElem?_eq_getElem hlt]; exact List.getElem_mem hlt)
      refine empty_U fun u hu => ?_
      refine index_fact (by repeat (first | exact List.Mem.head _ | apply List.Mem.tail)) i rfl hlt fun a1 => ?_
      refine field_fact (off := 1) (d := J (a.getD i z0)) (d' := U (a.getD i z0).2) (by repeat (first | exact List.Mem.head _ | apply List.Mem.tail)) (Part.right (Part.refl _)) fun a2 => ?_
      refine load_fact (d := U (a.getD i z0).2) (by repeat (first | exact List.Mem.head _ | apply List.Mem.tail)) (load_L _) fun x1 => ?_
      refine AppendK.post (append_U (l := []) 0 rfl hu (Knw.fact (by repeat (first | exact List.Mem.head _ | apply List.Mem.tail))) (by simp only [List.length_nil]; omega) (by simp only [List.length_nil]; omega) fun u2 hu2 => ⟨_, _, Seals.U 0 rfl hu2, ?_⟩)
      rw [List.nil_append]
      refine index_fact (by repeat (first | exact List.Mem.head _ | apply List.Mem.tail)) i rfl hlt fun a3 => ?_
      refine field_fact (off := 0) (d := J (a.getD i z0)) (d' := .one (.bool (a.getD i z0).1)) (by repeat (first | exact List.Mem.head _ | apply List.Mem.tail)) (Part.left (Part.refl _)) fun a4 => ?_
      refine load_one (by repeat (first | exact List.Mem.head _ | apply List.Mem.tail)) ?_
      refine build2 (Knw.one rfl) (Knw.fact (by repeat (first | exact List.Mem.head _ | apply List.Mem.tail))) rfl rfl fun s => ?_
      refine lit_L (size := 2) J z0 (a.getD i z0) (by decide) (Reads.fact (by repeat (first | exact List.Mem.head _ | apply List.Mem.tail))) rfl fun l1 => ?_
      refine append_L 0 rfl hw (Knw.fact (by repeat (first | exact List.Mem.head _ | apply List.Mem.tail))) (by simp; omega) (by simp; omega) fun w2 hw2 => ?_
      refine ar rfl (by first | exact ⟨by omega, by omega⟩ | (simp only [inK]; omega)) ?_
      refine again (i + 1, w2) ⟨by simp only; omega, hw2⟩ (by simp only; omega) (by repeat (first | exact trivial | refine ⟨rfl, ?_⟩ | refine ⟨i64_eq (by first | omega | (simp only; omega)), ?_⟩ | refine ⟨u64_eq (by first | omega | (simp only; omega)), ?_⟩)) ?_
      have e : a.take (i + 1) = a.take i ++ [a.getD i z0] := by rw [List.take_add_one]; simp [List.getD_eq_getElem?_getD, hlt]
      simp only [e]
      exact Seals.sub (by repeat (first | exact Sub.nil _ | refine Sub.cons (by repeat (first | exact List.Mem.head _ | apply List.Mem.tail)) ?_))
    · have hia : i = a.length := by omega
      refine fin ⟨?_, hw, rfl⟩ (Seals.nil _ _)
      rw [hia, List.take_length]; rfl

theorem zero_meets (v : Value) (x : Bool × List Nat) (hx : Lim x.2) (hl : x.2.length ≤ 1099511627776) :
    Meets Try.prog 92 [v] [(v, J x)] (fun r os fs => os = [] ∧ fs = [] ∧ r = .bool (decide (jv x = 0))) := by
  refine meets_of_vc Try.func92 (by kernel_rfl) rfl (by kernel_rfl) (Nat.le_of_ble_eq_true rfl) ?_
  refine box_rule (Reads.fact (d := J x) (by repeat (first | exact List.Mem.head _ | apply List.Mem.tail))) fun p hp => ?_
  refine load_box (d := J x) 0 rfl hp rfl (load_J _) fun u => ?_
  refine call_fn (rSign_meets u x.1 x.2 hx hl) (Seals.refl _ _) (by repeat (first | exact Sub.nil _ | refine Sub.cons (by repeat (first | exact List.Mem.head _ | apply List.Mem.tail)) ?_)) ?_
  rintro _ _ _ ⟨rfl, rfl, rfl⟩
  refine cmp_split _ rfl (fun hc => ?_) (fun hc => ?_)
  · refine fin ⟨rfl, rfl, ?_⟩ (Seals.trans (Seals.drop 0 _ _) (Seals.nil _ _))
    exact congrArg Value.bool (decide_eq_true (show jv x = 0 from Int.sign_eq_zero_iff_zero.1 hc)).symm
  · refine fin ⟨rfl, rfl, ?_⟩ (Seals.trans (Seals.drop 0 _ _) (Seals.nil _ _))
    exact congrArg Value.bool (decide_eq_false (fun e : jv x = 0 => hc (Int.sign_eq_zero_iff_zero.2 e))).symm

/-- The greatest index below k of a number other than 0; -1 if there is none. -/
def degTo (l : List Int) : Nat → Int
  | 0 => -1
  | k + 1 => if l.getD k 0 = 0 then degTo l k else (k : Int)

def deg (l : List Int) : Int := degTo l l.length

theorem vv_get (r : Row) (i : Nat) (h : i < r.length) : (vv r).getD i 0 = jv (r.getD i z0) := by
  unfold vv; simp [List.getD_eq_getElem?_getD, h]
theorem vv_len (r : Row) : (vv r).length = r.length := by unfold vv; simp

theorem rDegree_meets (v : Value) (a : Row) (ha : Fit 1099511627776 a) :
    Meets Try.prog 67 [v] [(v, V a)] (fun r os fs => os = [] ∧ fs = [] ∧ r = .int .i64 (deg (vv a))) := by
  refine meets_of_vc Try.func67 (by kernel_rfl) rfl (by kernel_rfl) (Nat.le_of_ble_eq_true rfl) ?_
  refine len_fact (by repeat (first | exact List.Mem.head _ | apply List.Mem.tail)) fun _ => ?_
  refine ar rfl (by first | exact ⟨by omega, by omega⟩ | (simp only [inK]; omega)) ?_
  refine loop_rule (X := Nat) (fun k => ([(0, v), (3, .int .i64 ((k : Int) - 1))], [], [(v, V a)])) (fun k => k ≤ a.length ∧ degTo (vv a) k = deg (vv a)) (fun k => k) rfl ?_ ?_
  · exact again a.length ⟨Nat.le_refl _, by unfold deg; rw [vv_len]⟩ trivial (by repeat (first | exact trivial | refine ⟨rfl, ?_⟩ | refine ⟨i64_eq (by first | omega | (simp only; omega)), ?_⟩ | refine ⟨u64_eq (by first | omega | (simp only; omega)), ?_⟩)) (Seals.sub (by repeat (first | exact Sub.nil _ | refine Sub.cons (by repeat (first | exact List.Mem.head _ | apply List.Mem.tail)) ?_)))
  · rintro k ⟨h1, h2⟩
    refine cmp_split _ rfl (fun hc => ?_) (fun hc => ?_)
    · obtain ⟨i, rfl⟩ : ∃ i, k = i + 1 := ⟨k - 1, by omega⟩
      refine index_fact (by repeat (first | exact List.Mem.head _ | apply List.Mem.tail)) i (by omega) (by omega) fun a1 => ?_
      refine load_fact (d := J (a.getD i z0)) (by repeat (first | exact List.Mem.head _ | apply List.Mem.tail)) (load_J _) fun x1 => ?_
      refine call_fn (zero_meets x1 (a.getD i z0) (ha.get i).1 (ha.get i).2) (Seals.refl _ _) (by repeat (first | exact Sub.nil _ | refine Sub.cons (by repeat (first | exact List.Mem.head _ | apply List.Mem.tail)) ?_)) ?_
      rintro _ _ _ ⟨rfl, rfl, rfl⟩
      have hg := vv_get a i (by omega)
      by_cases hz : jv (a.getD i z0) = 0
      · rw [decide_eq_true hz]
        refine ar rfl (by first | exact ⟨by omega, by omega⟩ | (simp only [inK]; omega)) ?_
        refine again i ⟨by omega, ?_⟩ (by simp only; omega) (by repeat (first | exact trivial | refine ⟨rfl, ?_⟩ | refine ⟨i64_eq (by first | omega | (simp only; omega)), ?_⟩ | refine ⟨u64_eq (by first | omega | (simp only; omega)), ?_⟩)) (Seals.sub (by repeat (first | exact Sub.nil _ | refine Sub.cons (by repeat (first | exact List.Mem.head _ | apply List.Mem.tail)) ?_)))
        rw [← h2, degTo, if_pos (by rw [hg]; exact hz)]
      · rw [decide_eq_false hz]
        refine fin ⟨rfl, rfl, ?_⟩ (Seals.nil _ _)
        rw [← h2, degTo, if_neg (by rw [hg]; exact hz)]
        exact congrArg (Value.int .i64) (by omega)
    · have hk : k = 0 := by omega
      subst hk
      exact fin ⟨rfl, rfl, by rw [← h2]; rfl⟩ (Seals.nil _ _)

theorem zd_zero : zd 0 = I false [] := by unfold zd; rw [show (0 : Int).natAbs = 0 from rfl, lims_zero]; rfl

theorem rAt_meets (v : Value) (a : Row) (i : Int) (ha : Fit 1099511627776 a) :
    Meets Try.prog 93 [v, .int .i64 i] [(v, V a)] (fun r os fs => os = [] ∧ fs = [(r, zd (if i < 0 then 0 else (vv a).getD i.toNat 0))]) := by
  refine meets_of_vc Try.func93 (by kernel_rfl) rfl (by kernel_rfl) (Nat.le_of_ble_eq_true rfl) ?_
  refine alloc_rule (d := I false []) fun o ho => ?_
  have zero : (if i < 0 then (0 : Int) else (vv a).getD i.toNat 0) = 0 → True := fun _ => trivial
  refine cmp_split _ rfl (fun hc => ?_) (fun hc => ?_)
  · refine build0 (da := .one (.bool false)) (db := U (lims 0)) (fun S w => ⟨[.bool false], [.slice none 0 0], rfl, rd_false S w, by rw [lims_zero]; exact rd_nil S w 1 _⟩) fun z => ?_
    refine store_box (d := zd 0) 0 rfl ho rfl (by kernel_rfl) ?_ ?_; exact Reads.fact (by repeat (first | exact List.Mem.head _ | apply List.Mem.tail))
    refine load_box (d := zd 0) 0 rfl ho rfl (load_I _ _) fun r => ?_
    rw [if_pos hc]
    exact fin ⟨rfl, rfl⟩ (Seals.trans (Seals.drop 0 _ _) (Seals.sub (by repeat (first | exact Sub.nil _ | refine Sub.cons (by repeat (first | exact List.Mem.head _ | apply List.Mem.tail)) ?_))))
  · refine len_fact (by repeat (first | exact List.Mem.head _ | apply List.Mem.tail)) fun _ => ?_
    refine cmp_split _ rfl (fun hd => ?_) (fun hd => ?_)
    · refine build0 (da := .one (.bool false)) (db := U (lims 0)) (fun S w => ⟨[.bool false], [.slice none 0 0], rfl, rd_false S w, by rw [lims_zero]; exact rd_nil S w 1 _⟩) fun z => ?_
      refine store_box (d := zd 0) 0 rfl ho rfl (by kernel_rfl) ?_ ?_; exact Reads.fact (by repeat (first | exact List.Mem.head _ | apply List.Mem.tail))
      refine load_box (d := zd 0) 0 rfl ho rfl (load_I _ _) fun r => ?_
      rw [if_neg hc, show (vv a).getD i.toNat 0 = 0 from by rw [List.getD_eq_getElem?_getD, List.getElem?_eq_none (by rw [vv_len]; omega)]; rfl]
      exact fin ⟨rfl, rfl⟩ (Seals.trans (Seals.drop 0 _ _) (Seals.sub (by repeat (first | exact Sub.nil _ | refine Sub.cons (by repeat (first | exact List.Mem.head _ | apply List.Mem.tail)) ?_))))
    · refine index_fact (by repeat (first | exact List.Mem.head _ | apply List.Mem.tail)) i.toNat (by omega) (by omega) fun a1 => ?_
      refine load_fact (d := J (a.getD i.toNat z0)) (by repeat (first | exact List.Mem.head _ | apply List.Mem.tail)) (load_J _) fun x1 => ?_
      refine call_fn (rZNorm_meets x1 (a.getD i.toNat z0).1 (a.getD i.toNat z0).2 (ha.get _).1 (ha.get _).2) (Seals.refl _ _) (by repeat (first | exact Sub.nil _ | refine Sub.cons (by repeat (first | exact List.Mem.head _ | apply List.Mem.tail)) ?_)) ?_
      rintro w _ _ ⟨rfl, rfl⟩
      refine store_box (d := zd (iv (a.getD i.toNat z0).1 (a.getD i.toNat z0).2)) 0 rfl ho rfl (by kernel_rfl) ?_ ?_; exact Reads.fact (by repeat (first | exact List.Mem.head _ | apply List.Mem.tail))
      refine load_box (d := zd (iv (a.getD i.toNat z0).1 (a.getD i.toNat z0).2)) 0 rfl ho rfl (load_I _ _) fun r => ?_
      rw [if_neg hc, vv_get a _ (by omega)]
      exact fin ⟨rfl, rfl⟩ (Seals.trans (Seals.drop 0 _ _) (Seals.sub (by repeat (first | exact Sub.nil _ | refine Sub.cons (by repeat (first | exact List.Mem.head _ | apply List.Mem.tail)) ?_))))

end Go.Proofs.Ytajkjlgddmkkaaa

namespace Go.Proofs.Ytajkjlgddmkkaaa
open Go.RowKit

/-- Rows of one length, and neither without rows nor without columns. -/
def right {α : Type} (m : List (List α)) : Prop := 0 < m.length ∧ ∀ r, r ∈ m → 0 < r.length ∧ r.length = (m.getD 0 []).length
def square {α : Type} (m : List (List α)) : Prop := right m ∧ m.length = (m.getD 0 []).length

instance {α : Type} (m : List (List α)) : Decidable (right m) := inferInstanceAs (Decidable (_ ∧ _))
instance {α : Type} (m : List (List α)) : Decidable (square m) := inferInstanceAs (Decidable (_ ∧ _))

theorem getD_mem {α : Type} {l : List α} {i : Nat} (z : α) (h : i < l.length) : l.getD i z ∈ l := by
  rw [List.getD_eq_getElem?_getD, List.getElem?_eq_getElem h]; exact List.getElem_mem h

theorem mem_getD {α : Type} {l : List α} {x : α} (z : α) (h : x ∈ l) : ∃ i, i < l.length ∧ l.getD i z = x := by
  obtain ⟨i, hi, rfl⟩ := List.getElem_of_mem h
  exact ⟨i, hi, by simp [List.getD_eq_getElem?_getD, hi]⟩

theorem right_of {α : Type} {m : List (List α)} (h0 : 0 < m.length) (h : ∀ i, i < m.length → 0 < (m.getD i []).length ∧ (m.getD i []).length = (m.getD 0 []).length) : right m :=
  ⟨h0, fun r hr => by obtain ⟨i, hi, rfl⟩ := mem_getD [] hr; exact h i hi⟩

theorem right.get {α : Type} {m : List (List α)} (h : right m) {i : Nat} (hi : i < m.length) : 0 < (m.getD i []).length ∧ (m.getD i []).length = (m.getD 0 []).length := h.2 _ (getD_mem [] hi)

theorem rRight_meets (v : Value) (m : List Row) :
    Meets Try.prog 42 [v] [(v, W m)] (fun r os fs => os = [] ∧ fs = [] ∧ r = .bool (decide (right m))) := by
  refine meets_of_vc Try.func42 (by kernel_rfl) rfl (by kernel_rfl) (Nat.le_of_ble_eq_true rfl) ?_
  refine loop_rule (X := Nat) (fun i => ([(0, v), (3, .int .i64 (i : Nat))], [], [(v, W m)]))
    (fun i => i ≤ m.length ∧ ∀ k, k < i → 0 < (m.getD k []).length ∧ (m.getD k []).length = (m.getD 0 []).length) (fun i => m.length - i) rfl ?_ ?_
  · exact again 0 ⟨Nat.zero_le _, fun k hk => absurd hk (Nat.not_lt_zero _)⟩ trivial (by repeat (first | exact trivial | refine ⟨rfl, ?_⟩ | refine ⟨i64_eq (by first | omega | (simp only; omega)), ?_⟩ | refine ⟨u64_eq (by first | omega | (simp only; omega)), ?_⟩)) (Seals.sub (by repeat (first | exact Sub.nil _ | refine Sub.cons (by repeat (first | exact List.Mem.head _ | apply List.Mem.tail)) ?_)))
  · rintro i ⟨h1, h2⟩
    refine len_fact (by repeat (first | exact List.Mem.head _ | apply List.Mem.tail)) fun _ => ?_
    refine cmp_split _ rfl (fun hi => ?_) (fun hi => ?_)
    · have hlt : i < m.length := by omega
      refine draw_rule [0, 1, 2, 3, 4, 5, 6, 7, 8, 9, 10, 11, 12, 13, 14, 15, 16, 17] [0, 1, 2, 3, 4, 5, 6, 7, 8, 9, 10, 11, 12, 13, 14, 15, 16, 17] (by kernel_rfl) (by kernel_rfl) ?_
      refine index_fact (by repeat (first | exact List.Mem.head _ | apply List.Mem.tail)) i rfl hlt fun a1 => ?_
      refine load_fact (d := V (m.getD i [])) (by repeat (first | exact List.Mem.head _ | apply List.Mem.tail)) (load_V _) fun x1 => ?_
      refine len_fact (by repeat (first | exact List.Mem.head _ | apply List.Mem.tail)) fun _ => ?_
      refine cmp_split _ rfl (fun hc => ?_) (fun hc => ?_)
      · exact fin ⟨rfl, rfl, congrArg Value.bool (decide_eq_false fun e => by have := (e.get hlt).1; omega).symm⟩ (Seals.nil _ _)
      · refine index_fact (by repeat (first | exact List.Mem.head _ | apply List.Mem.tail)) i rfl hlt fun a2 => ?_
        refine load_fact (d := V (m.getD i [])) (by repeat (first | exact List.Mem.head _ | apply List.Mem.tail)) (load_V _) fun x2 => ?_
        refine len_fact (by repeat (first | exact List.Mem.head _ | apply List.Mem.tail)) fun _ => ?_
        refine index_fact (by repeat (first | exact List.Mem.head _ | apply List.Mem.tail)) 0 rfl (by omega) fun a3 => ?_
        refine load_fact (d := V (m.getD 0 [])) (by repeat (first | exact List.Mem.head _ | apply List.Mem.tail)) (load_V _) fun x3 => ?_
        refine len_fact (by repeat (first | exact List.Mem.head _ | apply List.Mem.tail)) fun _ => ?_
        refine cmp_split _ rfl (fun hd => ?_) (fun hd => ?_)
        · exact fin ⟨rfl, rfl, congrArg Value.bool (decide_eq_false fun e => by have := (e.get hlt).2; omega).symm⟩ (Seals.nil _ _)
        · refine ar rfl (by first | exact ⟨by omega, by omega⟩ | (simp only [inK]; omega)) ?_
          refine again (i + 1) ⟨by omega, fun k hk => ?_⟩ (by simp only; omega) (by repeat (first | exact trivial | refine ⟨rfl, ?_⟩ | refine ⟨i64_eq (by first | omega | (simp only; omega)), ?_⟩ | refine ⟨u64_eq (by first | omega | (simp only; omega)), ?_⟩)) (Seals.sub (by repeat (first | exact Sub.nil _ | refine Sub.cons (by repeat (first | exact List.Mem.head _ | apply List.Mem.tail)) ?_)))
          by_cases hki : k = i
          · subst hki; omega
          · exact h2 k (by omega)
    · refine len_fact (by repeat (first | exact List.Mem.head _ | apply List.Mem.tail)) fun _ => ?_
      refine cmp_split _ rfl (fun hc => ?_) (fun hc => ?_)
      · exact fin ⟨rfl, rfl, congrArg Value.bool (decide_eq_true (right_of (by omega) fun k hk => h2 k (by omega))).symm⟩ (Seals.nil _ _)
      · exact fin ⟨rfl, rfl, congrArg Value.bool (decide_eq_false fun e => by have := e.1; omega).symm⟩ (Seals.nil _ _)

theorem mRight_meets (v : Value) (m : List Row) :
    Meets Try.prog 41 [v] [(v, W m)] (fun r os fs => os = [] ∧ fs = [] ∧ r = .bool (decide (right m))) := by
  refine meets_of_vc Try.func41 (by kernel_rfl) rfl (by kernel_rfl) (Nat.le_of_ble_eq_true rfl) ?_
  refine len_fact (by repeat (first | exact List.Mem.head _ | apply List.Mem.tail)) fun _ => ?_
  refine cmp_split _ rfl (fun hc => ?_) (fun hc => ?_)
  · exact fin ⟨rfl, rfl, congrArg Value.bool (decide_eq_false fun e => by have := e.1; omega).symm⟩ (Seals.nil _ _)
  · refine index_fact (by repeat (first | exact List.Mem.head _ | apply List.Mem.tail)) 0 rfl (by omega) fun a3 => ?_
    refine load_fact (d := V (m.getD 0 [])) (by repeat (first | exact List.Mem.head _ | apply List.Mem.tail)) (load_V _) fun x3 => ?_
    refine len_fact (by repeat (first | exact List.Mem.head _ | apply List.Mem.tail)) fun _ => ?_
    refine cmp_split _ rfl (fun hd => ?_) (fun hd => ?_)
    · exact fin ⟨rfl, rfl, congrArg Value.bool (decide_eq_false fun e => by have := (e.get (i := 0) (by omega)).1; omega).symm⟩ (Seals.nil _ _)
    · refine len_fact (by repeat (first | exact List.Mem.head _ | apply List.Mem.tail)) fun _ => ?_
      refine loop_rule (X := Nat) (fun i => ([(0, v), (15, v), (16, .int .i64 (m.length : Nat)), (17, .int .i64 (i : Nat))], [], [(v, W m)]))
        (fun i => i ≤ m.length ∧ ∀ k, k < i → 0 < (m.getD k []).length ∧ (m.getD k []).length = (m.getD 0 []).length) (fun i => m.length - i) rfl ?_ ?_
      · exact again 0 ⟨Nat.zero_le _, fun k hk => absurd hk (Nat.not_lt_zero _)⟩ trivial (by repeat (first | exact trivial | refine ⟨rfl, ?_⟩ | refine ⟨i64_eq (by first | omega | (simp only; omega)), ?_⟩ | refine ⟨u64_eq (by first | omega | (simp only; omega)), ?_⟩)) (Seals.sub (by repeat (first | exact Sub.nil _ | refine Sub.cons (by repeat (first | exact List.Mem.head _ | apply List.Mem.tail)) ?_)))
      · rintro i ⟨h1, h2⟩
        refine cmp_split _ rfl (fun hi => ?_) (fun hi => ?_)
        · have hlt : i < m.length := by omega
          refine index_fact (by repeat (first | exact List.Mem.head _ | apply List.Mem.tail)) i rfl hlt fun a1 => ?_
          refine load_fact (d := V (m.getD i [])) (by repeat (first | exact List.Mem.head _ | apply List.Mem.tail)) (load_V _) fun x1 => ?_
          refine len_fact (by repeat (first | exact List.Mem.head _ | apply List.Mem.tail)) fun _ => ?_
          refine index_fact (by repeat (first | exact List.Mem.head _ | apply List.Mem.tail)) 0 rfl (by omega) fun a3 => ?_
          refine load_fact (d := V (m.getD 0 [])) (by repeat (first | exact List.Mem.head _ | apply List.Mem.tail)) (load_V _) fun x3 => ?_
          refine len_fact (by repeat (first | exact List.Mem.head _ | apply List.Mem.tail)) fun _ => ?_
          refine cmp_split _ rfl (fun he => ?_) (fun he => ?_)
          · exact fin ⟨rfl, rfl, congrArg Value.bool (decide_eq_false fun e => by have := (e.get hlt).2; omega).symm⟩ (Seals.nil _ _)
          · refine ar rfl (by first | exact ⟨by omega, by omega⟩ | (simp only [inK]; omega)) ?_
            refine again (i + 1) ⟨by omega, fun k hk => ?_⟩ (by simp only; omega) (by repeat (first | exact trivial | refine ⟨rfl, ?_⟩ | refine ⟨i64_eq (by first | omega | (simp only; omega)), ?_⟩ | refine ⟨u64_eq (by first | omega | (simp only; omega)), ?_⟩)) (Seals.sub (by repeat (first | exact Sub.nil _ | refine Sub.cons (by repeat (first | exact List.Mem.head _ | apply List.Mem.tail)) ?_)))
            by_cases hki : k = i
            · subst hki; omega
            · exact h2 k (by omega)
        · exact fin ⟨rfl, rfl, congrArg Value.bool (decide_eq_true (right_of (by omega) fun k hk => h2 k (by omega))).symm⟩ (Seals.nil _ _)

theorem rSquare_meets (v : Value) (m : List Row) :
    Meets Try.prog 52 [v] [(v, W m)] (fun r os fs => os = [] ∧ fs = [] ∧ r = .bool (decide (square m))) := by
  refine meets_of_vc Try.func52 (by kernel_rfl) rfl (by kernel_rfl) (Nat.le_of_ble_eq_true rfl) ?_
  refine call_fn (rRight_meets v m) (Seals.refl _ _) (by repeat (first | exact Sub.nil _ | refine Sub.cons (by repeat (first | exact List.Mem.head _ | apply List.Mem.tail)) ?_)) ?_
  rintro _ _ _ ⟨rfl, rfl, rfl⟩
  by_cases hr : right m
  · rw [decide_eq_true hr]
    refine len_fact (by repeat (first | exact List.Mem.head _ | apply List.Mem.tail)) fun _ => ?_
    refine index_fact (by repeat (first | exact List.Mem.head _ | apply List.Mem.tail)) 0 rfl hr.1 fun a3 => ?_
    refine load_fact (d := V (m.getD 0 [])) (by repeat (first | exact List.Mem.head _ | apply List.Mem.tail)) (load_V _) fun x3 => ?_
    refine len_fact (by repeat (first | exact List.Mem.head _ | apply List.Mem.tail)) fun _ => ?_
    refine cmp_split _ rfl (fun he => ?_) (fun he => ?_)
    · exact fin ⟨rfl, rfl, congrArg Value.bool (decide_eq_true (⟨hr, by omega⟩ : square m)).symm⟩ (Seals.nil _ _)
    · exact fin ⟨rfl, rfl, congrArg Value.bool (decide_eq_false fun e : square m => by have := e.2; omega).symm⟩ (Seals.nil _ _)
  · rw [decide_eq_false hr]
    exact fin ⟨rfl, rfl, congrArg Value.bool (decide_eq_false fun e : square m => hr e.1).symm⟩ (Seals.nil _ _)

theorem mSquare_meets (v : Value) (m : List Row) :
    Meets Try.prog 50 [v] [(v, W m)] (fun r os fs => os = [] ∧ fs = [] ∧ r = .bool (decide (square m))) := by
  refine meets_of_vc Try.func50 (by kernel_rfl) rfl (by kernel_rfl) (Nat.le_of_ble_eq_true rfl) ?_
  refine call_fn (mRight_meets v m) (Seals.refl _ _) (by repeat (first | exact Sub.nil _ | refine Sub.cons (by repeat (first | exact List.Mem.head _ | apply List.Mem.tail)) ?_)) ?_
  rintro _ _ _ ⟨rfl, rfl, rfl⟩
  by_cases hr : right m
  · rw [decide_eq_true hr]
    refine len_fact (by repeat (first | exact List.Mem.head _ | apply List.Mem.tail)) fun _ => ?_
    refine index_fact (by repeat (first | exact List.Mem.head _ | apply List.Mem.tail)) 0 rfl hr.1 fun a3 => ?_
    refine load_fact (d := V (m.getD 0 [])) (by repeat (first | exact List.Mem.head _ | apply List.Mem.tail)) (load_V _) fun x3 => ?_
    refine len_fact (by repeat (first | exact List.Mem.head _ | apply List.Mem.tail)) fun _ => ?_
    refine cmp_split _ rfl (fun he => ?_) (fun he => ?_)
    · exact fin ⟨rfl, rfl, congrArg Value.bool (decide_eq_true (⟨hr, by omega⟩ : square m)).symm⟩ (Seals.nil _ _)
    · exact fin ⟨rfl, rfl, congrArg Value.bool (decide_eq_false fun e : square m => by have := e.2; omega).symm⟩ (Seals.nil _ _)
  · rw [decide_eq_false hr]
    exact fin ⟨rfl, rfl, congrArg Value.bool (decide_eq_false fun e : square m => hr e.1).symm⟩ (Seals.nil _ _)

theorem rowsExact_meets (v w : Value) (a b : List Row) :
    Meets Try.prog 56 [v, w] [(v, W a), (w, W b)] (fun r os fs => os = [] ∧ fs = [] ∧ r = .bool (decide (a = b))) := by
  refine meets_of_vc Try.func56 (by kernel_rfl) rfl (by kernel_rfl) (Nat.le_of_ble_eq_true rfl) ?_
  refine len_fact (by repeat (first | exact List.Mem.head _ | apply List.Mem.tail)) fun _ => ?_
  refine len_fact (by repeat (first | exact List.Mem.head _ | apply List.Mem.tail)) fun _ => ?_
  refine cmp_split _ rfl (fun hl => ?_) (fun hl => ?_)
  · exact fin ⟨rfl, rfl, congrArg Value.bool (decide_eq_false (fun e => hl (by rw [e]))).symm⟩ (Seals.nil _ _)
  · have hl' : a.length = b.length := by omega
    refine loop_rule (X := Nat) (fun i => ([(0, v), (1, w), (5, .int .i64 (i : Nat))], [], [(v, W a), (w, W b)]))
      (fun i => i ≤ a.length ∧ ∀ k, k < i → a.getD k [] = b.getD k []) (fun i => a.length - i) rfl ?_ ?_
    · exact again 0 ⟨Nat.zero_le _, fun k hk => absurd hk (Nat.not_lt_zero _)⟩ trivial (by repeat (first | exact trivial | refine ⟨rfl, ?_⟩ | refine ⟨i64_eq (by first | omega | (simp only; omega)), ?_⟩ | refine ⟨u64_eq (by first | omega | (simp only; omega)), ?_⟩)) (Seals.sub (by repeat (first | exact Sub.nil _ | refine Sub.cons (by repeat (first | exact List.Mem.head _ | apply List.Mem.tail)) ?_)))
    · rintro i ⟨h1, h2⟩
      refine len_fact (by repeat (first | exact List.Mem.head _ | apply List.Mem.tail)) fun _ => ?_
      refine cmp_split _ rfl (fun hi => ?_) (fun hi => ?_)
      · refine draw_rule [0, 1, 2, 3, 4, 5, 6, 7, 8, 9] [0, 1, 2, 3, 4, 5, 6, 7, 8, 9] (by kernel_rfl) (by kernel_rfl) ?_
        refine index_fact (by repeat (first | exact List.Mem.head _ | apply List.Mem.tail)) i rfl (by omega) fun a1 => ?_
        refine load_fact (d := V (a.getD i [])) (by repeat (first | exact List.Mem.head _ | apply List.Mem.tail)) (load_V _) fun x1 => ?_
        refine index_fact (by repeat (first | exact List.Mem.head _ | apply List.Mem.tail)) i rfl (by omega) fun a2 => ?_
        refine load_fact (d := V (b.getD i [])) (by repeat (first | exact List.Mem.head _ | apply List.Mem.tail)) (load_V _) fun x2 => ?_
        refine call_fn (exactAll_meets x1 x2 (a.getD i []) (b.getD i [])) (Seals.refl _ _) (by repeat (first | exact Sub.nil _ | refine Sub.cons (by repeat (first | exact List.Mem.head _ | apply List.Mem.tail)) ?_)) ?_
        rintro _ _ _ ⟨rfl, rfl, rfl⟩
        by_cases he : a.getD i [] = b.getD i []
        · rw [decide_eq_true he]
          refine ar rfl (by first | exact ⟨by omega, by omega⟩ | (simp only [inK]; omega)) ?_
          refine again (i + 1) ⟨by omega, fun k hk => ?_⟩ (by simp only; omega) (by repeat (first | exact trivial | refine ⟨rfl, ?_⟩ | refine ⟨i64_eq (by first | omega | (simp only; omega)), ?_⟩ | refine ⟨u64_eq (by first | omega | (simp only; omega)), ?_⟩)) (Seals.sub (by repeat (first | exact Sub.nil _ | refine Sub.cons (by repeat (first | exact List.Mem.head _ | apply List.Mem.tail)) ?_)))
          by_cases hki : k = i
          · subst hki; exact he
          · exact h2 k (by omega)
        · rw [decide_eq_false he]
          exact fin ⟨rfl, rfl, congrArg Value.bool (decide_eq_false (fun e => he (by rw [e]))).symm⟩ (Seals.nil _ _)
      · exact fin ⟨rfl, rfl, congrArg Value.bool (decide_eq_true (row_eq_of_getD [] hl' fun k hk => h2 k (by omega))).symm⟩ (Seals.nil _ _)

/-- At most n rows of at most k numbers of at most c limbs. -/
def small (n k c : Nat) (m : List Row) : Prop := m.length ≤ n ∧ ∀ r, r ∈ m → r.length ≤ k ∧ ∀ x, x ∈ r → x.2.length ≤ c

instance (n k c : Nat) (m : List Row) : Decidable (small n k c m) := inferInstanceAs (Decidable (_ ∧ _))

theorem rowsFits_meets (v : Value) (m : List Row) (n k c : Nat) :
    Meets Try.prog 14 [v, .int .i64 (n : Int), .int .i64 (k : Int), .int .i64 (c : Int)] [(v, W m)] (fun r os fs => os = [] ∧ fs = [] ∧ r = .bool (decide (small n k c m))) := by
  refine meets_of_vc Try.func14 (by kernel_rfl) rfl (by kernel_rfl) (Nat.le_of_ble_eq_true rfl) ?_
  refine len_fact (by repeat (first | exact List.Mem.head _ | apply List.Mem.tail)) fun _ => ?_
  refine cmp_split _ rfl (fun hl => ?_) (fun hl => ?_)
  · exact fin ⟨rfl, rfl, congrArg Value.bool (decide_eq_false (fun e => by have := e.1; omega)).symm⟩ (Seals.nil _ _)
  · refine loop_rule (X := Nat) (fun i => ([(0, v), (2, .int .i64 (k : Nat)), (3, .int .i64 (c : Nat)), (9, .int .i64 (i : Nat))], [], [(v, W m)]))
      (fun i => i ≤ m.length ∧ ∀ j, j < i → (m.getD j []).length ≤ k ∧ ∀ x, x ∈ m.getD j [] → x.2.length ≤ c) (fun i => m.length - i) rfl ?_ ?_
    · exact again 0 ⟨Nat.zero_le _, fun k hk => absurd hk (Nat.not_lt_zero _)⟩ trivial (by repeat (first | exact trivial | refine ⟨rfl, ?_⟩ | refine ⟨i64_eq (by first | omega | (simp only; omega)), ?_⟩ | refine ⟨u64_eq (by first | omega | (simp only; omega)), ?_⟩)) (Seals.sub (by repeat (first | exact Sub.nil _ | refine Sub.cons (by repeat (first | exact List.Mem.head _ | apply List.Mem.tail)) ?_)))
    · rintro i ⟨h1, h2⟩
      refine len_fact (by repeat (first | exact List.Mem.head _ | apply List.Mem.tail)) fun _ => ?_
      refine cmp_split _ rfl (fun hi => ?_) (fun hi => ?_)
      · have hlt : i < m.length := by omega
        refine index_fact (by repeat (first | exact List.Mem.head _ | apply List.Mem.tail)) i rfl hlt fun a1 => ?_
        refine load_fact (d := V (m.getD i [])) (by repeat (first | exact List.Mem.head _ | apply List.Mem.tail)) (load_V _) fun x1 => ?_
        refine call_fn (rFits_meets x1 (m.getD i []) k c) (Seals.refl _ _) (by repeat (first | exact Sub.nil _ | refine Sub.cons (by repeat (first | exact List.Mem.head _ | apply List.Mem.tail)) ?_)) ?_
        rintro _ _ _ ⟨rfl, rfl, rfl⟩
        by_cases he : (m.getD i []).length ≤ k ∧ ∀ x, x ∈ m.getD i [] → x.2.length ≤ c
        · rw [decide_eq_true he]
          refine ar rfl (by first | exact ⟨by omega, by omega⟩ | (simp only [inK]; omega)) ?_
          refine again (i + 1) ⟨by omega, fun j hj => ?_⟩ (by simp only; omega) (by repeat (first | exact trivial | refine ⟨rfl, ?_⟩ | refine ⟨i64_eq (by first | omega | (simp only; omega)), ?_⟩ | refine ⟨u64_eq (by first | omega | (simp only; omega)), ?_⟩)) (Seals.sub (by repeat (first | exact Sub.nil _ | refine Sub.cons (by repeat (first | exact List.Mem.head _ | apply List.Mem.tail)) ?_)))
          by_cases hji : j = i
          · subst hji; exact he
          · exact h2 j (by omega)
        · rw [decide_eq_false he]
          exact fin ⟨rfl, rfl, congrArg Value.bool (decide_eq_false (fun e => he (e.2 _ (getD_mem [] hlt)))).symm⟩ (Seals.nil _ _)
      · exact fin ⟨rfl, rfl, congrArg Value.bool (decide_eq_true (⟨by omega, fun r hr => by obtain ⟨j, hj, rfl⟩ := mem_getD [] hr; exact h2 j (by omega)⟩ : small n k c m)).symm⟩ (Seals.nil _ _)

end Go.Proofs.Ytajkjlgddmkkaaa

namespace Go.Proofs.Ytajkjlgddmkkaaa
open Go.RowKit

theorem BuildSliceK.pre {P : Program} {t : TypeId} {n : Nat} {ps : List (Nat × Value)} {os os' : List Own} {fs fs' : List Fact} {K : Cont} (hs : Seals os fs os' fs') (h : BuildSliceK P t n ps os' fs' K) : BuildSliceK P t n ps os fs K :=
  ⟨fun G w hw => h.out G w (hs G w hw)⟩

theorem take_snoc' {α : Type} {l : List α} {i : Nat} (z : α) (h : i < l.length) : l.take (i + 1) = l.take i ++ [l.getD i z] := by
  rw [List.take_add_one]; simp [List.getD_eq_getElem?_getD, h]

theorem rowsOwn_meets (v : Value) (m : List Row) (ll : m.length ≤ 274877906944) (hk : ∀ r, r ∈ m → r.length ≤ 274877906944 ∧ ∀ x, x ∈ r → x.2.length ≤ 1099511627776) :
    Meets Try.prog 15 [v] [(v, W m)] (fun r os fs => os = [] ∧ fs = [(r, W m)]) := by
  refine meets_of_vc Try.func15 (by kernel_rfl) rfl (by kernel_rfl) (Nat.le_of_ble_eq_true rfl) ?_
  refine empty_L V [] (by decide) fun w hw => ?_
  refine loop_rule (X := Nat × Value) (fun x => ([(0, v), (3, x.2), (4, .int .i64 (x.1 : Nat))], [ownL 1 V [] x.2 (m.take x.1)], [(v, W m)])) (fun x => x.1 ≤ m.length ∧ isSl x.2) (fun x => m.length - x.1) rfl ?_ ?_
  · exact again (0, w) ⟨Nat.zero_le _, hw⟩ trivial (by repeat (first | exact trivial | refine ⟨rfl, ?_⟩ | refine ⟨i64_eq (by first | omega | (simp only; omega)), ?_⟩ | refine ⟨u64_eq (by first | omega | (simp only; omega)), ?_⟩)) (by simp only [List.take_zero]; exact Seals.sub (by repeat (first | exact Sub.nil _ | refine Sub.cons (by repeat (first | exact List.Mem.head _ | apply List.Mem.tail)) ?_)))
  · rintro ⟨i, w⟩ ⟨h1, hw⟩
    simp only at h1 hw ⊢
    refine len_fact (by repeat (first | exact List.Mem.head _ | apply List.Mem.tail)) fun _ => ?_
    refine cmp_split _ rfl (fun hi => ?_) (fun hi => ?_)
    · have hlt : i < m.length := by omega
      have hr := hk _ (getD_mem [] hlt)
      refine index_fact (by repeat (first | exact List.Mem.head _ | apply List.Mem.tail)) i rfl hlt fun a1 => ?_
      refine load_fact (d := V (m.getD i [])) (by repeat (first | exact List.Mem.head _ | apply List.Mem.tail)) (load_V _) fun x1 => ?_
      refine call_fn (rOwn_meets x1 (m.getD i []) hr.1 hr.2) (Seals.refl _ _) (by repeat (first | exact Sub.nil _ | refine Sub.cons (by repeat (first | exact List.Mem.head _ | apply List.Mem.tail)) ?_)) ?_
      rintro x2 _ _ ⟨rfl, hx2, rfl⟩
      refine BuildSliceK.pre (Seals.L 0 rfl hx2) ?_
      refine lit_L (size := 1) V [] (m.getD i []) (by decide) (Reads.fact (d := V (m.getD i [])) (by repeat (first | exact List.Mem.head _ | apply List.Mem.tail))) rfl fun l1 => ?_
      refine append_L 0 rfl hw (Knw.fact (by repeat (first | exact List.Mem.head _ | apply List.Mem.tail))) (by simp; omega) (by simp; omega) fun w2 hw2 => ?_
      refine ar rfl (by first | exact ⟨by omega, by omega⟩ | (simp only [inK]; omega)) ?_
      refine again (i + 1, w2) ⟨by simp only; omega, hw2⟩ (by simp only; omega) (by repeat (first | exact trivial | refine ⟨rfl, ?_⟩ | refine ⟨i64_eq (by first | omega | (simp only; omega)), ?_⟩ | refine ⟨u64_eq (by first | omega | (simp only; omega)), ?_⟩)) ?_
      simp only [take_snoc' [] hlt]
      exact Seals.sub (by repeat (first | exact Sub.nil _ | refine Sub.cons (by repeat (first | exact List.Mem.head _ | apply List.Mem.tail)) ?_))
    · have hia : i = m.length := by omega
      refine fin ⟨rfl, rfl⟩ (Seals.trans (Seals.L 0 rfl hw) ?_)
      rw [hia, List.take_length]
      exact Seals.sub (by repeat (first | exact Sub.nil _ | refine Sub.cons (by repeat (first | exact List.Mem.head _ | apply List.Mem.tail)) ?_))

/-- The first index of a number other than 0; the length if there is none. -/
def lead0 : List Int → Nat
  | [] => 0
  | x :: l => if x = 0 then lead0 l + 1 else 0

theorem lead0_le (l : List Int) : lead0 l ≤ l.length := by
  induction l with
  | nil => exact Nat.le_refl _
  | cons x l ih => simp only [lead0, List.length_cons]; split <;> omega

theorem lead0_at : ∀ (l : List Int) (i : Nat), i < l.length → (∀ k, k < i → l.getD k 0 = 0) → l.getD i 0 ≠ 0 → lead0 l = i
  | [], i, h, _, _ => by simp at h
  | x :: l, 0, _, _, h => by simp only [List.getD_cons_zero] at h; simp [lead0, h]
  | x :: l, i + 1, h1, h2, h3 => by
    have hx : x = 0 := by have := h2 0 (by omega); simpa using this
    simp only [lead0, hx, if_true]
    rw [lead0_at l i (by simpa using h1) (fun k hk => by have := h2 (k + 1) (by omega); simpa using this) (by simpa using h3)]

theorem lead0_none : ∀ (l : List Int), (∀ k, k < l.length → l.getD k 0 = 0) → lead0 l = l.length
  | [], _ => rfl
  | x :: l, h => by
    have hx : x = 0 := by have := h 0 (by simp); simpa using this
    simp only [lead0, hx, if_true, List.length_cons]
    rw [lead0_none l fun k hk => by have := h (k + 1) (by simpa using hk); simpa using this]

theorem first_meets (v : Value) (a : Row) (ha : Fit 1099511627776 a) :
    Meets Try.prog 88 [v] [(v, V a)] (fun r os fs => os = [] ∧ fs = [] ∧ r = .int .i64 (lead0 (vv a) : Nat)) := by
  refine meets_of_vc Try.func88 (by kernel_rfl) rfl (by kernel_rfl) (Nat.le_of_ble_eq_true rfl) ?_
  refine loop_rule (X := Nat) (fun i => ([(0, v), (3, .int .i64 (i : Nat))], [], [(v, V a)])) (fun i => i ≤ a.length ∧ ∀ k, k < i → (vv a).getD k 0 = 0) (fun i => a.length - i) rfl ?_ ?_
  · exact again 0 ⟨Nat.zero_le _, fun k hk => absurd hk (Nat.not_lt_zero _)⟩ trivial (by repeat (first | exact trivial | refine ⟨rfl, ?_⟩ | refine ⟨i64_eq (by first | omega | (simp only; omega)), ?_⟩ | refine ⟨u64_eq (by first | omega | (simp only; omega)), ?_⟩)) (Seals.sub (by repeat (first | exact Sub.nil _ | refine Sub.cons (by repeat (first | exact List.Mem.head _ | apply List.Mem.tail)) ?_)))
  · rintro i ⟨h1, h2⟩
    refine len_fact (by repeat (first | exact List.Mem.head _ | apply List.Mem.tail)) fun _ => ?_
    refine cmp_split _ rfl (fun hi => ?_) (fun hi => ?_)
    · have hlt : i < a.length := by omega
      have hg := vv_get a i hlt
      refine index_fact (by repeat (first | exact List.Mem.head _ | apply List.Mem.tail)) i rfl hlt fun a1 => ?_
      refine load_fact (d := J (a.getD i z0)) (by repeat (first | exact List.Mem.head _ | apply List.Mem.tail)) (load_J _) fun x1 => ?_
      refine call_fn (rSign_meets x1 (a.getD i z0).1 (a.getD i z0).2 (ha.get i).1 (ha.get i).2) (Seals.refl _ _) (by repeat (first | exact Sub.nil _ | refine Sub.cons (by repeat (first | exact List.Mem.head _ | apply List.Mem.tail)) ?_)) ?_
      rintro _ _ _ ⟨rfl, rfl, rfl⟩
      refine cmp_split _ rfl (fun hz => ?_) (fun hz => ?_)
      · exact fin ⟨rfl, rfl, congrArg (fun n : Nat => Value.int .i64 (n : Int)) (lead0_at _ i (by rw [vv_len]; omega) h2 (by rw [hg]; exact fun e => hz (Int.sign_eq_zero_iff_zero.2 e))).symm⟩ (Seals.nil _ _)
      · refine ar rfl (by first | exact ⟨by omega, by omega⟩ | (simp only [inK]; omega)) ?_
        refine again (i + 1) ⟨by omega, fun k hk => ?_⟩ (by simp only; omega) (by repeat (first | exact trivial | refine ⟨rfl, ?_⟩ | refine ⟨i64_eq (by first | omega | (simp only; omega)), ?_⟩ | refine ⟨u64_eq (by first | omega | (simp only; omega)), ?_⟩)) (Seals.sub (by repeat (first | exact Sub.nil _ | refine Sub.cons (by repeat (first | exact List.Mem.head _ | apply List.Mem.tail)) ?_)))
        by_cases hki : k = i
        · subst hki; rw [hg]; exact Int.sign_eq_zero_iff_zero.1 (Decidable.not_not.1 hz)
        · exact h2 k (by omega)
    · refine len_fact (by repeat (first | exact List.Mem.head _ | apply List.Mem.tail)) fun _ => ?_
      refine fin ⟨rfl, rfl, ?_⟩ (Seals.nil _ _)
      rw [lead0_none _ fun k hk => h2 k (by rw [vv_len] at hk; omega), vv_len]; rfl

/-- The rows but i, each without what stands at j. -/
def minor {α : Type} (m : List (List α)) (i j : Nat) : List (List α) := (m.eraseIdx i).map fun r => r.eraseIdx j

theorem minor_same {α : Type} {m : List (List α)} {i j : Nat} (h : i < m.length) : minor (m.take (i + 1)) i j = minor (m.take i) i j := by
  unfold minor
  have hl : (m.take i).length = i := by rw [List.length_take]; omega
  rw [take_snoc' [] h, List.eraseIdx_append_of_length_le (by omega), hl, Nat.sub_self, List.eraseIdx_of_length_le (l := m.take i) (by omega)]
  simp

theorem minor_snoc {α : Type} {m : List (List α)} {i j k : Nat} (h : k < m.length) (hk : k ≠ i) : minor (m.take (k + 1)) i j = minor (m.take k) i j ++ [(m.getD k []).eraseIdx j] := by
  unfold minor
  rw [take_snoc' [] h]
  have hl : (m.take k).length = k := by simp; omega
  by_cases hik : i < k
  · rw [List.eraseIdx_append_of_lt_length (by omega), List.map_append]; rfl
  · rw [List.eraseIdx_append_of_length_le (by omega), List.eraseIdx_of_length_le (by simp; omega), List.eraseIdx_of_length_le (by omega), List.map_append]; rfl

theorem slice_L {α : Type} {size : Nat} {f : α → Dat} {z : α} {P : Program} {t e : TypeId} {v : Value} {l : List α} {kl kh : IntKind} {os : List Own} {fs : List Fact} {K : Cont} [ht : TSl P t e size]
    (hm : (v, LD size f z l) ∈ fs) (lo hi : Nat) (x y : Option Value) (hl : (x = none ∧ lo = 0) ∨ x = some (.int kl lo)) (hh : (y = none ∧ hi = l.length) ∨ y = some (.int kh hi)) (h1 : lo ≤ hi) (h2 : hi ≤ l.length)
    (k : ∀ u, K u os ((u, LD size f z ((l.take hi).drop lo)) :: (u, .sl size (hi - lo) fun i => f (l.getD (lo + i) z)) :: fs)) : SliceK P t v x y none os fs K := by
  have h := slice_fact (P := P) (t := t) (os := os) (fs := fs) (K := fun u os' fs' => os' = os ∧ fs' = (u, .sl size (hi - lo) fun i => f (l.getD (lo + i) z)) :: fs) hm lo hi x y hl hh h1 h2 fun u => ⟨rfl, rfl⟩
  refine ⟨fun G w hw => ?_⟩
  obtain ⟨u, fs', e1, ⟨_, rfl⟩, hw'⟩ := h.out G w hw
  refine ⟨u, _, e1, k u, ?_⟩
  refine Seals.add (Knw.cast (Knw.sl_cong (e' := fun i => f (((l.take hi).drop lo).getD i z)) (Knw.fact (List.Mem.head _)) fun i hi' => ?_) ?_) G w hw'
  · simp only [List.getD_eq_getElem?_getD, List.getElem?_drop]
    rw [List.getElem?_take_of_lt (by omega)]
  · unfold LD
    rw [List.length_drop, List.length_take, Nat.min_eq_left h2]

theorem minor_meets (v : Value) (m : List Row) (i j : Nat) (ll : m.length ≤ 274877906944) (hk : ∀ r, r ∈ m → j < r.length ∧ r.length ≤ 274877906944) :
    Meets Try.prog 63 [v, .int .i64 (i : Int), .int .i64 (j : Int)] [(v, W m)] (fun r os fs => os = [] ∧ fs = [(r, W (minor m i j))]) := by
  refine meets_of_vc Try.func63 (by kernel_rfl) rfl (by kernel_rfl) (Nat.le_of_ble_eq_true rfl) ?_
  refine empty_L V [] (by decide) fun w hw => ?_
  refine loop_rule (X := Nat × Value) (fun x => ([(0, v), (1, .int .i64 (i : Nat)), (2, .int .i64 (j : Nat)), (7, x.2), (8, .int .i64 (x.1 : Nat))], [ownL 1 V [] x.2 (minor (m.take x.1) i j)], [(v, W m)])) (fun x => x.1 ≤ m.length ∧ isSl x.2) (fun x => m.length - x.1) rfl ?_ ?_
  · exact again (0, w) ⟨Nat.zero_le _, hw⟩ trivial (by repeat (first | exact trivial | refine ⟨rfl, ?_⟩ | refine ⟨i64_eq (by first | omega | (simp only; omega)), ?_⟩ | refine ⟨u64_eq (by first | omega | (simp only; omega)), ?_⟩)) (by simp only [List.take_zero]; exact Seals.sub (by repeat (first | exact Sub.nil _ | refine Sub.cons (by repeat (first | exact List.Mem.head _ | apply List.Mem.tail)) ?_)))
  · rintro ⟨k, w⟩ ⟨h1, hw⟩
    simp only at h1 hw ⊢
    refine len_fact (by repeat (first | exact List.Mem.head _ | apply List.Mem.tail)) fun _ => ?_
    refine cmp_split _ rfl (fun hi => ?_) (fun hi => ?_)
    · have hlt : k < m.length := by omega
      have hr := hk _ (getD_mem [] hlt)
      have hml : (minor (m.take k) i j).length ≤ k := by unfold minor; rw [List.length_map]; exact Nat.le_trans (List.length_eraseIdx_le _ _) (by simp; omega)
      refine cmp_split _ rfl (fun he => ?_) (fun he => ?_)
      · have hki : k = i := by omega
        subst hki
        refine ar rfl (by first | exact ⟨by omega, by omega⟩ | (simp only [inK]; omega)) ?_
        refine again (k + 1, w) ⟨by simp only; omega, hw⟩ (by simp only; omega) (by repeat (first | exact trivial | refine ⟨rfl, ?_⟩ | refine ⟨i64_eq (by first | omega | (simp only; omega)), ?_⟩ | refine ⟨u64_eq (by first | omega | (simp only; omega)), ?_⟩)) ?_
        simp only [minor_same hlt]
        exact Seals.sub (by repeat (first | exact Sub.nil _ | refine Sub.cons (by repeat (first | exact List.Mem.head _ | apply List.Mem.tail)) ?_))
      · have hki : k ≠ i := by omega
        refine empty_L J z0 (by decide) fun w1 hw1 => ?_
        refine index_fact (by repeat (first | exact List.Mem.head _ | apply List.Mem.tail)) k rfl hlt fun a1 => ?_
        refine load_fact (d := V (m.getD k [])) (by repeat (first | exact List.Mem.head _ | apply List.Mem.tail)) (load_V _) fun x1 => ?_
        refine slice_L (size := 2) (f := J) (z := z0) (l := m.getD k []) (kl := .i64) (kh := .i64) (by repeat (first | exact List.Mem.head _ | apply List.Mem.tail)) 0 j _ _ (.inl ⟨rfl, rfl⟩) (.inr rfl) (Nat.zero_le _) (by omega) fun u1 => ?_
        refine append_L 0 rfl hw1 (Knw.fact (by repeat (first | exact List.Mem.head _ | apply List.Mem.tail))) (by simp only [List.length_append, List.length_drop, List.length_take, List.length_nil]; omega) (by simp only [List.length_append, List.length_drop, List.length_take, List.length_nil]; omega) fun w2 hw2 => ?_
        refine index_fact (by repeat (first | exact List.Mem.head _ | apply List.Mem.tail)) k rfl hlt fun a2 => ?_
        refine load_fact (d := V (m.getD k [])) (by repeat (first | exact List.Mem.head _ | apply List.Mem.tail)) (load_V _) fun x2 => ?_
        refine ar rfl (by first | exact ⟨by omega, by omega⟩ | (simp only [inK]; omega)) ?_
        refine slice_L (size := 2) (f := J) (z := z0) (l := m.getD k []) (kl := .i64) (kh := .i64) (by repeat (first | exact List.Mem.head _ | apply List.Mem.tail)) (j + 1) (m.getD k []).length _ _ (.inr rfl) (.inl ⟨rfl, rfl⟩) (by omega) (Nat.le_refl _) fun u2 => ?_
        refine append_L 0 rfl hw2 (Knw.fact (by repeat (first | exact List.Mem.head _ | apply List.Mem.tail))) (by simp only [List.length_append, List.length_drop, List.length_take, List.length_nil]; omega) (by simp only [List.length_append, List.length_drop, List.length_take, List.length_nil]; omega) fun w3 hw3 => ?_
        refine BuildSliceK.pre (Seals.L 0 rfl hw3) ?_
        have e : [] ++ List.drop 0 (List.take j (m.getD k [])) ++ List.drop (j + 1) (List.take (m.getD k []).length (m.getD k [])) = (m.getD k []).eraseIdx j := by
          rw [List.take_length, List.drop_zero, List.nil_append, List.eraseIdx_eq_take_drop_succ]
        rw [e]
        refine lit_L (size := 1) V [] ((m.getD k []).eraseIdx j) (by decide) (Reads.fact (d := V ((m.getD k []).eraseIdx j)) (by repeat (first | exact List.Mem.head _ | apply List.Mem.tail))) rfl fun l1 => ?_
        refine append_L 0 rfl hw (Knw.fact (by repeat (first | exact List.Mem.head _ | apply List.Mem.tail))) (by simp; omega) (by simp; omega) fun w4 hw4 => ?_
        refine ar rfl (by first | exact ⟨by omega, by omega⟩ | (simp only [inK]; omega)) ?_
        refine again (k + 1, w4) ⟨by simp only; omega, hw4⟩ (by simp only; omega) (by repeat (first | exact trivial | refine ⟨rfl, ?_⟩ | refine ⟨i64_eq (by first | omega | (simp only; omega)), ?_⟩ | refine ⟨u64_eq (by first | omega | (simp only; omega)), ?_⟩)) ?_
        simp only [minor_snoc hlt hki]
        exact Seals.sub (by repeat (first | exact Sub.nil _ | refine Sub.cons (by repeat (first | exact List.Mem.head _ | apply List.Mem.tail)) ?_))
    · have hka : k = m.length := by omega
      refine fin ⟨rfl, rfl⟩ (Seals.trans (Seals.L 0 rfl hw) ?_)
      rw [hka, List.take_length]
      exact Seals.sub (by repeat (first | exact Sub.nil _ | refine Sub.cons (by repeat (first | exact List.Mem.head _ | apply List.Mem.tail)) ?_))

end Go.Proofs.Ytajkjlgddmkkaaa

namespace Go.Proofs.Ytajkjlgddmkkaaa
open Go.RowKit

/-- x must stand before the k-th. -/
def addE (x : Nat) : Nat → List Oper → List Oper
  | _, [] => []
  | 0, o :: r => { o with after := o.after.push ⟨x, .chain⟩ } :: r
  | k + 1, o :: r => o :: addE x k r

theorem addE_get (x : Nat) : ∀ (k : Nat) (L : List Oper) (i : Nat), (addE x k L)[i]? = if i = k then (L[i]?).map fun o => { o with after := o.after.push ⟨x, .chain⟩ } else L[i]?
  | _, [], i => by simp [addE]
  | 0, o :: r, 0 => by simp [addE]
  | 0, o :: r, i + 1 => by simp [addE]
  | k + 1, o :: r, 0 => by simp [addE]
  | k + 1, o :: r, i + 1 => by simp [addE, addE_get x k r i]

theorem addE_len (x : Nat) : ∀ (k : Nat) (L : List Oper), (addE x k L).length = L.length
  | _, [] => by simp [addE]
  | 0, o :: r => by simp [addE]
  | k + 1, o :: r => by simp [addE, addE_len x k r]

theorem yielded_addE (x k : Nat) (L : List Oper) (t : Array Value) : yielded (addE x k L).toArray t = yielded L.toArray t := by
  funext i
  have h : ((addE x k L).toArray[i]?).bind (·.dst) = (L.toArray[i]?).bind (·.dst) := by
    simp only [List.getElem?_toArray, addE_get]
    split
    · cases L[i]? <;> rfl
    · rfl
  simp only [yielded, h]

theorem wpOps_addE {P : Program} {x k : Nat} {L : List Oper} {Q : Exit → Act → World → Prop} : ∀ (l : List Nat), wpOps P (addE x k L).toArray Q l = wpOps P L.toArray Q l
  | [] => rfl
  | i :: rest => by
    have ih := wpOps_addE (P := P) (x := x) (k := k) (L := L) (Q := Q) rest
    funext a w
    simp only [wpOps, yielded_addE, ih, List.getElem?_toArray, addE_get]
    by_cases hik : i = k
    · rw [if_pos hik]
      cases L[i]? <;> rfl
    · rw [if_neg hik]

/-- What is to be shown of a region in whatever order its edges let by. -/
structure OrdK (P : Program) (N : Nat) (L : List Oper) (f : Fr) (os : List Own) (fs : List Fact) (K : Next1) : Prop where
  out : ∀ (G : Ctx) (Q : Post), Q .normal = K → ∀ l, Order .any L l → ∀ a w, Knows N f a → Holds G os fs w → wpOps P L.toArray (Qhat N G Q) l a w

theorem schedule_ord {L : List Oper} {g : List Nat} (h : edgesOK L.length g 0 L = true) (mixed : Bool) (t : Nat) : Order .any L (Region.schedule mixed L.toArray t) := by
  have he := edgesOK_sound h
  have weaken : ∀ {m : Region.Mode} {l : List Nat}, Order m L l → Order .any L l := fun ho => ⟨ho.nodup, ho.all, fun pre i post hp j ⟨o, h1, e, h2, h3, h4⟩ => ho.before pre i post hp j ⟨o, h1, e, h2, binds_any h3, h4⟩⟩
  have text : ∀ t, Order .text L (Region.linearise .text L.toArray t) := fun t => linearise_order (ops := L.toArray) id (fun i j ⟨o, h1, e, h2, h3, h4⟩ => by
    have := he i o h1 e h2; subst h4; exact ⟨by simpa using this.1, by simpa using this.2.1 h3⟩) t
  have any : ∀ t, Order .any L (Region.linearise .any L.toArray t) := fun t => linearise_order (ops := L.toArray) id (fun i j ⟨o, h1, e, h2, h3, h4⟩ => by
    have := he i o h1 e h2; subst h4; exact ⟨by simpa using this.1, by simpa using this.2.2.1 h3⟩) t
  have gc : ∀ t, Order .gc L (Region.linearise .gc L.toArray t) := fun t => linearise_order (ops := L.toArray) (posOf g) (fun i j ⟨o, h1, e, h2, h3, h4⟩ => by
    have := he i o h1 e h2; subst h4; exact ⟨by simpa using this.1, by simpa using this.2.2.2 h3⟩) t
  unfold Region.schedule
  split
  · exact any t
  · split
    · exact weaken (text _)
    · exact weaken (gc _)

theorem draw_ord {P : Program} {N id : Nat} {L : List Oper} {f : Fr} {os : List Own} {fs : List Fact} {K : Next1} (g : List Nat) (hok : edgesOK L.length g 0 L = true) (h : OrdK P N L f os fs K) : DrawK P N id L f os fs K :=
  ⟨fun G Q hQ a w hk hw => wp_region_draw fun t => h.out G Q hQ _ (schedule_ord hok _ t) a _ hk (hw.grow ((Below.refl w.heap.size w).drew))⟩

/-- x and y in either order. -/
theorem ord_split {P : Program} {N : Nat} {L : List Oper} {f : Fr} {os : List Own} {fs : List Fact} {K : Next1} (x y : Nat) (hx : Nat.blt x L.length = true) (hy : Nat.blt y L.length = true) (hne : Nat.beq x y = false)
    (h1 : OrdK P N (addE x y L) f os fs K) (h2 : OrdK P N (addE y x L) f os fs K) : OrdK P N L f os fs K := by
  refine ⟨fun G Q hQ l hl a w hk hw => ?_⟩
  have hx' : x < L.length := by simpa using hx
  have hy' : y < L.length := by simpa using hy
  have hne' : x ≠ y := fun e => by subst e; simp at hne
  have key : ∀ x y, (∀ pre post, l = pre ++ y :: post → x ∈ pre) → Order .any (addE x y L) l := by
    intro x y hxy
    refine ⟨hl.nodup, fun i => by rw [addE_len]; exact hl.all i, fun pre i post hp j ⟨o, h1, e, h2, h3, h4⟩ => ?_⟩
    rw [addE_get] at h1
    by_cases hik : i = y
    · rw [if_pos hik] at h1
      cases hL : L[i]? with
      | none => simp [hL] at h1
      | some o' =>
        simp only [hL, Option.map_some, Option.some.injEq] at h1
        subst h1
        simp only [Array.toList_push, List.mem_append, List.mem_singleton] at h2
        rcases h2 with h2 | h2
        · exact hl.before pre i post hp j ⟨o', hL, e, h2, h3, h4⟩
        · subst h2
          simp only at h4
          subst h4
          exact hxy pre post (by rw [hp, hik])
    · rw [if_neg hik] at h1
      exact hl.before pre i post hp j ⟨o, h1, e, h2, h3, h4⟩
  have hxm : x ∈ l := (hl.all x).2 hx'
  have hym : y ∈ l := (hl.all y).2 hy'
  obtain ⟨pre, post, rfl⟩ := List.append_of_mem hym
  have hnod := hl.nodup
  have uniq : ∀ (z : Nat) (p q p' q' : List Nat), (p ++ z :: q).Nodup → p ++ z :: q = p' ++ z :: q' → p = p' := by
    intro z p
    induction p with
    | nil =>
      intro q p' q' hn he
      cases p' with
      | nil => rfl
      | cons c p' =>
        simp only [List.nil_append, List.cons_append, List.cons.injEq] at he
        obtain ⟨rfl, rfl⟩ := he
        simp at hn
    | cons c p ih =>
      intro q p' q' hn he
      cases p' with
      | nil =>
        simp only [List.nil_append, List.cons_append, List.cons.injEq] at he
        obtain ⟨rfl, rfl⟩ := he
        simp at hn
      | cons c' p' =>
        simp only [List.cons_append, List.cons.injEq] at he
        obtain ⟨rfl, he⟩ := he
        rw [ih q p' q' (List.nodup_cons.1 hn).2 he]
  rcases List.mem_append.1 hxm with hm | hm
  · have := h1.out G Q hQ _ (key x y fun pre' post' hp => by rw [← uniq y pre post pre' post' hnod hp]; exact hm) a w hk hw
    rwa [wpOps_addE] at this
  · rcases List.mem_cons.1 hm with rfl | hm
    · exact absurd rfl hne'
    · obtain ⟨p2, q2, rfl⟩ := List.append_of_mem hm
      have := h2.out G Q hQ _ (key y x fun pre' post' hp => by
        have e : pre ++ y :: (p2 ++ x :: q2) = (pre ++ y :: p2) ++ x :: q2 := by simp
        rw [← uniq x (pre ++ y :: p2) q2 pre' post' (by rw [← e]; exact hnod) (by rw [← e]; exact hp)]
        simp) a w hk hw
      rwa [wpOps_addE] at this

def ordOK (L : List Oper) (c : List Nat) : Bool :=
  Nat.beq c.length L.length && (List.range L.length).all (fun i => c.any (Nat.beq i)) && pairsOK L (ancs L []) c

theorem ordOK_sound {L : List Oper} {c : List Nat} (h : ordOK L c = true) : Checked1 L (ancs L []) c := by
  simp only [ordOK, Bool.and_eq_true] at h
  obtain ⟨⟨_, h2⟩, h3⟩ := h
  obtain ⟨g1, g2, g3, g4⟩ := pairsOK_sound h3
  refine ⟨g1, fun i => ⟨g2 i, fun hi => ?_⟩, g3, g4⟩
  have := List.all_eq_true.1 h2 i (by simpa using hi)
  obtain ⟨x, hx, hb⟩ := List.any_eq_true.1 this
  have := Nat.eq_of_beq_eq_true hb
  subst this
  exact hx

theorem ord_go {P : Program} {N : Nat} {L : List Oper} {f : Fr} {os : List Own} {fs : List Fact} {K : Next1} (c : List Nat) (hok : ordOK L c = true) (hdst : dstsOK N L = true)
    (k : VCops P true L (pickOps L c) f os fs K) : OrdK P N L f os fs K := by
  refine ⟨fun G Q hQ l hord a w hk hw => ?_⟩
  have hc := ordOK_sound hok
  refine sim (f0 := f) hc hdst hQ _ (fun _ => False) (vd := []) (c' := c) (val := fun _ => undef) (vf := f) (os := os) (fs := fs) ?_ (fun i => by simpa using (hord.all i).symm) hord.nodup (fun _ _ h => h) (fun pre i post hp j hj => .inr (hord.before pre i post hp j hj))
  exact ⟨rfl, fun _ h => h.elim, fun _ h => h.elim, hk.defers, hk.size, fun t v ht => hk.holds t v (by
    rcases ht with ⟨_, _, h, _⟩ | h
    · exact h.elim
    · exact h.1), fun t v ht => .inr ⟨ht, fun j o hj => by simp at hj⟩, fun k o hk => by simp at hk, hw, k⟩

end Go.Proofs.Ytajkjlgddmkkaaa

namespace Go.Proofs.Ytajkjlgddmkkaaa

def isum (g : Nat → Int) : Nat → Int
  | 0 => 0
  | k + 1 => isum g k + g k

theorem isum_congr {g g' : Nat → Int} : ∀ {n : Nat}, (∀ k, k < n → g k = g' k) → isum g n = isum g' n
  | 0, _ => rfl
  | n + 1, h => by simp only [isum]; rw [isum_congr (n := n) fun k hk => h k (by omega), h n (by omega)]

theorem isum_zero {g : Nat → Int} : ∀ {n : Nat}, (∀ k, k < n → g k = 0) → isum g n = 0
  | 0, _ => rfl
  | n + 1, h => by simp only [isum]; rw [isum_zero (n := n) fun k hk => h k (by omega), h n (by omega)]; rfl

theorem isum_lin (a b : Int) (f g : Nat → Int) : ∀ n, isum (fun k => a * f k + b * g k) n = a * isum f n + b * isum g n
  | 0 => by simp [isum]
  | n + 1 => by simp only [isum]; rw [isum_lin a b f g n]; grind

theorem isum_add (f g : Nat → Int) (n : Nat) : isum (fun k => f k + g k) n = isum f n + isum g n := by
  have := isum_lin 1 1 f g n; simpa using this

theorem isum_mul (a : Int) (f : Nat → Int) (n : Nat) : isum (fun k => a * f k) n = a * isum f n := by
  have := isum_lin a 0 f f n; simpa using this

theorem isum_neg (f : Nat → Int) (n : Nat) : isum (fun k => - f k) n = - isum f n := by
  have := isum_mul (-1) f n; simpa using this

theorem isum_mul_right (a : Int) (f : Nat → Int) (n : Nat) : isum (fun k => f k * a) n = isum f n * a := by
  rw [Int.mul_comm, ← isum_mul]; exact isum_congr fun k _ => Int.mul_comm _ _

theorem isum_one {g : Nat → Int} {n r : Nat} (hr : r < n) (h : ∀ k, k < n → k ≠ r → g k = 0) : isum g n = g r := by
  induction n with
  | zero => omega
  | succ n ih =>
    simp only [isum]
    by_cases hn : r = n
    · subst hn
      rw [isum_zero fun k hk => h k (by omega) (by omega)]; omega
    · rw [ih (by omega) fun k hk => h k (by omega), h n (by omega) (by omega)]; omega

theorem isum_two {g : Nat → Int} {n r : Nat} (hr : r + 1 < n) (h : ∀ k, k < n → k ≠ r → k ≠ r + 1 → g k = 0) : isum g n = g r + g (r + 1) := by
  induction n with
  | zero => omega
  | succ n ih =>
    simp only [isum]
    by_cases hn : r + 1 = n
    · subst hn
      rw [isum_one (r := r) (by omega) fun k hk hkr => h k (by omega) hkr (by omega)]
    · rw [ih (by omega) fun k hk => h k (by omega), h n (by omega) (by omega) (by omega)]; omega

theorem isum_front (g : Nat → Int) : ∀ n, isum g (n + 1) = g 0 + isum (fun k => g (k + 1)) n
  | 0 => by simp [isum]
  | n + 1 => by rw [isum, isum_front g n, isum]; omega

theorem isum_swap (f : Nat → Nat → Int) (m : Nat) : ∀ n, isum (fun i => isum (fun j => f i j) m) n = isum (fun j => isum (fun i => f i j) n) m
  | 0 => by simp only [isum]; exact (isum_zero fun _ _ => rfl).symm
  | n + 1 => by simp only [isum]; rw [isum_swap f m n, ← isum_add]

def sg (j : Nat) : Int := if j % 2 = 1 then -1 else 1

theorem sg_zero : sg 0 = 1 := rfl
theorem sg_succ (j : Nat) : sg (j + 1) = - sg j := by
  unfold sg
  by_cases h : j % 2 = 1
  · rw [if_pos h, if_neg (by omega)]; rfl
  · rw [if_neg h, if_pos (by omega)]
theorem sg_add (i j : Nat) : sg (i + j) = sg i * sg j := by
  induction j with
  | zero => simp [sg]
  | succ j ih => rw [← Nat.add_assoc, sg_succ, ih, sg_succ]; grind
theorem sg_sq (j : Nat) : sg j * sg j = 1 := by
  unfold sg; split <;> rfl
theorem sg_two (i : Nat) : sg (2 * i) = 1 := by unfold sg; rw [if_neg (by omega)]

abbrev Mx := Nat → Nat → Int

/-- Past i. -/
def sk (i k : Nat) : Nat := if k < i then k else k + 1
def cut (A : Mx) (i j : Nat) : Mx := fun x y => A (sk i x) (sk j y)
def det : Nat → Mx → Int
  | 0, _ => 1
  | n + 1, A => isum (fun i => sg i * (A i 0 * det n (cut A i 0))) (n + 1)

def rw' (A : Mx) (r : Nat) (u : Nat → Int) : Mx := fun i j => if i = r then u j else A i j
def tp (A : Mx) : Mx := fun i j => A j i
def one : Mx := fun i j => if i = j then 1 else 0
def mm (n : Nat) (A B : Mx) : Mx := fun i j => isum (fun k => A i k * B k j) n

theorem sk_ne (i k : Nat) : sk i k ≠ i := by unfold sk; split <;> omega
theorem sk_lt {i k n : Nat} (h : k < n) : sk i k < n + 1 := by unfold sk; split <;> omega
theorem sk_zero (k : Nat) : sk 0 k = k + 1 := rfl
theorem sk_inj {i a b : Nat} (h : sk i a = sk i b) : a = b := by unfold sk at h; split at h <;> split at h <;> omega
theorem sk_sk {i k : Nat} (h : i ≤ k) (x : Nat) : sk i (sk k x) = sk (k + 1) (sk i x) := by
  unfold sk
  by_cases h1 : x < i
  · rw [if_pos (show x < k by omega), if_pos h1, if_pos (show x < k + 1 by omega)]
  · by_cases h2 : x < k
    · rw [if_pos h2, if_neg h1, if_pos (show x + 1 < k + 1 by omega)]
    · rw [if_neg h2, if_neg h1, if_neg (show ¬ x + 1 < i by omega), if_neg (show ¬ x + 1 < k + 1 by omega)]
/-- Where r comes to lie without i. -/
def pk (i r : Nat) : Nat := if r < i then r else r - 1
theorem sk_pk {i r : Nat} (h : r ≠ i) : sk i (pk i r) = r := by
  unfold sk pk
  by_cases h1 : r < i
  · rw [if_pos h1, if_pos h1]
  · rw [if_neg h1, if_neg (by omega)]; omega
theorem pk_lt {i r n : Nat} (hr : r < n + 1) (hi : i < n + 1) (h : r ≠ i) : pk i r < n := by unfold pk; split <;> omega
theorem sk_eq_iff {i r x : Nat} (h : r ≠ i) : sk i x = r ↔ x = pk i r :=
  ⟨fun e => sk_inj (e.trans (sk_pk h).symm), fun e => e ▸ sk_pk h⟩

theorem det_congr : ∀ {n : Nat} {A B : Mx}, (∀ i j, i < n → j < n → A i j = B i j) → det n A = det n B
  | 0, _, _, _ => rfl
  | n + 1, A, B, h => by
    simp only [det]
    refine isum_congr fun i hi => ?_
    rw [h i 0 hi (by omega), det_congr (n := n) (A := cut A i 0) (B := cut B i 0) fun x y hx hy => h _ _ (sk_lt hx) (sk_lt hy)]

theorem cut_rw_same (A : Mx) (r j : Nat) (u : Nat → Int) : cut (rw' A r u) r j = cut A r j := by
  funext x y; simp only [cut, rw', if_neg (sk_ne r x)]
theorem cut_rw {A : Mx} {i r j : Nat} (h : r ≠ i) (u : Nat → Int) : cut (rw' A r u) i j = rw' (cut A i j) (pk i r) (fun y => u (sk j y)) := by
  funext x y
  simp only [cut, rw']
  by_cases hx : x = pk i r
  · rw [if_pos hx, if_pos ((sk_eq_iff h).2 hx)]
  · rw [if_neg hx, if_neg fun e => hx ((sk_eq_iff h).1 e)]

theorem det_row_lin : ∀ {n : Nat} (A : Mx) {r : Nat}, r < n → ∀ (a b : Int) (u v : Nat → Int),
    det n (rw' A r (fun j => a * u j + b * v j)) = a * det n (rw' A r u) + b * det n (rw' A r v)
  | 0, _, _, h, _, _, _, _ => by omega
  | n + 1, A, r, hr, a, b, u, v => by
    simp only [det]
    rw [← isum_lin]
    refine isum_congr fun i hi => ?_
    by_cases h : i = r
    · subst h
      rw [cut_rw_same, cut_rw_same, cut_rw_same]
      simp only [rw', if_true]
      grind
    · have h' : r ≠ i := fun e => h e.symm
      rw [cut_rw h', cut_rw h', cut_rw h', det_row_lin (cut A i 0) (pk_lt hr hi h') a b]
      simp only [rw', if_neg h]
      grind

theorem det_row_alt : ∀ {n : Nat} {A : Mx} {r : Nat}, r + 1 < n → (∀ j, j < n → A r j = A (r + 1) j) → det n A = 0
  | 0, _, _, h, _ => by omega
  | n + 1, A, r, hr, he => by
    simp only [det]
    rw [isum_two (r := r) hr]
    · have e : det n (cut A (r + 1) 0) = det n (cut A r 0) := det_congr fun x y hx hy => by
        simp only [cut]
        by_cases h : x = r
        · subst h
          rw [show sk (x + 1) x = x from if_pos (by omega), show sk x x = x + 1 from if_neg (by omega)]
          exact he _ (sk_lt hy)
        · have : sk (r + 1) x = sk r x := by unfold sk; split <;> split <;> omega
          rw [this]
      rw [e, sg_succ, he 0 (by omega)]
      grind
    · intro i hi h1 h2
      have hp : pk i (r + 1) = pk i r + 1 := by unfold pk; split <;> split <;> omega
      have : det n (cut A i 0) = 0 := det_row_alt (r := pk i r) (by have := pk_lt hr hi (fun e => h2 e.symm); omega) fun j hj => by
        simp only [cut]
        rw [← hp, sk_pk (fun e => h2 e.symm), sk_pk (fun e => h1 e.symm)]
        exact he _ (sk_lt hj)
      rw [this]; simp

-- Columns.
theorem tr_tr (A : Mx) : tp (tp A) = A := rfl

def cw (A : Mx) (c : Nat) (u : Nat → Int) : Mx := fun i j => if j = c then u i else A i j

theorem cut_cw {A : Mx} {i c : Nat} (u : Nat → Int) : cut (cw A (c + 1) u) i 0 = cw (cut A i 0) c (fun x => u (sk i x)) := by
  funext x y
  unfold cut cw
  rw [sk_zero]
  by_cases hx : y = c
  · rw [if_pos hx, if_pos (by omega)]
  · rw [if_neg hx, if_neg (by omega)]; rfl

theorem det_col_lin : ∀ {n : Nat} (A : Mx) {c : Nat}, c < n → ∀ (a b : Int) (u v : Nat → Int),
    det n (cw A c (fun j => a * u j + b * v j)) = a * det n (cw A c u) + b * det n (cw A c v)
  | 0, _, _, h, _, _, _, _ => by omega
  | n + 1, A, 0, hr, a, b, u, v => by
    simp only [det]
    rw [← isum_lin]
    refine isum_congr fun i hi => ?_
    have e : ∀ w, cut (cw A 0 w) i 0 = cut A i 0 := fun w => by funext x y; unfold cut cw; rw [sk_zero, if_neg (by omega)]
    rw [e, e, e]
    simp only [cw, if_true]
    grind
  | n + 1, A, c + 1, hr, a, b, u, v => by
    simp only [det]
    rw [← isum_lin]
    refine isum_congr fun i hi => ?_
    rw [cut_cw, cut_cw, cut_cw, det_col_lin (cut A i 0) (by omega) a b]
    have : ¬ 0 = c + 1 := by omega
    simp only [cw, if_neg this]
    grind

theorem dsum {F : Nat → Nat → Int} : ∀ {n : Nat}, (∀ i k, i ≤ k → k < n → F i k + F (k + 1) i = 0) → isum (fun i => isum (F i) n) (n + 1) = 0
  | 0, _ => by simp [isum]
  | n + 1, h => by
    have h1 := dsum (F := F) (n := n) fun i k hi hk => h i k hi (by omega)
    rw [isum]
    have e : isum (fun i => isum (F i) (n + 1)) (n + 1) = isum (fun i => isum (F i) n) (n + 1) + isum (fun i => F i n) (n + 1) := by
      rw [← isum_add]; exact isum_congr fun i _ => rfl
    rw [e, h1, Int.zero_add, ← isum_add]
    exact isum_zero fun i hi => h i n (by omega) (by omega)

theorem det_col_alt : ∀ {n : Nat} {A : Mx} {c : Nat}, c + 1 < n → (∀ i, i < n → A i c = A i (c + 1)) → det n A = 0
  | 0, _, _, h, _ => by omega
  | 1, _, _, h, _ => by omega
  | n + 2, A, 0, hr, he => by
    simp only [det]
    rw [isum_congr (g' := fun i => isum (fun k => sg i * A i 0 * (sg k * (A (sk i k) 1 * det n (cut (cut A i 0) k 0)))) (n + 1))]
    · refine dsum fun i k hi hk => ?_
      have e1 : sk i k = k + 1 := if_neg (by omega)
      have e2 : sk (k + 1) i = i := if_pos (by omega)
      have e3 : cut (cut A i 0) k 0 = cut (cut A (k + 1) 0) i 0 := by
        funext x y; simp only [cut]; rw [sk_sk hi]
      rw [e1, e2, e3, he i (by omega), he (k + 1) (by omega), sg_succ]
      grind
    · intro i hi
      rw [isum_mul]
      have : isum (fun k => sg k * (A (sk i k) 1 * det n (cut (cut A i 0) k 0))) (n + 1) = isum (fun k => sg k * (cut A i 0 k 0 * det n (cut (cut A i 0) k 0))) (n + 1) := rfl
      rw [this]
      grind
  | n + 2, A, c + 1, hr, he => by
    rw [det]
    refine isum_zero fun i hi => ?_
    rw [det_col_alt (n := n + 1) (A := cut A i 0) (c := c) (by omega) fun x hx => by simp only [cut, sk_zero]; exact he _ (sk_lt hx)]
    simp

/-- Linear and alternating in n rows. -/
structure Form (n : Nat) (D : Mx → Int) : Prop where
  cong : ∀ {A B : Mx}, (∀ i j, i < n → j < n → A i j = B i j) → D A = D B
  lin : ∀ (A : Mx) {r : Nat}, r < n → ∀ (a b : Int) (u v : Nat → Int), D (rw' A r (fun j => a * u j + b * v j)) = a * D (rw' A r u) + b * D (rw' A r v)
  alt : ∀ {A : Mx} {r : Nat}, r + 1 < n → (∀ j, j < n → A r j = A (r + 1) j) → D A = 0

theorem det_form (n : Nat) : Form n (det n) := ⟨det_congr, fun A _ h => det_row_lin A h, det_row_alt⟩
theorem tr_cw (A : Mx) (r : Nat) (u : Nat → Int) : tp (rw' A r u) = cw (tp A) r u := rfl
theorem dett_form (n : Nat) : Form n (fun A => det n (tp A)) := by
  refine ⟨fun h => det_congr fun i j hi hj => h j i hj hi, fun A r hr a b u v => ?_, fun {A r} h he => det_col_alt (A := tp A) h fun i hi => he i hi⟩
  simp only [tr_cw]
  exact det_col_lin (tp A) hr a b u v

theorem rw_self (A : Mx) (r : Nat) : rw' A r (A r) = A := by
  funext i j; unfold rw'; split
  · rename_i h; rw [h]
  · rfl
theorem rw_rw (A : Mx) (r : Nat) (u v : Nat → Int) : rw' (rw' A r u) r v = rw' A r v := by
  funext i j; unfold rw'; split <;> rfl
theorem rw_comm (A : Mx) {r s : Nat} (h : r ≠ s) (u v : Nat → Int) : rw' (rw' A r u) s v = rw' (rw' A s v) r u := by
  funext i j; unfold rw'
  by_cases h1 : i = s
  · rw [if_pos h1, if_neg (by omega), if_pos h1]
  · rw [if_neg h1]
    by_cases h2 : i = r
    · rw [if_pos h2, if_pos h2]
    · rw [if_neg h2, if_neg h2, if_neg h1]

namespace Form
variable {n : Nat} {D : Mx → Int}

theorem add (h : Form n D) (A : Mx) {r : Nat} (hr : r < n) (u v : Nat → Int) : D (rw' A r (fun j => u j + v j)) = D (rw' A r u) + D (rw' A r v) := by
  have := h.lin A hr 1 1 u v; simpa using this
theorem smul (h : Form n D) (A : Mx) {r : Nat} (hr : r < n) (c : Int) (u : Nat → Int) : D (rw' A r (fun j => c * u j)) = c * D (rw' A r u) := by
  have := h.lin A hr c 0 u u; simpa using this
theorem zero (h : Form n D) {A : Mx} {r : Nat} (hr : r < n) (hz : ∀ j, j < n → A r j = 0) : D A = 0 := by
  have h1 := h.smul A hr 0 (A r)
  rw [Int.zero_mul] at h1
  rw [← h1]
  refine h.cong fun i j hi hj => ?_
  unfold rw'
  split
  · rename_i e; subst e; rw [hz j hj]; simp
  · rfl

/-- From equal rows to what changing them about does. -/
theorem swap_of (h : Form n D) {A : Mx} {r s : Nat} (hr : r < n) (hs : s < n) (hne : r ≠ s) (alt : ∀ B : Mx, (∀ j, j < n → B r j = B s j) → D B = 0) :
    D (rw' (rw' A r (A s)) s (A r)) = - D A := by
  have z : ∀ w, D (rw' (rw' A r w) s w) = 0 := fun w => alt _ fun j _ => by
    simp [rw', hne]
  have key := z fun j => A r j + A s j
  rw [h.add _ hs, rw_comm A hne, h.add _ hr, rw_comm A hne, h.add _ hr] at key
  rw [rw_comm _ (Ne.symm hne), rw_comm _ (Ne.symm hne) , rw_comm _ (Ne.symm hne), rw_comm _ (Ne.symm hne)] at key
  have z1 := z (A r)
  have z2 := z (A s)
  have e : rw' (rw' A r (A r)) s (A s) = A := by rw [rw_self, rw_self]
  have e1 : D (rw' (rw' A r fun j => A r j) s fun j => A r j) = 0 := z1
  have e2 : D (rw' (rw' A r fun j => A s j) s fun j => A s j) = 0 := z2
  have e3 : D (rw' (rw' A r fun j => A r j) s fun j => A s j) = D A := congrArg D e
  have e4 : D (rw' (rw' A r fun j => A s j) s fun j => A r j) = D (rw' (rw' A r (A s)) s (A r)) := rfl
  rw [e1, e2, e3, e4] at key
  omega

theorem alt2 (h : Form n D) : ∀ (d : Nat) {A : Mx} {r : Nat}, r + d + 1 < n → (∀ j, j < n → A r j = A (r + d + 1) j) → D A = 0
  | 0, A, r, hr, he => h.alt hr he
  | d + 1, A, r, hr, he => by
    have hs := h.swap_of (A := A) (r := r + d + 1) (s := r + d + 2) (by omega) (by omega) (by omega) fun B hB => h.alt (by omega) hB
    have : D (rw' (rw' A (r + d + 1) (A (r + d + 2))) (r + d + 2) (A (r + d + 1))) = 0 := h.alt2 d (r := r) (by omega) fun j hj => by
      have h1 : ¬ r = r + d + 2 := by omega
      have h2 : ¬ r = r + d + 1 := by omega
      have h3 : ¬ r + d + 1 = r + d + 2 := by omega
      simp only [rw', if_neg h1, if_neg h2, if_neg h3, if_true]
      exact he j hj
    omega

theorem eqRows (h : Form n D) {A : Mx} {r s : Nat} (hr : r < n) (hs : s < n) (hne : r ≠ s) (he : ∀ j, j < n → A r j = A s j) : D A = 0 := by
  rcases Nat.lt_or_gt_of_ne hne with hlt | hlt
  · obtain ⟨d, rfl⟩ : ∃ d, s = r + d + 1 := ⟨s - r - 1, by omega⟩
    exact h.alt2 d hs he
  · obtain ⟨d, rfl⟩ : ∃ d, r = s + d + 1 := ⟨r - s - 1, by omega⟩
    exact h.alt2 d hr fun j hj => (he j hj).symm

theorem swap (h : Form n D) {A : Mx} {r s : Nat} (hr : r < n) (hs : s < n) (hne : r ≠ s) : D (rw' (rw' A r (A s)) s (A r)) = - D A :=
  h.swap_of hr hs hne fun _ hB => h.eqRows hr hs hne hB

/-- A multiple of another row is put to a row. -/
theorem addRow (h : Form n D) {A : Mx} {r s : Nat} (hr : r < n) (hs : s < n) (hne : r ≠ s) (c : Int) (v : Nat → Int) (hv : ∀ j, j < n → v j = A s j) (u : Nat → Int) : D (rw' A r (fun j => u j + c * v j)) = D (rw' A r u) := by
  have h1 := h.lin A hr 1 c u v
  have h2 : D (rw' A r v) = 0 := h.eqRows hr hs hne fun j hj => by
    unfold rw'; rw [if_pos rfl, if_neg (Ne.symm hne), hv j hj]
  simpa [h2] using h1

/-- A sum of rows in a row's place. -/
theorem sum (h : Form n D) (A : Mx) {r : Nat} (hr : r < n) (c : Nat → Int) (u : Nat → Nat → Int) : ∀ m, D (rw' A r (fun j => isum (fun k => c k * u k j) m)) = isum (fun k => c k * D (rw' A r (u k))) m
  | 0 => by
    simp only [isum]
    exact h.zero hr fun j _ => by unfold rw'; simp
  | m + 1 => by
    simp only [isum]
    have := h.lin A hr 1 (c m) (fun j => isum (fun k => c k * u k j) m) (u m)
    rw [h.sum A hr c u m] at this
    simpa using this

theorem addRows (h : Form n D) {A : Mx} {r : Nat} (hr : r < n) (c : Nat → Int) (s : Nat → Nat) (m : Nat) (hs : ∀ k, k < m → s k < n ∧ s k ≠ r) (u : Nat → Int) :
    D (rw' A r (fun j => u j + isum (fun k => c k * A (s k) j) m)) = D (rw' A r u) := by
  have h1 := h.add A hr u (fun j => isum (fun k => c k * A (s k) j) m)
  rw [h.sum A hr c (fun k => A (s k)) m] at h1
  rw [h1, isum_zero, Int.add_zero]
  intro k hk
  obtain ⟨k1, k2⟩ := hs k hk
  rw [h.eqRows (A := rw' A r (A (s k))) hr k1 (Ne.symm k2) fun j hj => by unfold rw'; rw [if_pos rfl, if_neg k2]]
  simp

end Form

-- Rows of units.
def unitRow (f : Nat → Nat) : Mx := fun i j => if f i = j then 1 else 0

theorem pigeon : ∀ (k : Nat) (f : Nat → Nat), (∀ i, i ≤ k → f i < k) → ∃ i j, i < j ∧ j ≤ k ∧ f i = f j
  | 0, f, h => absurd (h 0 (Nat.le_refl _)) (by omega)
  | k + 1, f, h => by
    by_cases hx : ∃ i, i ≤ k ∧ f i = f (k + 1)
    · obtain ⟨i, h1, h2⟩ := hx
      exact ⟨i, k + 1, by omega, by omega, h2⟩
    · have hne : ∀ i, i ≤ k → f i ≠ f (k + 1) := fun i hi e => hx ⟨i, hi, e⟩
      have hl := h (k + 1) (Nat.le_refl _)
      obtain ⟨i, j, h1, h2, h3⟩ := pigeon k (fun i => pk (f (k + 1)) (f i)) fun i hi => by
        have := h i (by omega)
        exact pk_lt (n := k) (by omega) hl (hne i hi)
      refine ⟨i, j, h1, by omega, ?_⟩
      rw [← sk_pk (hne i (by omega)), ← sk_pk (hne j h2), h3]

namespace Form
variable {n : Nat} {D : Mx → Int}

theorem units (h : Form n D) (h0 : D one = 0) : ∀ (k : Nat), k ≤ n → ∀ f : Nat → Nat, (∀ i, i < n → f i < n) → (∀ i, k ≤ i → i < n → f i = i) → D (unitRow f) = 0
  | 0, _, f, _, hf => by
    rw [← h0]
    exact h.cong fun i j hi hj => by unfold unitRow one; rw [hf i (by omega) hi]
  | k + 1, hk, f, hb, hf => by
    by_cases hrep : ∃ i j, i < j ∧ j < n ∧ f i = f j
    · obtain ⟨i, j, h1, h2, h3⟩ := hrep
      exact h.eqRows (r := i) (s := j) (by omega) h2 (by omega) fun y _ => by unfold unitRow; rw [h3]
    · by_cases hx : ∃ i, i ≤ k ∧ f i = k
      · obtain ⟨i, h1, h2⟩ := hx
        by_cases hik : i = k
        · subst hik
          refine units h h0 i (by omega) f hb fun x hx hxn => ?_
          by_cases e : x = i
          · rw [e, h2]
          · exact hf x (by omega) hxn
        · have hsw := h.swap (A := unitRow f) (r := i) (s := k) (by omega) (by omega) hik
          have e : rw' (rw' (unitRow f) i (unitRow f k)) k (unitRow f i) = unitRow (fun x => if x = k then f i else if x = i then f k else f x) := by
            funext x y
            unfold rw' unitRow
            by_cases e1 : x = k
            · simp [e1]
            · by_cases e2 : x = i
              · simp [e2, hik]
              · simp [e1, e2]
          rw [e, units h h0 k (by omega)] at hsw
          · omega
          · intro x hx
            split
            · exact hb _ (by omega)
            · split
              · exact hb _ (by omega)
              · exact hb _ hx
          · intro x hx hxn
            by_cases e1 : x = k
            · rw [if_pos e1, h2, e1]
            · rw [if_neg e1, if_neg (by omega)]
              exact hf x (by omega) hxn
      · exfalso
        have hlow : ∀ i, i ≤ k → f i < k := fun i hi => by
          rcases Nat.lt_or_ge (f i) k with h1 | h1
          · exact h1
          · exfalso
            by_cases e : f i = k
            · exact hx ⟨i, hi, e⟩
            · exact hrep ⟨i, f i, by omega, hb i (by omega), (hf (f i) (by omega) (hb i (by omega))).symm⟩
        obtain ⟨i, j, h1, h2, h3⟩ := pigeon k f hlow
        exact hrep ⟨i, j, h1, by omega, h3⟩

theorem vanish (h : Form n D) (h0 : D one = 0) : ∀ (k : Nat), k ≤ n → ∀ (A : Mx) (f : Nat → Nat), (∀ i, i < n → f i < n) → (∀ i j, k ≤ i → i < n → j < n → A i j = unitRow f i j) → D A = 0
  | 0, _, A, f, hb, hA => by
    rw [← units h h0 n (Nat.le_refl _) f hb fun i h1 h2 => by omega]
    exact h.cong fun i j hi hj => hA i j (by omega) hi hj
  | k + 1, hk, A, f, hb, hA => by
    have e : D A = D (rw' A k (fun j => isum (fun c => A k c * one c j) n)) := h.cong fun i j hi hj => by
      unfold rw'
      split
      · rename_i e
        subst e
        show _ = isum _ n
        rw [isum_one (r := j) hj fun c _ hc => by simp [one, hc]]
        simp [one]
      · rfl
    rw [e, h.sum A (by omega) (fun c => A k c) one n]
    refine isum_zero fun c hc => ?_
    rw [vanish h h0 k (by omega) (rw' A k (one c)) (fun x => if x = k then c else f x) (fun i hi => by split; exact hc; exact hb i hi) fun i j h1 h2 h3 => ?_]
    · simp
    · unfold rw' unitRow
      by_cases hik : i = k
      · simp [hik, one]
      · simp only [if_neg hik]
        exact hA i j (by omega) h2 h3

end Form

theorem det_one : ∀ n, det n one = 1
  | 0 => rfl
  | n + 1 => by
    rw [det, isum_one (r := 0) (by omega) fun k _ hk => by simp [one, hk]]
    have : det n (cut one 0 0) = det n one := det_congr fun i j _ _ => by simp [cut, one, sk_zero]
    rw [this, det_one n]; rfl

/-- There is but one. -/
theorem Form.eq {n : Nat} {D : Mx → Int} (h : Form n D) (A : Mx) : D A = det n A * D one := by
  have hE : Form n (fun A => D A - det n A * D one) := by
    refine ⟨fun hc => by rw [h.cong hc, det_congr hc], fun A r hr a b u v => ?_, fun hr he => by rw [h.alt hr he, det_row_alt hr he]; simp⟩
    rw [h.lin A hr, det_row_lin A hr]
    grind
  have := hE.vanish (by rw [det_one]; omega) n (Nat.le_refl _) A (fun i => i) (fun i hi => hi) fun i j h1 h2 => by omega
  omega

theorem tr_one : tp one = one := by
  funext i j; unfold tp one
  by_cases h : i = j
  · subst h; rfl
  · rw [if_neg h, if_neg (Ne.symm h)]

theorem det_tr (n : Nat) (A : Mx) : det n (tp A) = det n A := by
  have := (dett_form n).eq A
  simp only [tr_one, det_one, Int.mul_one] at this
  exact this

theorem mul_rw (n : Nat) (A B : Mx) (r : Nat) (u : Nat → Int) : mm n (rw' A r u) B = rw' (mm n A B) r (fun j => isum (fun k => u k * B k j) n) := by
  funext i j
  unfold mm rw'
  by_cases h : i = r
  · simp only [if_pos h]
  · simp only [if_neg h]

theorem det_mul (n : Nat) (A B : Mx) : det n (mm n A B) = det n A * det n B := by
  have h : Form n (fun A => det n (mm n A B)) := by
    refine ⟨fun hc => det_congr fun i j hi hj => isum_congr fun k hk => by rw [hc i k hi hk], fun A r hr a b u v => ?_, fun {A r} hr he => det_row_alt hr fun j hj => isum_congr fun k hk => by rw [he k hk]⟩
    simp only [mul_rw]
    rw [← det_row_lin _ hr]
    congr 2
    funext j
    rw [← isum_lin]
    exact isum_congr fun k _ => by grind
  have := h.eq A
  rw [this]
  congr 1
  refine det_congr fun i j hi hj => ?_
  unfold mm
  rw [isum_one (r := i) hi fun k _ hk => by simp [one, Ne.symm hk]]
  simp [one]

-- Any column, any row.
def mv (A : Mx) (j : Nat) : Mx := fun x y => A x (if y = 0 then j else sk j (y - 1))

theorem det_mv (n : Nat) : ∀ (j : Nat) (A : Mx), j < n → det n (mv A j) = sg j * det n A
  | 0, A, _ => by
    rw [sg_zero, Int.one_mul]
    refine det_congr fun x y _ _ => ?_
    unfold mv
    congr 1
    by_cases h : y = 0
    · rw [if_pos h, h]
    · rw [if_neg h, sk_zero]; omega
  | j + 1, A, hj => by
    have hsw := (dett_form n).swap (A := tp A) (r := j) (s := j + 1) (by omega) hj (by omega)
    simp only [tr_tr] at hsw
    have ih := det_mv n j (tp (rw' (rw' (tp A) j (tp A (j + 1))) (j + 1) (tp A j))) (by omega)
    rw [hsw] at ih
    rw [sg_succ, Int.neg_mul, ← Int.mul_neg, ← ih]
    refine det_congr fun x y _ _ => ?_
    unfold mv tp rw'
    by_cases h : y = 0
    · simp [h]
    · simp only [if_neg h]
      by_cases h1 : y - 1 < j
      · have e1 : sk j (y - 1) = y - 1 := if_pos h1
        have e2 : sk (j + 1) (y - 1) = y - 1 := if_pos (by omega)
        rw [e1, e2, if_neg (by omega), if_neg (by omega)]
      · by_cases h2 : y - 1 = j
        · have e1 : sk j (y - 1) = j + 1 := by unfold sk; rw [if_neg h1]; omega
          have e2 : sk (j + 1) (y - 1) = j := by unfold sk; rw [if_pos (by omega)]; omega
          rw [e1, e2, if_pos rfl]
        · have e1 : sk j (y - 1) = y := by unfold sk; rw [if_neg h1]; omega
          have e2 : sk (j + 1) (y - 1) = y := by unfold sk; rw [if_neg (by omega)]; omega
          rw [e1, e2, if_neg (by omega), if_neg (by omega)]

theorem det_col {n : Nat} (A : Mx) {j : Nat} (hj : j < n + 1) : det (n + 1) A = isum (fun i => sg (i + j) * (A i j * det n (cut A i j))) (n + 1) := by
  have h1 := det_mv (n + 1) j A hj
  have h2 : det (n + 1) (mv A j) = isum (fun i => sg i * (A i j * det n (cut A i j))) (n + 1) := by
    rw [det]
    refine isum_congr fun i _ => ?_
    have : cut (mv A j) i 0 = cut A i j := by funext x y; simp [cut, mv, sk_zero]
    rw [this]; simp [mv]
  rw [h2] at h1
  have h3 : det (n + 1) A = sg j * (sg j * det (n + 1) A) := by rw [← Int.mul_assoc, sg_sq, Int.one_mul]
  rw [h3, ← h1, ← isum_mul]
  refine isum_congr fun i _ => ?_
  rw [sg_add]; grind

theorem cut_tr (A : Mx) (i j : Nat) : cut (tp A) i j = tp (cut A j i) := rfl

theorem det_row {n : Nat} (A : Mx) {i : Nat} (hi : i < n + 1) : det (n + 1) A = isum (fun j => sg (i + j) * (A i j * det n (cut A i j))) (n + 1) := by
  rw [← det_tr, det_col (tp A) hi]
  refine isum_congr fun j _ => ?_
  rw [cut_tr, det_tr, Nat.add_comm]; rfl

/-- The adjugate of n + 1 rows. -/
def adj (n : Nat) (A : Mx) : Mx := fun i j => sg (i + j) * det n (cut A j i)

theorem mul_adj {n : Nat} (A : Mx) {i j : Nat} (hi : i < n + 1) (hj : j < n + 1) : mm (n + 1) A (adj n A) i j = if i = j then det (n + 1) A else 0 := by
  have h := det_row (rw' A j (A i)) hj
  have e : mm (n + 1) A (adj n A) i j = det (n + 1) (rw' A j (A i)) := by
    rw [h]
    unfold mm adj
    refine isum_congr fun k _ => ?_
    rw [cut_rw_same, Nat.add_comm k j]
    simp only [rw', if_true]
    grind
  rw [e]
  by_cases hij : i = j
  · subst hij; rw [if_pos rfl, rw_self]
  · rw [if_neg hij]
    exact (det_form (n + 1)).eqRows hi hj hij fun y _ => by unfold rw'; rw [if_neg hij, if_pos rfl]

theorem adj_mul {n : Nat} (A : Mx) {i j : Nat} (hi : i < n + 1) (hj : j < n + 1) : mm (n + 1) (adj n A) A i j = if i = j then det (n + 1) A else 0 := by
  have h := mul_adj (tp A) hj hi
  rw [det_tr] at h
  have e : mm (n + 1) (adj n A) A i j = mm (n + 1) (tp A) (adj n (tp A)) j i := by
    unfold mm
    refine isum_congr fun k _ => ?_
    unfold adj
    rw [cut_tr, det_tr, Nat.add_comm k i]
    simp only [tp]
    exact Int.mul_comm _ _
  rw [e, h]
  by_cases hij : i = j
  · rw [if_pos hij, if_pos hij.symm]
  · rw [if_neg hij, if_neg (Ne.symm hij)]

/-- b in the place of column k. -/
theorem det_cw {n : Nat} (A : Mx) {k : Nat} (hk : k < n + 1) (b : Nat → Int) : det (n + 1) (cw A k b) = isum (fun i => b i * adj n A k i) (n + 1) := by
  rw [det_col _ hk]
  refine isum_congr fun i _ => ?_
  have : cut (cw A k b) i k = cut A i k := by funext x y; simp only [cut, cw, if_neg (sk_ne k y)]
  rw [this]
  simp only [cw, if_true, adj]
  rw [Nat.add_comm k i]; grind

theorem cramer {n : Nat} (A : Mx) (b : Nat → Int) {i : Nat} (hi : i < n + 1) : isum (fun k => A i k * det (n + 1) (cw A k b)) (n + 1) = det (n + 1) A * b i := by
  rw [isum_congr (g' := fun k => isum (fun j => b j * (A i k * adj n A k j)) (n + 1)) fun k hk => ?_]
  · rw [isum_swap]
    rw [isum_congr (g' := fun j => b j * (if i = j then det (n + 1) A else 0)) fun j hj => ?_]
    · rw [isum_one (r := i) hi fun j _ hj => by rw [if_neg (Ne.symm hj)]; simp, if_pos rfl, Int.mul_comm]
    · rw [isum_mul, ← mul_adj A hi hj]; rfl
  · rw [det_cw A hk, ← isum_mul]
    exact isum_congr fun j _ => by grind

end Go.Proofs.Ytajkjlgddmkkaaa

namespace Go.Proofs.Ytajkjlgddmkkaaa

theorem mul_congr {n : Nat} {A A' B B' : Mx} {i j : Nat} (h1 : ∀ k, k < n → A i k = A' i k) (h2 : ∀ k, k < n → B k j = B' k j) : mm n A B i j = mm n A' B' i j :=
  isum_congr fun k hk => by rw [h1 k hk, h2 k hk]

theorem mul_assoc (m n : Nat) (A B C : Mx) (i j : Nat) : mm n (mm m A B) C i j = mm m A (mm n B C) i j := by
  unfold mm
  rw [isum_congr (g' := fun k => isum (fun l => A i l * B l k * C k j) m) fun k _ => (isum_mul_right _ _ _).symm, isum_swap]
  exact isum_congr fun l _ => by rw [← isum_mul]; exact isum_congr fun k _ => Int.mul_assoc _ _ _

theorem mul_tr (n : Nat) (A B : Mx) : tp (mm n A B) = mm n (tp B) (tp A) := by
  funext i j; unfold tp mm; exact isum_congr fun k _ => Int.mul_comm _ _

theorem mul_one {n : Nat} (A : Mx) {i j : Nat} (hj : j < n) : mm n A one i j = A i j := by
  unfold mm
  rw [isum_one (r := j) hj fun k _ hk => by simp [one, hk]]
  simp [one]

theorem one_mul {n : Nat} (A : Mx) {i j : Nat} (hi : i < n) : mm n one A i j = A i j := by
  unfold mm
  rw [isum_one (r := i) hi fun k _ hk => by simp [one, Ne.symm hk]]
  simp [one]

theorem mul_sum_left (n : Nat) (c : Int) (A B : Mx) (i j : Nat) : mm n (fun x y => c * A x y) B i j = c * mm n A B i j := by
  unfold mm; rw [← isum_mul]; exact isum_congr fun k _ => Int.mul_assoc _ _ _

theorem mul_sum_right (n : Nat) (c : Int) (A B : Mx) (i j : Nat) : mm n A (fun x y => c * B x y) i j = c * mm n A B i j := by
  unfold mm; rw [← isum_mul]; exact isum_congr fun k _ => by grind

def Lo (r R C : Nat) (A : Mx) : Prop := ∃ X Y : Mx, det r (mm C (mm R X A) Y) ≠ 0
def Up (r R C : Nat) (A : Mx) : Prop := ∃ d : Int, d ≠ 0 ∧ ∃ B E : Mx, ∀ i k, i < R → k < C → d * A i k = mm r B E i k

theorem det_zero_col {n : Nat} {A : Mx} {c : Nat} (hc : c < n) (h : ∀ i, i < n → A i c = 0) : det n A = 0 := by
  rw [← det_tr]
  exact (det_form n).zero hc fun j hj => h j hj

theorem det_zero_row {n : Nat} {A : Mx} {c : Nat} (hc : c < n) (h : ∀ i, i < n → A c i = 0) : det n A = 0 :=
  (det_form n).zero hc h

theorem isum_cut {g : Nat → Int} {m n : Nat} (h : m ≤ n) (hz : ∀ k, m ≤ k → k < n → g k = 0) : isum g n = isum g m := by
  induction n with
  | zero => have : m = 0 := by omega
            subst this; rfl
  | succ n ih =>
    by_cases e : m = n + 1
    · rw [e]
    · rw [isum, hz n (by omega) (by omega), ih (by omega) fun k h1 h2 => hz k h1 (by omega)]; omega

/-- A product over fewer than its rows has the determinant 0. -/
theorem det_thin {s r : Nat} (h : s < r) (U V : Mx) : det r (mm s U V) = 0 := by
  have e : ∀ i j, mm s U V i j = mm r (fun i k => if k < s then U i k else 0) V i j := fun i j => by
    unfold mm
    rw [isum_cut (m := s) (n := r) (by omega) fun k h1 _ => by show (if k < s then U i k else 0) * V k j = 0; rw [if_neg (by omega)]; simp]
    exact isum_congr fun k hk => by show _ = (if k < s then U i k else 0) * V k j; rw [if_pos hk]
  rw [det_congr fun i j _ _ => e i j, det_mul, det_zero_col (c := s) h fun i _ => by rw [if_neg (by omega)], Int.zero_mul]

theorem det_smul : ∀ (n : Nat) (c : Int) (A : Mx), det n (fun i j => c * A i j) = c ^ n * det n A
  | 0, c, A => by simp [det]
  | n + 1, c, A => by
    simp only [det]
    rw [← isum_mul]
    refine isum_congr fun i _ => ?_
    have : cut (fun i j => c * A i j) i 0 = fun x y => c * cut A i 0 x y := rfl
    rw [this, det_smul n c, Int.pow_succ]
    grind

theorem pow_ne {d : Int} (hd : d ≠ 0) : ∀ n : Nat, d ^ n ≠ 0
  | 0 => by simp
  | n + 1 => by rw [Int.pow_succ]; exact Int.mul_ne_zero (pow_ne hd n) hd

theorem Lo_le_Up {r s R C : Nat} {A : Mx} (h1 : Lo r R C A) (h2 : Up s R C A) : r ≤ s := by
  rcases Nat.lt_or_ge s r with h | h
  · exfalso
    obtain ⟨X, Y, h1⟩ := h1
    obtain ⟨d, hd, B, E, h2⟩ := h2
    have h3 : det r (fun i j => d * mm C (mm R X A) Y i j) = 0 := by
      rw [← det_thin h (mm R X B) (mm C E Y)]
      refine det_congr fun i j hi hj => ?_
      rw [← mul_sum_left]
      have e1 : ∀ k, k < C → (fun x y => d * mm R X A x y) i k = mm R X (mm s B E) i k := fun k hk => by
        simp only
        rw [← mul_sum_right]
        exact mul_congr (fun _ _ => rfl) fun l hl => h2 l k hl hk
      rw [mul_congr e1 (fun _ _ => rfl)]
      rw [mul_congr (A := mm R X (mm s B E)) (A' := mm s (mm R X B) E) (fun k _ => (mul_assoc R s X B E i k).symm) (fun _ _ => rfl), mul_assoc]
    rw [det_smul] at h3
    rcases Int.mul_eq_zero.1 h3 with h4 | h4
    · exact pow_ne hd _ h4
    · exact h1 h4
  · exact h

structure Rk (r R C : Nat) (A : Mx) : Prop where
  lo : Lo r R C A
  up : Up r R C A

theorem Rk.unique {r s R C : Nat} {A : Mx} (h : Rk r R C A) (h' : Rk s R C A) : r = s :=
  Nat.le_antisymm (Lo_le_Up h.lo h'.up) (Lo_le_Up h'.lo h.up)

theorem Lo.tr {r R C : Nat} {A : Mx} (h : Lo r R C A) : Lo r C R (tp A) := by
  obtain ⟨X, Y, h⟩ := h
  refine ⟨tp Y, tp X, fun e => h ?_⟩
  rw [← e, ← det_tr, mul_tr]
  refine det_congr fun i j _ _ => ?_
  rw [mul_tr, mul_assoc]

theorem Up.tr {r R C : Nat} {A : Mx} (h : Up r R C A) : Up r C R (tp A) := by
  obtain ⟨d, hd, B, E, h⟩ := h
  refine ⟨d, hd, tp E, tp B, fun i k hi hk => ?_⟩
  have := h k i hk hi
  rw [← mul_tr]; exact this

theorem Rk.tr {r R C : Nat} {A : Mx} (h : Rk r R C A) : Rk r C R (tp A) := ⟨h.lo.tr, h.up.tr⟩

theorem Up_rows (R C : Nat) (A : Mx) : Up R R C A := ⟨1, by decide, one, A, fun i k hi _ => by rw [one_mul A hi]; omega⟩
theorem Up_cols (R C : Nat) (A : Mx) : Up C R C A := ⟨1, by decide, A, one, fun i k _ hk => by rw [mul_one A hk]; omega⟩

theorem Rk.le_rows {r R C : Nat} {A : Mx} (h : Rk r R C A) : r ≤ R := Lo_le_Up h.lo (Up_rows R C A)
theorem Rk.le_cols {r R C : Nat} {A : Mx} (h : Rk r R C A) : r ≤ C := Lo_le_Up h.lo (Up_cols R C A)

theorem Up.mul_left {r R K C : Nat} {A B : Mx} (h : Up r R K A) : Up r R C (mm K A B) := by
  obtain ⟨d, hd, U, V, h⟩ := h
  refine ⟨d, hd, U, mm K V B, fun i k hi hk => ?_⟩
  rw [← mul_assoc, ← mul_sum_left]
  exact mul_congr (fun l hl => h i l hi hl) (fun _ _ => rfl)

theorem Up.mul_right {r R K C : Nat} {A B : Mx} (h : Up r K C B) : Up r R C (mm K A B) := by
  obtain ⟨d, hd, U, V, h⟩ := h
  refine ⟨d, hd, mm K A U, V, fun i k hi hk => ?_⟩
  rw [mul_assoc, ← mul_sum_right]
  exact mul_congr (fun _ _ => rfl) (fun l hl => h l k hl hk)

theorem Rk.mul {r s t R K C : Nat} {A B : Mx} (h : Rk r R K A) (h' : Rk s K C B) (h'' : Rk t R C (mm K A B)) : t ≤ r ∧ t ≤ s :=
  ⟨Lo_le_Up h''.lo h.up.mul_left, Lo_le_Up h''.lo h'.up.mul_right⟩

theorem Rk.full {n r : Nat} {A : Mx} (h : Rk r n n A) : det n A = 0 ↔ r < n := by
  constructor
  · intro h0
    rcases Nat.lt_or_ge r n with h1 | h1
    · exact h1
    · exfalso
      have : r = n := Nat.le_antisymm h.le_rows h1
      subst this
      obtain ⟨X, Y, h2⟩ := h.lo
      rw [det_mul, det_mul, h0] at h2
      simp at h2
  · intro hr
    obtain ⟨d, hd, B, E, h1⟩ := h.up
    have h2 : det n (fun i j => d * A i j) = 0 := by
      rw [← det_thin hr B E]
      exact det_congr fun i j hi hj => h1 i j hi hj
    rw [det_smul] at h2
    rcases Int.mul_eq_zero.1 h2 with h4 | h4
    · exact absurd h4 (pow_ne hd _)
    · exact h4

/-- More rows that depend on those. -/
theorem Up.more {r R R' C : Nat} {A A' : Mx} (h : Up r R C A) (D : Mx) (hd : ∀ i k, i < R' → k < C → A' i k = mm R D A i k) : Up r R' C A' := by
  obtain ⟨d, hd0, B, E, h⟩ := h
  refine ⟨d, hd0, mm R D B, E, fun i k hi hk => ?_⟩
  rw [hd i k hi hk, mul_assoc, ← mul_sum_right]
  exact mul_congr (fun _ _ => rfl) fun l hl => h l k hl hk

theorem Lo.more {r R R' C : Nat} {A A' : Mx} (h : Lo r R C A) (D : Mx) (hd : ∀ i k, i < R → k < C → A i k = mm R' D A' i k) : Lo r R' C A' := by
  obtain ⟨X, Y, h⟩ := h
  refine ⟨mm R X D, Y, fun e => h ?_⟩
  rw [← e]
  refine det_congr fun i j _ _ => ?_
  refine mul_congr (fun k hk => ?_) (fun _ _ => rfl)
  rw [mul_assoc]
  exact mul_congr (fun _ _ => rfl) fun l hl => hd l k hl hk

theorem Rk.congr {r R C : Nat} {A A' : Mx} (h : Rk r R C A) (he : ∀ i k, i < R → k < C → A i k = A' i k) : Rk r R C A' := by
  refine ⟨h.lo.more one fun i k hi hk => ?_, h.up.more one fun i k hi hk => ?_⟩
  · rw [one_mul _ hi, he i k hi hk]
  · rw [one_mul _ hi, he i k hi hk]

-- A nought to the right above, or below.

theorem isum_split (g : Nat → Int) (m : Nat) : ∀ n, isum g (m + n) = isum g m + isum (fun k => g (m + k)) n
  | 0 => by simp [isum]
  | n + 1 => by rw [← Nat.add_assoc, isum, isum_split g m n, isum]; omega

/-- Two square blocks on the diagonal, noughts below the first. -/
theorem det_block : ∀ (a b : Nat) (A : Mx), (∀ i j, a ≤ i → i < a + b → j < a → A i j = 0) → det (a + b) A = det a A * det b (fun i j => A (a + i) (a + j))
  | 0, b, A, _ => by
    rw [Nat.zero_add, det, Int.one_mul]
    exact det_congr fun i j _ _ => by rw [Nat.zero_add, Nat.zero_add]
  | a + 1, b, A, h => by
    rw [show a + 1 + b = (a + b) + 1 by omega, det, det, ← isum_mul_right]
    rw [show a + b + 1 = (a + 1) + b by omega, isum_split, isum_zero (n := b) fun k hk => by rw [h (a + 1 + k) 0 (by omega) (by omega) (by omega)]; simp, Int.add_zero]
    refine isum_congr fun i hi => ?_
    rw [det_block a b (cut A i 0) fun x y h1 h2 h3 => by
      unfold cut
      have e : sk i x = x + 1 := if_neg (by omega)
      rw [e, sk_zero]
      exact h _ _ (by omega) (by omega) (by omega)]
    have e : det b (fun x y => cut A i 0 (a + x) (a + y)) = det b (fun x y => A (a + 1 + x) (a + 1 + y)) := det_congr fun x y _ _ => by
      unfold cut
      have e : sk i (a + x) = a + x + 1 := if_neg (by omega)
      rw [e, sk_zero]
      congr 1 <;> omega
    rw [e]; grind

theorem det_block' (a b : Nat) (A : Mx) (h : ∀ i j, i < a → a ≤ j → j < a + b → A i j = 0) : det (a + b) A = det a A * det b (fun i j => A (a + i) (a + j)) := by
  rw [← det_tr, det_block a b (tp A) fun i j h1 h2 h3 => h j i h3 h1 h2]
  congr 1
  · exact det_tr a A
  · exact det_tr b (fun i j => A (a + i) (a + j))

/-- Noughts in a corner that is too great. -/
theorem Rk.frob {r s t R K C : Nat} {A B : Mx} (h : Rk r R K A) (h' : Rk s K C B) (h'' : Up t R C (mm K A B)) : r + s ≤ K + t := by
  obtain ⟨X, Y, hl⟩ := h.lo
  obtain ⟨Z, W, hl'⟩ := h'.lo
  obtain ⟨d, hd, P, Q, hu⟩ := h''
  -- over the blocks I, B; A, 0
  let T : Mx := fun i k => if i < K then (if k < K then one i k else B i (k - K)) else (if k < K then A (i - K) k else 0)
  have hlo : Lo (s + r) (K + R) (K + C) T := by
    refine ⟨fun a i => if a < s then (if i < K then Z a i else 0) else (if i < K then 0 else X (a - s) (i - K)), fun k b => if b < s then (if k < K then 0 else W (k - K) b) else (if k < K then Y k (b - s) else 0), ?_⟩
    have left : ∀ a k, a < s → mm (K + R) (fun a i => if a < s then (if i < K then Z a i else 0) else (if i < K then 0 else X (a - s) (i - K))) T a k = (if k < K then Z a k else mm K Z B a (k - K)) := fun a k ha => by
      show isum _ _ = _
      rw [isum_split, isum_zero (n := R) fun i hi => by simp only [if_pos ha, if_neg (show ¬ K + i < K by omega), Int.zero_mul], Int.add_zero]
      by_cases hk : k < K
      · rw [if_pos hk, ← mul_one (n := K) Z hk]
        exact isum_congr fun i hi => by simp only [T, if_pos ha, if_pos hi, if_pos hk]
      · rw [if_neg hk]
        exact isum_congr fun i hi => by simp only [T, if_pos ha, if_pos hi, if_neg hk]
    have left' : ∀ a k, mm (K + R) (fun a i => if a < s then (if i < K then Z a i else 0) else (if i < K then 0 else X (a - s) (i - K))) T (s + a) k = (if k < K then mm R X A a k else 0) := fun a k => by
      show isum _ _ = _
      rw [isum_split, isum_zero (n := K) fun i hi => by simp only [if_neg (show ¬ s + a < s by omega), if_pos hi, Int.zero_mul], Int.zero_add]
      by_cases hk : k < K
      · rw [if_pos hk]
        exact isum_congr fun i hi => by simp only [T, if_neg (show ¬ s + a < s by omega), if_neg (show ¬ K + i < K by omega), if_pos hk, Nat.add_sub_cancel_left]
      · rw [if_neg hk]
        exact isum_zero fun i hi => by simp only [T, if_neg (show ¬ s + a < s by omega), if_neg (show ¬ K + i < K by omega), if_neg hk, Int.mul_zero]
    rw [det_block s r _ fun i j h1 h2 h3 => ?_]
    · refine Int.mul_ne_zero (fun e => hl' ?_) (fun e => hl ?_)
      · rw [← e]
        refine det_congr fun i j hi hj => ?_
        rw [mul_congr (A' := fun a k => if k < K then Z a k else mm K Z B a (k - K)) (fun k _ => left i k hi) (fun _ _ => rfl)]
        show _ = isum _ _
        rw [isum_split, isum_zero (n := K) fun k hk => by simp only [if_pos hj, if_pos hk, Int.mul_zero], Int.zero_add]
        exact isum_congr fun k hk => by simp only [if_pos hj, if_neg (show ¬ K + k < K by omega), Nat.add_sub_cancel_left]
      · rw [← e]
        refine det_congr fun i j hi hj => ?_
        show _ = isum _ _
        rw [isum_split]
        rw [isum_zero (n := C) fun k hk => by simp only [if_neg (show ¬ s + j < s by omega), if_neg (show ¬ K + k < K by omega), Int.mul_zero], Int.add_zero]
        exact isum_congr fun k hk => by simp only [left', if_pos hk, if_neg (show ¬ s + j < s by omega), Nat.add_sub_cancel_left]
    · obtain ⟨i', rfl⟩ : ∃ i', i = s + i' := ⟨i - s, by omega⟩
      show isum _ _ = 0
      rw [isum_split, isum_zero (n := K) fun k hk => by simp only [if_pos h3, if_pos hk, Int.mul_zero], Int.zero_add]
      exact isum_zero fun k hk => by rw [left', if_neg (by omega), Int.zero_mul]
  have hup : Up (K + t) (K + R) (K + C) T := by
    refine ⟨d, hd, fun i l => if i < K then one i l else (if l < K then A (i - K) l else - P (i - K) (l - K)), fun l k => if l < K then (if k < K then d * one l k else d * B l (k - K)) else (if k < K then 0 else Q (l - K) (k - K)), fun i k hi hk => ?_⟩
    show _ = isum _ _
    rw [isum_split]
    by_cases hiK : i < K
    · rw [isum_zero (n := t) fun l hl => by
        simp only [if_pos hiK]
        have : ¬ i = K + l := by omega
        simp [one, this], Int.add_zero]
      rw [isum_one (r := i) hiK fun l hl hli => by simp only [if_pos hiK]; simp [one, Ne.symm hli]]
      simp only [T, if_pos hiK]
      by_cases hkK : k < K
      · simp only [if_pos hkK]; simp [one]
      · simp only [if_neg hkK]; simp [one]
    · by_cases hkK : k < K
      · rw [isum_zero (n := t) fun l hl => by simp only [if_neg (show ¬ K + l < K by omega), if_pos hkK, Int.mul_zero], Int.add_zero]
        rw [isum_one (r := k) hkK fun l hl hlk => by simp only [if_pos hl, if_pos hkK]; simp [one, hlk]]
        simp only [T, if_neg hiK, if_pos hkK]
        simp [one, Int.mul_comm]
      · have h1 : isum (fun l => (if i < K then one i l else (if l < K then A (i - K) l else - P (i - K) (l - K))) * (if l < K then (if k < K then d * one l k else d * B l (k - K)) else (if k < K then 0 else Q (l - K) (k - K)))) K = d * mm K A B (i - K) (k - K) := by
          rw [← mul_sum_right]
          exact isum_congr fun l hl => by simp only [if_neg hiK, if_pos hl, if_neg hkK]
        have h2 : isum (fun l => (if i < K then one i (K + l) else (if K + l < K then A (i - K) (K + l) else - P (i - K) (K + l - K))) * (if K + l < K then (if k < K then d * one (K + l) k else d * B (K + l) (k - K)) else (if k < K then 0 else Q (K + l - K) (k - K)))) t = - mm t P Q (i - K) (k - K) := by
          show _ = - isum _ _
          rw [← isum_neg]
          exact isum_congr fun l hl => by simp only [if_neg hiK, if_neg (show ¬ K + l < K by omega), if_neg hkK, Nat.add_sub_cancel_left]; grind
        have h3 := hu (i - K) (k - K) (by omega) (by omega)
        simp only [T, if_neg hiK, if_neg hkK] at h1 h2 ⊢
        rw [h1, h2]
        omega
  have := Lo_le_Up hlo hup
  omega

end Go.Proofs.Ytajkjlgddmkkaaa

namespace Go.Proofs.Ytajkjlgddmkkaaa
open Go.RowKit

-- Sizes.

/-- At most e limbs. -/
def sz (x : Int) (e : Nat) : Prop := x.natAbs < 18446744073709551616 ^ e

theorem sz.len {x : Int} {e : Nat} (h : sz x e) : (lims x.natAbs).length ≤ e := lims_length_le h
theorem sz.mono {x : Int} {e e' : Nat} (h : sz x e) (he : e ≤ e') : sz x e' := Nat.lt_of_lt_of_le h (Nat.pow_le_pow_right (by decide) he)
theorem sz.mul {x y : Int} {a b : Nat} (h : sz x a) (h' : sz y b) : sz (x * y) (a + b) := by
  unfold sz at *
  rw [Int.natAbs_mul, Nat.pow_add]
  exact Nat.mul_lt_mul'' h h'
theorem sz.neg {x : Int} {a : Nat} (h : sz x a) : sz (-x) a := by unfold sz at *; rwa [Int.natAbs_neg]
theorem sz_jv {x : Bool × List Nat} {k : Nat} (h : Lim x.2) (hl : x.2.length ≤ k) : sz (jv x) k := by
  unfold sz jv
  rw [iv_abs]
  exact Nat.lt_of_lt_of_le (nv_lt h) (Nat.pow_le_pow_right (by decide) hl)
theorem sz_zero (e : Nat) : sz 0 e := Nat.pow_pos (by decide)

theorem isum_le {g : Nat → Int} {e : Nat} : ∀ {n : Nat}, (∀ k, k < n → sz (g k) e) → (isum g n).natAbs ≤ n * 18446744073709551616 ^ e
  | 0, _ => by simp [isum]
  | n + 1, h => by
    have h1 := isum_le (n := n) fun k hk => h k (by omega)
    have h2 := h n (by omega)
    unfold sz at h2
    simp only [isum]
    have := Int.natAbs_add_le (isum g n) (g n)
    rw [Nat.add_mul, Nat.one_mul]
    omega

theorem isum_sz {g : Nat → Int} {e n : Nat} (h : ∀ k, k < n → sz (g k) e) (hn : n < 18446744073709551616) : sz (isum g n) (e + 1) := by
  have h1 := isum_le h
  unfold sz
  rw [Nat.pow_succ, Nat.mul_comm]
  exact Nat.lt_of_le_of_lt h1 (Nat.mul_lt_mul_of_pos_right hn (Nat.pow_pos (by decide)))

/-- The determinant by its first row; f: at least the number of rows. -/
def rdet : Nat → List (List Int) → Int
  | 0, _ => 0
  | f + 1, m => if m.length = 1 then (m.getD 0 []).getD 0 0 else isum (fun j => sg j * ((m.getD 0 []).getD j 0 * rdet f (minor m 0 j))) m.length

theorem map_eraseIdx {α β : Type} (g : α → β) : ∀ (l : List α) (i : Nat), (l.eraseIdx i).map g = (l.map g).eraseIdx i
  | [], _ => rfl
  | _ :: _, 0 => rfl
  | x :: l, i + 1 => by simp [map_eraseIdx g l i]

theorem ww_minor (m : List Row) (i j : Nat) : ww (minor m i j) = minor (ww m) i j := by
  unfold minor ww
  rw [← map_eraseIdx vv m i, List.map_map, List.map_map]
  exact List.map_congr_left fun r _ => map_eraseIdx jv r j

theorem ww_get (m : List Row) (i : Nat) : (ww m).getD i [] = vv (m.getD i []) := by
  unfold ww
  by_cases h : i < m.length
  · simp [List.getD_eq_getElem?_getD, h]
  · simp [List.getD_eq_getElem?_getD, h, vv]

theorem ww_len (m : List Row) : (ww m).length = m.length := by unfold ww; simp

/-- n rows of n numbers of at most k limbs. -/
structure Sq (n k : Nat) (m : List Row) : Prop where
  rows : m.length = n
  cols : ∀ r, r ∈ m → r.length = n
  fits : Fits k m

theorem Sq.minor {n k : Nat} {m : List Row} (h : Sq (n + 1) k m) {i j : Nat} (hi : i < n + 1) (hj : j < n + 1) : Sq n k (minor m i j) := by
  refine ⟨?_, fun r hr => ?_, fun r hr => ?_⟩
  · unfold Go.Proofs.Ytajkjlgddmkkaaa.minor
    rw [List.length_map, List.length_eraseIdx_of_lt (by rw [h.rows]; exact hi), h.rows]; rfl
  · obtain ⟨r', hr', rfl⟩ := List.mem_map.1 hr
    have := h.cols r' (List.mem_of_mem_eraseIdx hr')
    rw [List.length_eraseIdx_of_lt (by omega), this]; rfl
  · obtain ⟨r', hr', rfl⟩ := List.mem_map.1 hr
    exact fun x hx => h.fits r' (List.mem_of_mem_eraseIdx hr') x (List.mem_of_mem_eraseIdx hx)

theorem Sq.at {n k : Nat} {m : List Row} (h : Sq n k m) {i j : Nat} (hi : i < n) (hj : j < n) : ((ww m).getD i []).getD j 0 = jv ((m.getD i []).getD j z0) := by
  have hr : (m.getD i []).length = n := h.cols _ (getD_mem [] (by rw [h.rows]; exact hi))
  rw [ww_get, vv_get _ _ (by omega)]

theorem Sq.at_sz {n k : Nat} {m : List Row} (h : Sq n k m) (i j : Nat) : sz (jv ((m.getD i []).getD j z0)) k :=
  sz_jv ((h.fits.get i).get j).1 ((h.fits.get i).get j).2

theorem sg_sz {x : Int} {e : Nat} (j : Nat) (h : sz x e) : sz (sg j * x) e := by
  unfold sg
  split
  · rw [Int.neg_one_mul]; exact h.neg
  · rwa [Int.one_mul]

theorem rdet_sz : ∀ (f : Nat) (m : List Row) (k : Nat), f < 1048576 → Sq f k m → sz (rdet f (ww m)) ((k + 1) * f)
  | 0, m, k, _, _ => sz_zero _
  | f + 1, m, k, hf, h => by
    unfold rdet
    rw [ww_len]
    split
    · rw [h.at (by omega) (by omega)]
      refine (h.at_sz 0 0).mono ?_
      rw [Nat.mul_add, Nat.mul_one]; omega
    · have e : (k + 1) * (f + 1) = (k + (k + 1) * f) + 1 := by rw [Nat.mul_add]; omega
      rw [e]
      refine isum_sz (fun j hj => ?_) (by rw [h.rows]; omega)
      have hj' : j < f + 1 := by rw [← h.rows]; exact hj
      refine sg_sz j (sz.mul ?_ ?_)
      · rw [h.at (by omega) hj']; exact h.at_sz 0 j
      · rw [← ww_minor]; exact rdet_sz f _ k (by omega) (h.minor (by omega) hj')

theorem rdet_part {f k : Nat} {m : List Row} (hf : f + 1 < 1048576) (h : Sq (f + 1) k m) {n : Nat} (hn : n ≤ f + 1) :
    sz (isum (fun j => sg j * (((ww m).getD 0 []).getD j 0 * rdet f (minor (ww m) 0 j))) n) ((k + 1) * (f + 1)) := by
  have e : (k + 1) * (f + 1) = (k + (k + 1) * f) + 1 := by rw [Nat.mul_add]; omega
  rw [e]
  refine isum_sz (fun j hj => sg_sz j (sz.mul ?_ ?_)) (by omega)
  · rw [h.at (by omega) (by omega)]; exact h.at_sz 0 j
  · rw [← ww_minor]; exact rdet_sz f _ k (by omega) (h.minor (by omega) (by omega))

theorem Seals.box0 {os : List Own} {fs : List Fact} {p : Value} {size : Nat} {e : Nat → Dat} {d : Dat} (h : e 0 = d) : Seals (own1 p size 1 e :: os) fs (own1 p size 1 (fun _ => d) :: os) fs :=
  Seals.own_cong (os := own1 p size 1 e :: os) 0 (fun _ => d) rfl rfl fun i hi => by
    have : i = 0 := by omega
    subst this; exact h

theorem rMulZ (v w : Value) (x : Bool × List Nat) (y : Int) (e : Nat) (hx : Lim x.2) (lx : x.2.length ≤ 137438953472) (hy : sz y e) (he : e ≤ 137438953472) :
    Meets Try.prog 33 [v, w] [(v, J x), (w, zd y)] (fun r os fs => os = [] ∧ fs = [(r, zd (jv x * y))]) := by
  have h := rZMul_meets v w x.1 (decide (y < 0)) x.2 (lims y.natAbs) hx (Lim_lims _) lx (Nat.le_trans hy.len he)
  rw [iv_zd] at h
  exact h

theorem rAddZ (v w : Value) (x y : Int) (e : Nat) (hx : sz x e) (hy : sz y e) (he : e ≤ 137438953472) :
    Meets Try.prog 34 [v, w] [(v, zd x), (w, zd y)] (fun r os fs => os = [] ∧ fs = [(r, zd (x + y))]) := by
  have h := rZAdd_meets v w (decide (x < 0)) (decide (y < 0)) (lims x.natAbs) (lims y.natAbs) (Lim_lims _) (Lim_lims _) (Nat.le_trans hx.len he) (Nat.le_trans hy.len he)
  rw [iv_zd, iv_zd] at h
  exact h

theorem rNegZ (v : Value) (x : Int) (e : Nat) (hx : sz x e) (he : e ≤ 137438953472) :
    Meets Try.prog 35 [v] [(v, zd x)] (fun r os fs => os = [] ∧ fs = [(r, zd (-x))]) := by
  have h := rNeg_meets v (decide (x < 0)) (lims x.natAbs) (Lim_lims _) (Nat.le_trans hx.len (by omega))
  rw [iv_zd] at h
  exact h

theorem rNormZ (v : Value) (x : Int) (e : Nat) (hx : sz x e) (he : e ≤ 137438953472) :
    Meets Try.prog 71 [v] [(v, zd x)] (fun r os fs => os = [] ∧ fs = [(r, zd x)]) := by
  have h := rZNorm_meets v (decide (x < 0)) (lims x.natAbs) (Lim_lims _) (Nat.le_trans hx.len (by omega))
  rw [iv_zd] at h
  exact h

theorem rdet_meets : ∀ (f : Nat) (v : Value) (m : List Row) (k : Nat), f + 1 < 1048576 → Sq (f + 1) k m → (k + 1) * (f + 1) ≤ 4294967296 →
    Meets Try.prog 53 [v] [(v, W m)] (fun r os fs => os = [] ∧ fs = [(r, zd (rdet (f + 1) (ww m)))]) := by
  intro f
  induction f with
  | zero =>
    intro v m k hf h hk
    have hkk : k ≤ 4294967296 := by omega
    have h00 := (h.fits.get 0).get 0
    refine meets_of_vc Try.func53 (by kernel_rfl) rfl (by kernel_rfl) (Nat.le_of_ble_eq_true rfl) ?_
    refine alloc_rule (d := I false []) fun o ho => ?_
    refine len_fact (by repeat (first | exact List.Mem.head _ | apply List.Mem.tail)) fun _ => ?_
    refine cmp_true rfl (by have := h.rows; omega) ?_
    refine index_fact (by repeat (first | exact List.Mem.head _ | apply List.Mem.tail)) 0 rfl (by have := h.rows; omega) fun a1 => ?_
    refine load_fact (d := V (m.getD 0 [])) (by repeat (first | exact List.Mem.head _ | apply List.Mem.tail)) (load_V _) fun x1 => ?_
    refine index_fact (by repeat (first | exact List.Mem.head _ | apply List.Mem.tail)) 0 rfl (by have := h.cols _ (getD_mem (i := 0) [] (by have := h.rows; omega)); omega) fun a2 => ?_
    refine load_fact (d := J ((m.getD 0 []).getD 0 z0)) (by repeat (first | exact List.Mem.head _ | apply List.Mem.tail)) (load_J _) fun x2 => ?_
    refine call_fn (rZNorm_meets x2 ((m.getD 0 []).getD 0 z0).1 ((m.getD 0 []).getD 0 z0).2 h00.1 (by omega)) (Seals.refl _ _) (by repeat (first | exact Sub.nil _ | refine Sub.cons (by repeat (first | exact List.Mem.head _ | apply List.Mem.tail)) ?_)) ?_
    rintro w _ _ ⟨rfl, rfl⟩
    have e : rdet (0 + 1) (ww m) = iv ((m.getD 0 []).getD 0 z0).1 ((m.getD 0 []).getD 0 z0).2 := by
      unfold rdet
      rw [ww_len, if_pos h.rows, h.at (by omega) (by omega)]; rfl
    rw [e]
    refine store_box (d := zd (iv ((m.getD 0 []).getD 0 z0).1 ((m.getD 0 []).getD 0 z0).2)) 0 rfl ho rfl (by kernel_rfl) ?_ ?_; exact Reads.fact (by repeat (first | exact List.Mem.head _ | apply List.Mem.tail))
    refine load_box (d := zd (iv ((m.getD 0 []).getD 0 z0).1 ((m.getD 0 []).getD 0 z0).2)) 0 rfl ho rfl (load_I _ _) fun r => ?_
    exact fin ⟨rfl, rfl⟩ (Seals.trans (Seals.drop 0 _ _) (Seals.sub (by repeat (first | exact Sub.nil _ | refine Sub.cons (by repeat (first | exact List.Mem.head _ | apply List.Mem.tail)) ?_))))
  | succ f ih =>
    intro v m k hf h hk
    have hrows := h.rows
    have hrow0 := h.cols _ (getD_mem (i := 0) [] (by omega))
    have hmin : ∀ {j : Nat}, j < f + 2 → Sq (f + 1) k (minor m 0 j) := fun hj => h.minor (by omega) hj
    have hkf : (k + 1) * (f + 1) ≤ 4294967296 := Nat.le_trans (Nat.mul_le_mul_left _ (by omega)) hk
    have hk1 : k + 1 ≤ 4294967296 := Nat.le_trans (Nat.le_mul_of_pos_right _ (by omega)) hk
    refine meets_of_vc Try.func53 (by kernel_rfl) rfl (by kernel_rfl) (Nat.le_of_ble_eq_true rfl) ?_
    refine alloc_rule (d := I false []) fun o ho => ?_
    refine len_fact (by repeat (first | exact List.Mem.head _ | apply List.Mem.tail)) fun _ => ?_
    refine cmp_false rfl (by omega) ?_
    refine build0 (da := .one (.bool false)) (db := U (lims 0)) (fun S w => ⟨[.bool false], [.slice none 0 0], rfl, rd_false S w, by rw [lims_zero]; exact rd_nil S w 1 _⟩) fun z => ?_
    refine alloc_rule (d := I false []) fun b hb => ?_
    refine store_box (d := zd 0) 0 rfl hb rfl (by kernel_rfl) ?_ ?_; exact Reads.fact (by repeat (first | exact List.Mem.head _ | apply List.Mem.tail))
    have hS : ∀ {n : Nat}, n ≤ f + 1 + 1 → sz (isum (fun j => sg j * (((ww m).getD 0 []).getD j 0 * rdet (f + 1) (minor (ww m) 0 j))) n) ((k + 1) * (f + 1 + 1)) := fun hn => rdet_part (by omega) h hn
    have hR : rdet (f + 1 + 1) (ww m) = isum (fun j => sg j * (((ww m).getD 0 []).getD j 0 * rdet (f + 1) (minor (ww m) 0 j))) (f + 1 + 1) := by
      rw [rdet, ww_len, if_neg (by omega), hrows]
    have hT : ∀ j, j < f + 1 + 1 → sz (((ww m).getD 0 []).getD j 0 * rdet (f + 1) (minor (ww m) 0 j)) ((k + 1) * (f + 1 + 1)) := fun j hj => by
      refine (sz.mul (a := k) (b := (k + 1) * (f + 1)) ?_ ?_).mono (by rw [Nat.mul_add (k + 1) (f + 1) 1]; omega)
      · rw [h.at (by omega) hj]; exact h.at_sz 0 j
      · rw [← ww_minor]; exact rdet_sz _ _ k (by omega) (hmin hj)
    rw [hR]
    generalize hg : (fun j => sg j * (((ww m).getD 0 []).getD j 0 * rdet (f + 1) (minor (ww m) 0 j))) = g at hS ⊢
    have hgj : ∀ j, g j = sg j * (((ww m).getD 0 []).getD j 0 * rdet (f + 1) (minor (ww m) 0 j)) := fun j => by rw [← hg]
    refine loop_rule (X := Nat) (fun j => ([(0, v), (2, o), (3, b), (4, .int .i64 (j : Nat))], [own1 b 2 1 (fun _ => zd (isum g j)), own1 o 2 1 (fun _ => I false [])], [(v, W m)]))
      (fun j => j ≤ f + 1 + 1) (fun j => f + 1 + 1 - j) rfl ?_ ?_
    · exact again 0 (Nat.zero_le _) trivial (by repeat (first | exact trivial | refine ⟨rfl, ?_⟩ | refine ⟨i64_eq (by first | omega | (simp only; omega)), ?_⟩ | refine ⟨u64_eq (by first | omega | (simp only; omega)), ?_⟩)) (Seals.trans (Seals.box0 rfl) (Seals.sub (by repeat (first | exact Sub.nil _ | refine Sub.cons (by repeat (first | exact List.Mem.head _ | apply List.Mem.tail)) ?_))))
    · rintro j h1
      refine len_fact (by repeat (first | exact List.Mem.head _ | apply List.Mem.tail)) fun _ => ?_
      refine cmp_split _ rfl (fun hj => ?_) (fun hj => ?_)
      · have hjn : j < f + 1 + 1 := by omega
        have hx0 := (h.fits.get 0).get j
        have hat := h.at (i := 0) (by omega) hjn
        have hTj := hT j hjn
        refine index_fact (by repeat (first | exact List.Mem.head _ | apply List.Mem.tail)) 0 rfl (by omega) fun a1 => ?_
        refine load_fact (d := V (m.getD 0 [])) (by repeat (first | exact List.Mem.head _ | apply List.Mem.tail)) (load_V _) fun x1 => ?_
        refine index_fact (by repeat (first | exact List.Mem.head _ | apply List.Mem.tail)) j rfl (by omega) fun a2 => ?_
        refine load_fact (d := J ((m.getD 0 []).getD j z0)) (by repeat (first | exact List.Mem.head _ | apply List.Mem.tail)) (load_J _) fun x2 => ?_
        refine call_fn (rSign_meets x2 ((m.getD 0 []).getD j z0).1 ((m.getD 0 []).getD j z0).2 hx0.1 (by omega)) (Seals.refl _ _) (by repeat (first | exact Sub.nil _ | refine Sub.cons (by repeat (first | exact List.Mem.head _ | apply List.Mem.tail)) ?_)) ?_
        rintro _ _ _ ⟨rfl, rfl, rfl⟩
        refine cmp_split _ rfl (fun hz => ?_) (fun hz => ?_)
        · have hz0 : jv ((m.getD 0 []).getD j z0) = 0 := Int.sign_eq_zero_iff_zero.1 hz
          refine ar rfl (by first | exact ⟨by omega, by omega⟩ | (simp only [inK]; omega)) ?_
          refine again (j + 1) (by omega) (by simp only; omega) (by repeat (first | exact trivial | refine ⟨rfl, ?_⟩ | refine ⟨i64_eq (by first | omega | (simp only; omega)), ?_⟩ | refine ⟨u64_eq (by first | omega | (simp only; omega)), ?_⟩)) ?_
          have e : isum g (j + 1) = isum g j := by simp only [isum]; rw [hgj, hat, hz0, Int.zero_mul, Int.mul_zero, Int.add_zero]
          simp only [e]
          exact Seals.sub (by repeat (first | exact Sub.nil _ | refine Sub.cons (by repeat (first | exact List.Mem.head _ | apply List.Mem.tail)) ?_))
        · refine draw_ord [0, 1, 2, 3, 4, 5, 6, 7, 8, 9, 10, 11, 12] (by kernel_rfl) ?_
          refine ord_split 11 8 rfl rfl rfl ?_ (ord_split 11 9 rfl rfl rfl ?_ (ord_split 11 10 rfl rfl rfl ?_ ?_))
          · refine ord_go [0, 1, 2, 3, 4, 5, 6, 7, 11, 8, 9, 10, 12] (by kernel_rfl) (by kernel_rfl) ?_
            refine index_fact (by repeat (first | exact List.Mem.head _ | apply List.Mem.tail)) 0 rfl (by omega) fun a3 => ?_
            refine load_fact (d := V (m.getD 0 [])) (by repeat (first | exact List.Mem.head _ | apply List.Mem.tail)) (load_V _) fun x3 => ?_
            refine index_fact (by repeat (first | exact List.Mem.head _ | apply List.Mem.tail)) j rfl (by omega) fun a4 => ?_
            refine load_fact (d := J ((m.getD 0 []).getD j z0)) (by repeat (first | exact List.Mem.head _ | apply List.Mem.tail)) (load_J _) fun x4 => ?_
            refine alloc_rule (d := I false []) fun t ht => ?_
            refine call_fn (minor_meets v m 0 j (by omega) fun r hr => by have := h.cols r hr; omega) (Seals.refl _ _) (by repeat (first | exact Sub.nil _ | refine Sub.cons (by repeat (first | exact List.Mem.head _ | apply List.Mem.tail)) ?_)) ?_
            rintro mv _ _ ⟨rfl, rfl⟩
            refine call_fn (ih mv (minor m 0 j) k (by omega) (hmin hjn) hkf) (Seals.refl _ _) (by repeat (first | exact Sub.nil _ | refine Sub.cons (by repeat (first | exact List.Mem.head _ | apply List.Mem.tail)) ?_)) ?_
            rintro dv _ _ ⟨rfl, rfl⟩
            rw [ww_minor]
            refine call_fn (rMulZ x4 dv ((m.getD 0 []).getD j z0) (rdet (f + 1) (minor (ww m) 0 j)) ((k + 1) * (f + 1)) hx0.1 (by omega) (by rw [← ww_minor]; exact rdet_sz _ _ k (by omega) (hmin hjn)) (by omega)) (Seals.refl _ _) (by repeat (first | exact Sub.nil _ | refine Sub.cons (by repeat (first | exact List.Mem.head _ | apply List.Mem.tail)) ?_)) ?_
            rintro pv _ _ ⟨rfl, rfl⟩
            rw [← hat]
            have hgs := hgj j
            have hsj := hS (n := j) (by omega)
            refine store_box (d := zd (((ww m).getD 0 []).getD j 0 * rdet (f + 1) (minor (ww m) 0 j))) 0 rfl ht rfl (by kernel_rfl) ?_ ?_; exact Reads.fact (by repeat (first | exact List.Mem.head _ | apply List.Mem.tail))
            generalize ((ww m).getD 0 []).getD j 0 * rdet (f + 1) (minor (ww m) 0 j) = T at hTj hgs ⊢
            refine rem_rule (by omega) (by omega) ?_
            refine cmp_split _ rfl (fun hp => ?_) (fun hp => ?_)
            · refine load_box (d := zd T) 0 rfl ht rfl (load_I _ _) fun y1 => ?_
              refine call_fn (rNegZ y1 T _ hTj (by omega)) (Seals.refl _ _) (by repeat (first | exact Sub.nil _ | refine Sub.cons (by repeat (first | exact List.Mem.head _ | apply List.Mem.tail)) ?_)) ?_
              rintro y2 _ _ ⟨rfl, rfl⟩
              refine store_box (d := zd (-T)) 0 rfl ht rfl (by kernel_rfl) ?_ ?_; exact Reads.fact (by repeat (first | exact List.Mem.head _ | apply List.Mem.tail))
              refine load_box (d := zd (isum g j)) 1 rfl hb rfl (load_I _ _) fun y3 => ?_
              refine load_box (d := zd (-T)) 0 rfl ht rfl (load_I _ _) fun y4 => ?_
              refine call_fn (rAddZ y3 y4 (isum g j) (-T) _ hsj hTj.neg (by omega)) (Seals.refl _ _) (by repeat (first | exact Sub.nil _ | refine Sub.cons (by repeat (first | exact List.Mem.head _ | apply List.Mem.tail)) ?_)) ?_
              rintro y5 _ _ ⟨rfl, rfl⟩
              refine store_box (d := zd (isum g j + -T)) 1 rfl hb rfl (by kernel_rfl) ?_ ?_; exact Reads.fact (by repeat (first | exact List.Mem.head _ | apply List.Mem.tail))
              have e : isum g (j + 1) = isum g j + -T := by simp only [isum]; rw [hgs, sg, if_pos (by omega), Int.neg_one_mul]
              refine ar rfl (by first | exact ⟨by omega, by omega⟩ | (simp only [inK]; omega)) ?_
              refine again (j + 1) (by omega) (by simp only; omega) (by repeat (first | exact trivial | refine ⟨rfl, ?_⟩ | refine ⟨i64_eq (by first | omega | (simp only; omega)), ?_⟩ | refine ⟨u64_eq (by first | omega | (simp only; omega)), ?_⟩)) ?_
              simp only [e]
              exact Seals.trans (Seals.drop 0 _ _) (Seals.trans (Seals.box0 rfl) (Seals.sub (by repeat (first | exact Sub.nil _ | refine Sub.cons (by repeat (first | exact List.Mem.head _ | apply List.Mem.tail)) ?_))))
            · refine load_box (d := zd (isum g j)) 1 rfl hb rfl (load_I _ _) fun y3 => ?_
              refine load_box (d := zd T) 0 rfl ht rfl (load_I _ _) fun y4 => ?_
              refine call_fn (rAddZ y3 y4 (isum g j) T _ hsj hTj (by omega)) (Seals.refl _ _) (by repeat (first | exact Sub.nil _ | refine Sub.cons (by repeat (first | exact List.Mem.head _ | apply List.Mem.tail)) ?_)) ?_
              rintro y5 _ _ ⟨rfl, rfl⟩
              refine store_box (d := zd (isum g j + T)) 1 rfl hb rfl (by kernel_rfl) ?_ ?_; exact Reads.fact (by repeat (first | exact List.Mem.head _ | apply List.Mem.tail))
              have e : isum g (j + 1) = isum g j + T := by simp only [isum]; rw [hgs, sg, if_neg (by omega), Int.one_mul]
              refine ar rfl (by first | exact ⟨by omega, by omega⟩ | (simp only [inK]; omega)) ?_
              refine again (j + 1) (by omega) (by simp only; omega) (by repeat (first | exact trivial | refine ⟨rfl, ?_⟩ | refine ⟨i64_eq (by first | omega | (simp only; omega)), ?_⟩ | refine ⟨u64_eq (by first | omega | (simp only; omega)), ?_⟩)) ?_
              simp only [e]
              exact Seals.trans (Seals.drop 0 _ _) (Seals.trans (Seals.box0 rfl) (Seals.sub (by repeat (first | exact Sub.nil _ | refine Sub.cons (by repeat (first | exact List.Mem.head _ | apply List.Mem.tail)) ?_))))
          · refine ord_go [0, 1, 2, 3, 4, 5, 6, 7, 8, 11, 9, 10, 12] (by kernel_rfl) (by kernel_rfl) ?_
            refine index_fact (by repeat (first | exact List.Mem.head _ | apply List.Mem.tail)) 0 rfl (by omega) fun a3 => ?_
            refine load_fact (d := V (m.getD 0 [])) (by repeat (first | exact List.Mem.head _ | apply List.Mem.tail)) (load_V _) fun x3 => ?_
            refine index_fact (by repeat (first | exact List.Mem.head _ | apply List.Mem.tail)) j rfl (by omega) fun a4 => ?_
            refine load_fact (d := J ((m.getD 0 []).getD j z0)) (by repeat (first | exact List.Mem.head _ | apply List.Mem.tail)) (load_J _) fun x4 => ?_
            refine call_fn (minor_meets v m 0 j (by omega) fun r hr => by have := h.cols r hr; omega) (Seals.refl _ _) (by repeat (first | exact Sub.nil _ | refine Sub.cons (by repeat (first | exact List.Mem.head _ | apply List.Mem.tail)) ?_)) ?_
            rintro mv _ _ ⟨rfl, rfl⟩
            refine alloc_rule (d := I false []) fun t ht => ?_
            refine call_fn (ih mv (minor m 0 j) k (by omega) (hmin hjn) hkf) (Seals.refl _ _) (by repeat (first | exact Sub.nil _ | refine Sub.cons (by repeat (first | exact List.Mem.head _ | apply List.Mem.tail)) ?_)) ?_
            rintro dv _ _ ⟨rfl, rfl⟩
            rw [ww_minor]
            refine call_fn (rMulZ x4 dv ((m.getD 0 []).getD j z0) (rdet (f + 1) (minor (ww m) 0 j)) ((k + 1) * (f + 1)) hx0.1 (by omega) (by rw [← ww_minor]; exact rdet_sz _ _ k (by omega) (hmin hjn)) (by omega)) (Seals.refl _ _) (by repeat (first | exact Sub.nil _ | refine Sub.cons (by repeat (first | exact List.Mem.head _ | apply List.Mem.tail)) ?_)) ?_
            rintro pv _ _ ⟨rfl, rfl⟩
            rw [← hat]
            have hgs := hgj j
            have hsj := hS (n := j) (by omega)
            refine store_box (d := zd (((ww m).getD 0 []).getD j 0 * rdet (f + 1) (minor (ww m) 0 j))) 0 rfl ht rfl (by kernel_rfl) ?_ ?_; exact Reads.fact (by repeat (first | exact List.Mem.head _ | apply List.Mem.tail))
            generalize ((ww m).getD 0 []).getD j 0 * rdet (f + 1) (minor (ww m) 0 j) = T at hTj hgs ⊢
            refine rem_rule (by omega) (by omega) ?_
            refine cmp_split _ rfl (fun hp => ?_) (fun hp => ?_)
            · refine load_box (d := zd T) 0 rfl ht rfl (load_I _ _) fun y1 => ?_
              refine call_fn (rNegZ y1 T _ hTj (by omega)) (Seals.refl _ _) (by repeat (first | exact Sub.nil _ | refine Sub.cons (by repeat (first | exact List.Mem.head _ | apply List.Mem.tail)) ?_)) ?_
              rintro y2 _ _ ⟨rfl, rfl⟩
              refine store_box (d := zd (-T)) 0 rfl ht rfl (by kernel_rfl) ?_ ?_; exact Reads.fact (by repeat (first | exact List.Mem.head _ | apply List.Mem.tail))
              refine load_box (d := zd (isum g j)) 1 rfl hb rfl (load_I _ _) fun y3 => ?_
              refine load_box (d := zd (-T)) 0 rfl ht rfl (load_I _ _) fun y4 => ?_
              refine call_fn (rAddZ y3 y4 (isum g j) (-T) _ hsj hTj.neg (by omega)) (Seals.refl _ _) (by repeat (first | exact Sub.nil _ | refine Sub.cons (by repeat (first | exact List.Mem.head _ | apply List.Mem.tail)) ?_)) ?_
              rintro y5 _ _ ⟨rfl, rfl⟩
              refine store_box (d := zd (isum g j + -T)) 1 rfl hb rfl (by kernel_rfl) ?_ ?_; exact Reads.fact (by repeat (first | exact List.Mem.head _ | apply List.Mem.tail))
              have e : isum g (j + 1) = isum g j + -T := by simp only [isum]; rw [hgs, sg, if_pos (by omega), Int.neg_one_mul]
              refine ar rfl (by first | exact ⟨by omega, by omega⟩ | (simp only [inK]; omega)) ?_
              refine again (j + 1) (by omega) (by simp only; omega) (by repeat (first | exact trivial | refine ⟨rfl, ?_⟩ | refine ⟨i64_eq (by first | omega | (simp only; omega)), ?_⟩ | refine ⟨u64_eq (by first | omega | (simp only; omega)), ?_⟩)) ?_
              simp only [e]
              exact Seals.trans (Seals.drop 0 _ _) (Seals.trans (Seals.box0 rfl) (Seals.sub (by repeat (first | exact Sub.nil _ | refine Sub.cons (by repeat (first | exact List.Mem.head _ | apply List.Mem.tail)) ?_))))
            · refine load_box (d := zd (isum g j)) 1 rfl hb rfl (load_I _ _) fun y3 => ?_
              refine load_box (d := zd T) 0 rfl ht rfl (load_I _ _) fun y4 => ?_
              refine call_fn (rAddZ y3 y4 (isum g j) T _ hsj hTj (by omega)) (Seals.refl _ _) (by repeat (first | exact Sub.nil _ | refine Sub.cons (by repeat (first | exact List.Mem.head _ | apply List.Mem.tail)) ?_)) ?_
              rintro y5 _ _ ⟨rfl, rfl⟩
              refine store_box (d := zd (isum g j + T)) 1 rfl hb rfl (by kernel_rfl) ?_ ?_; exact Reads.fact (by repeat (first | exact List.Mem.head _ | apply List.Mem.tail))
              have e : isum g (j + 1) = isum g j + T := by simp only [isum]; rw [hgs, sg, if_neg (by omega), Int.one_mul]
              refine ar rfl (by first | exact ⟨by omega, by omega⟩ | (simp only [inK]; omega)) ?_
              refine again (j + 1) (by omega) (by simp only; omega) (by repeat (first | exact trivial | refine ⟨rfl, ?_⟩ | refine ⟨i64_eq (by first | omega | (simp only; omega)), ?_⟩ | refine ⟨u64_eq (by first | omega | (simp only; omega)), ?_⟩)) ?_
              simp only [e]
              exact Seals.trans (Seals.drop 0 _ _) (Seals.trans (Seals.box0 rfl) (Seals.sub (by repeat (first | exact Sub.nil _ | refine Sub.cons (by repeat (first | exact List.Mem.head _ | apply List.Mem.tail)) ?_))))
          · refine ord_go [0, 1, 2, 3, 4, 5, 6, 7, 8, 9, 11, 10, 12] (by kernel_rfl) (by kernel_rfl) ?_
            refine index_fact (by repeat (first | exact List.Mem.head _ | apply List.Mem.tail)) 0 rfl (by omega) fun a3 => ?_
            refine load_fact (d := V (m.getD 0 [])) (by repeat (first | exact List.Mem.head _ | apply List.Mem.tail)) (load_V _) fun x3 => ?_
            refine index_fact (by repeat (first | exact List.Mem.head _ | apply List.Mem.tail)) j rfl (by omega) fun a4 => ?_
            refine load_fact (d := J ((m.getD 0 []).getD j z0)) (by repeat (first | exact List.Mem.head _ | apply List.Mem.tail)) (load_J _) fun x4 => ?_
            refine call_fn (minor_meets v m 0 j (by omega) fun r hr => by have := h.cols r hr; omega) (Seals.refl _ _) (by repeat (first | exact Sub.nil _ | refine Sub.cons (by repeat (first | exact List.Mem.head _ | apply List.Mem.tail)) ?_)) ?_
            rintro mv _ _ ⟨rfl, rfl⟩
            refine call_fn (ih mv (minor m 0 j) k (by omega) (hmin hjn) hkf) (Seals.refl _ _) (by repeat (first | exact Sub.nil _ | refine Sub.cons (by repeat (first | exact List.Mem.head _ | apply List.Mem.tail)) ?_)) ?_
            rintro dv _ _ ⟨rfl, rfl⟩
            rw [ww_minor]
            refine alloc_rule (d := I false []) fun t ht => ?_
            refine call_fn (rMulZ x4 dv ((m.getD 0 []).getD j z0) (rdet (f + 1) (minor (ww m) 0 j)) ((k + 1) * (f + 1)) hx0.1 (by omega) (by rw [← ww_minor]; exact rdet_sz _ _ k (by omega) (hmin hjn)) (by omega)) (Seals.refl _ _) (by repeat (first | exact Sub.nil _ | refine Sub.cons (by repeat (first | exact List.Mem.head _ | apply List.Mem.tail)) ?_)) ?_
            rintro pv _ _ ⟨rfl, rfl⟩
            rw [← hat]
            have hgs := hgj j
            have hsj := hS (n := j) (by omega)
            refine store_box (d := zd (((ww m).getD 0 []).getD j 0 * rdet (f + 1) (minor (ww m) 0 j))) 0 rfl ht rfl (by kernel_rfl) ?_ ?_; exact Reads.fact (by repeat (first | exact List.Mem.head _ | apply List.Mem.tail))
            generalize ((ww m).getD 0 []).getD j 0 * rdet (f + 1) (minor (ww m) 0 j) = T at hTj hgs ⊢
            refine rem_rule (by omega) (by omega) ?_
            refine cmp_split _ rfl (fun hp => ?_) (fun hp => ?_)
            · refine load_box (d := zd T) 0 rfl ht rfl (load_I _ _) fun y1 => ?_
              refine call_fn (rNegZ y1 T _ hTj (by omega)) (Seals.refl _ _) (by repeat (first | exact Sub.nil _ | refine Sub.cons (by repeat (first | exact List.Mem.head _ | apply List.Mem.tail)) ?_)) ?_
              rintro y2 _ _ ⟨rfl, rfl⟩
              refine store_box (d := zd (-T)) 0 rfl ht rfl (by kernel_rfl) ?_ ?_; exact Reads.fact (by repeat (first | exact List.Mem.head _ | apply List.Mem.tail))
              refine load_box (d := zd (isum g j)) 1 rfl hb rfl (load_I _ _) fun y3 => ?_
              refine load_box (d := zd (-T)) 0 rfl ht rfl (load_I _ _) fun y4 => ?_
              refine call_fn (rAddZ y3 y4 (isum g j) (-T) _ hsj hTj.neg (by omega)) (Seals.refl _ _) (by repeat (first | exact Sub.nil _ | refine Sub.cons (by repeat (first | exact List.Mem.head _ | apply List.Mem.tail)) ?_)) ?_
              rintro y5 _ _ ⟨rfl, rfl⟩
              refine store_box (d := zd (isum g j + -T)) 1 rfl hb rfl (by kernel_rfl) ?_ ?_; exact Reads.fact (by repeat (first | exact List.Mem.head _ | apply List.Mem.tail))
              have e : isum g (j + 1) = isum g j + -T := by simp only [isum]; rw [hgs, sg, if_pos (by omega), Int.neg_one_mul]
              refine ar rfl (by first | exact ⟨by omega, by omega⟩ | (simp only [inK]; omega)) ?_
              refine again (j + 1) (by omega) (by simp only; omega) (by repeat (first | exact trivial | refine ⟨rfl, ?_⟩ | refine ⟨i64_eq (by first | omega | (simp only; omega)), ?_⟩ | refine ⟨u64_eq (by first | omega | (simp only; omega)), ?_⟩)) ?_
              simp only [e]
              exact Seals.trans (Seals.drop 0 _ _) (Seals.trans (Seals.box0 rfl) (Seals.sub (by repeat (first | exact Sub.nil _ | refine Sub.cons (by repeat (first | exact List.Mem.head _ | apply List.Mem.tail)) ?_))))
            · refine load_box (d := zd (isum g j)) 1 rfl hb rfl (load_I _ _) fun y3 => ?_
              refine load_box (d := zd T) 0 rfl ht rfl (load_I _ _) fun y4 => ?_
              refine call_fn (rAddZ y3 y4 (isum g j) T _ hsj hTj (by omega)) (Seals.refl _ _) (by repeat (first | exact Sub.nil _ | refine Sub.cons (by repeat (first | exact List.Mem.head _ | apply List.Mem.tail)) ?_)) ?_
              rintro y5 _ _ ⟨rfl, rfl⟩
              refine store_box (d := zd (isum g j + T)) 1 rfl hb rfl (by kernel_rfl) ?_ ?_; exact Reads.fact (by repeat (first | exact List.Mem.head _ | apply List.Mem.tail))
              have e : isum g (j + 1) = isum g j + T := by simp only [isum]; rw [hgs, sg, if_neg (by omega), Int.one_mul]
              refine ar rfl (by first | exact ⟨by omega, by omega⟩ | (simp only [inK]; omega)) ?_
              refine again (j + 1) (by omega) (by simp only; omega) (by repeat (first | exact trivial | refine ⟨rfl, ?_⟩ | refine ⟨i64_eq (by first | omega | (simp only; omega)), ?_⟩ | refine ⟨u64_eq (by first | omega | (simp only; omega)), ?_⟩)) ?_
              simp only [e]
              exact Seals.trans (Seals.drop 0 _ _) (Seals.trans (Seals.box0 rfl) (Seals.sub (by repeat (first | exact Sub.nil _ | refine Sub.cons (by repeat (first | exact List.Mem.head _ | apply List.Mem.tail)) ?_))))
          · refine ord_go [0, 1, 2, 3, 4, 5, 6, 7, 8, 9, 10, 11, 12] (by kernel_rfl) (by kernel_rfl) ?_
            refine index_fact (by repeat (first | exact List.Mem.head _ | apply List.Mem.tail)) 0 rfl (by omega) fun a3 => ?_
            refine load_fact (d := V (m.getD 0 [])) (by repeat (first | exact List.Mem.head _ | apply List.Mem.tail)) (load_V _) fun x3 => ?_
            refine index_fact (by repeat (first | exact List.Mem.head _ | apply List.Mem.tail)) j rfl (by omega) fun a4 => ?_
            refine load_fact (d := J ((m.getD 0 []).getD j z0)) (by repeat (first | exact List.Mem.head _ | apply List.Mem.tail)) (load_J _) fun x4 => ?_
            refine call_fn (minor_meets v m 0 j (by omega) fun r hr => by have := h.cols r hr; omega) (Seals.refl _ _) (by repeat (first | exact Sub.nil _ | refine Sub.cons (by repeat (first | exact List.Mem.head _ | apply List.Mem.tail)) ?_)) ?_
            rintro mv _ _ ⟨rfl, rfl⟩
            refine call_fn (ih mv (minor m 0 j) k (by omega) (hmin hjn) hkf) (Seals.refl _ _) (by repeat (first | exact Sub.nil _ | refine Sub.cons (by repeat (first | exact List.Mem.head _ | apply List.Mem.tail)) ?_)) ?_
            rintro dv _ _ ⟨rfl, rfl⟩
            rw [ww_minor]
            refine call_fn (rMulZ x4 dv ((m.getD 0 []).getD j z0) (rdet (f + 1) (minor (ww m) 0 j)) ((k + 1) * (f + 1)) hx0.1 (by omega) (by rw [← ww_minor]; exact rdet_sz _ _ k (by omega) (hmin hjn)) (by omega)) (Seals.refl _ _) (by repeat (first | exact Sub.nil _ | refine Sub.cons (by repeat (first | exact List.Mem.head _ | apply List.Mem.tail)) ?_)) ?_
            rintro pv _ _ ⟨rfl, rfl⟩
            rw [← hat]
            refine alloc_rule (d := I false []) fun t ht => ?_
            have hgs := hgj j
            have hsj := hS (n := j) (by omega)
            refine store_box (d := zd (((ww m).getD 0 []).getD j 0 * rdet (f + 1) (minor (ww m) 0 j))) 0 rfl ht rfl (by kernel_rfl) ?_ ?_; exact Reads.fact (by repeat (first | exact List.Mem.head _ | apply List.Mem.tail))
            generalize ((ww m).getD 0 []).getD j 0 * rdet (f + 1) (minor (ww m) 0 j) = T at hTj hgs ⊢
            refine rem_rule (by omega) (by omega) ?_
            refine cmp_split _ rfl (fun hp => ?_) (fun hp => ?_)
            · refine load_box (d := zd T) 0 rfl ht rfl (load_I _ _) fun y1 => ?_
              refine call_fn (rNegZ y1 T _ hTj (by omega)) (Seals.refl _ _) (by repeat (first | exact Sub.nil _ | refine Sub.cons (by repeat (first | exact List.Mem.head _ | apply List.Mem.tail)) ?_)) ?_
              rintro y2 _ _ ⟨rfl, rfl⟩
              refine store_box (d := zd (-T)) 0 rfl ht rfl (by kernel_rfl) ?_ ?_; exact Reads.fact (by repeat (first | exact List.Mem.head _ | apply List.Mem.tail))
              refine load_box (d := zd (isum g j)) 1 rfl hb rfl (load_I _ _) fun y3 => ?_
              refine load_box (d := zd (-T)) 0 rfl ht rfl (load_I _ _) fun y4 => ?_
              refine call_fn (rAddZ y3 y4 (isum g j) (-T) _ hsj hTj.neg (by omega)) (Seals.refl _ _) (by repeat (first | exact Sub.nil _ | refine Sub.cons (by repeat (first | exact List.Mem.head _ | apply List.Mem.tail)) ?_)) ?_
              rintro y5 _ _ ⟨rfl, rfl⟩
              refine store_box (d := zd (isum g j + -T)) 1 rfl hb rfl (by kernel_rfl) ?_ ?_; exact Reads.fact (by repeat (first | exact List.Mem.head _ | apply List.Mem.tail))
              have e : isum g (j + 1) = isum g j + -T := by simp only [isum]; rw [hgs, sg, if_pos (by omega), Int.neg_one_mul]
              refine ar rfl (by first | exact ⟨by omega, by omega⟩ | (simp only [inK]; omega)) ?_
              refine again (j + 1) (by omega) (by simp only; omega) (by repeat (first | exact trivial | refine ⟨rfl, ?_⟩ | refine ⟨i64_eq (by first | omega | (simp only; omega)), ?_⟩ | refine ⟨u64_eq (by first | omega | (simp only; omega)), ?_⟩)) ?_
              simp only [e]
              exact Seals.trans (Seals.drop 0 _ _) (Seals.trans (Seals.box0 rfl) (Seals.sub (by repeat (first | exact Sub.nil _ | refine Sub.cons (by repeat (first | exact List.Mem.head _ | apply List.Mem.tail)) ?_))))
            · refine load_box (d := zd (isum g j)) 1 rfl hb rfl (load_I _ _) fun y3 => ?_
              refine load_box (d := zd T) 0 rfl ht rfl (load_I _ _) fun y4 => ?_
              refine call_fn (rAddZ y3 y4 (isum g j) T _ hsj hTj (by omega)) (Seals.refl _ _) (by repeat (first | exact Sub.nil _ | refine Sub.cons (by repeat (first | exact List.Mem.head _ | apply List.Mem.tail)) ?_)) ?_
              rintro y5 _ _ ⟨rfl, rfl⟩
              refine store_box (d := zd (isum g j + T)) 1 rfl hb rfl (by kernel_rfl) ?_ ?_; exact Reads.fact (by repeat (first | exact List.Mem.head _ | apply List.Mem.tail))
              have e : isum g (j + 1) = isum g j + T := by simp only [isum]; rw [hgs, sg, if_neg (by omega), Int.one_mul]
              refine ar rfl (by first | exact ⟨by omega, by omega⟩ | (simp only [inK]; omega)) ?_
              refine again (j + 1) (by omega) (by simp only; omega) (by repeat (first | exact trivial | refine ⟨rfl, ?_⟩ | refine ⟨i64_eq (by first | omega | (simp only; omega)), ?_⟩ | refine ⟨u64_eq (by first | omega | (simp only; omega)), ?_⟩)) ?_
              simp only [e]
              exact Seals.trans (Seals.drop 0 _ _) (Seals.trans (Seals.box0 rfl) (Seals.sub (by repeat (first | exact Sub.nil _ | refine Sub.cons (by repeat (first | exact List.Mem.head _ | apply List.Mem.tail)) ?_))))
      · have hjn : j = f + 1 + 1 := by omega
        subst hjn
        refine load_box (d := zd (isum g (f + 1 + 1))) 0 rfl hb rfl (load_I _ _) fun x1 => ?_
        refine call_fn (rNormZ x1 (isum g (f + 1 + 1)) _ (hS (Nat.le_refl _)) (by omega)) (Seals.refl _ _) (by repeat (first | exact Sub.nil _ | refine Sub.cons (by repeat (first | exact List.Mem.head _ | apply List.Mem.tail)) ?_)) ?_
        rintro w _ _ ⟨rfl, rfl⟩
        refine store_box (d := zd (isum g (f + 1 + 1))) 1 rfl ho rfl (by kernel_rfl) ?_ ?_; exact Reads.fact (by repeat (first | exact List.Mem.head _ | apply List.Mem.tail))
        refine load_box (d := zd (isum g (f + 1 + 1))) 1 rfl ho rfl (load_I _ _) fun r => ?_
        exact fin ⟨rfl, rfl⟩ (Seals.trans (Seals.trans (Seals.drop 0 _ _) (Seals.drop 0 _ _)) (Seals.sub (by repeat (first | exact Sub.nil _ | refine Sub.cons (by repeat (first | exact List.Mem.head _ | apply List.Mem.tail)) ?_))))

end Go.Proofs.Ytajkjlgddmkkaaa

namespace Go.Proofs.Ytajkjlgddmkkaaa
open Go.RowKit

theorem sq_of {k : Nat} {m : List Row} (h : square m) (hf : Fits k m) : Sq m.length k m :=
  ⟨rfl, fun r hr => by rw [(h.1.2 r hr).2, ← h.2], hf⟩

theorem rDet_meets (v : Value) (m : List Row) (k : Nat) (hf : Fits k m) (hm : m.length < 1048576) (hk : (k + 1) * m.length ≤ 4294967296) :
    Meets Try.prog 17 [v] [(v, W m)] (fun r os fs => os = [] ∧ ∃ q, r = .tuple #[q, .int .i64 (if square m then 0 else 1)] ∧ fs = [(q, zd (if square m then rdet m.length (ww m) else 0))]) := by
  refine meets_of_vc Try.func17 (by kernel_rfl) rfl (by kernel_rfl) (Nat.le_of_ble_eq_true rfl) ?_
  refine alloc_rule (d := I false []) fun o ho => ?_
  refine call_fn (rSquare_meets v m) (Seals.refl _ _) (by repeat (first | exact Sub.nil _ | refine Sub.cons (by repeat (first | exact List.Mem.head _ | apply List.Mem.tail)) ?_)) ?_
  rintro _ _ _ ⟨rfl, rfl, rfl⟩
  by_cases hs : square m
  · rw [decide_eq_true hs, if_pos hs, if_pos hs]
    obtain ⟨f, hmf⟩ : ∃ f, m.length = f + 1 := ⟨m.length - 1, by have := hs.1.1; omega⟩
    rw [hmf] at hk ⊢
    refine call_fn (rdet_meets f v m k (by omega) (hmf ▸ sq_of hs hf) hk) (Seals.refl _ _) (by repeat (first | exact Sub.nil _ | refine Sub.cons (by repeat (first | exact List.Mem.head _ | apply List.Mem.tail)) ?_)) ?_
    rintro w _ _ ⟨rfl, rfl⟩
    refine store_box (d := zd (rdet (f + 1) (ww m))) 0 rfl ho rfl (by kernel_rfl) ?_ ?_; exact Reads.fact (by repeat (first | exact List.Mem.head _ | apply List.Mem.tail))
    refine load_box (d := zd (rdet (f + 1) (ww m))) 0 rfl ho rfl (load_I _ _) fun r => ?_
    exact fin ⟨rfl, r, rfl, rfl⟩ (Seals.trans (Seals.drop 0 _ _) (Seals.sub (by repeat (first | exact Sub.nil _ | refine Sub.cons (by repeat (first | exact List.Mem.head _ | apply List.Mem.tail)) ?_))))
  · rw [decide_eq_false hs, if_neg hs, if_neg hs]
    refine build0 (da := .one (.bool false)) (db := U (lims 0)) (fun S w => ⟨[.bool false], [.slice none 0 0], rfl, rd_false S w, by rw [lims_zero]; exact rd_nil S w 1 _⟩) fun z => ?_
    refine store_box (d := zd 0) 0 rfl ho rfl (by kernel_rfl) ?_ ?_; exact Reads.fact (by repeat (first | exact List.Mem.head _ | apply List.Mem.tail))
    refine load_box (d := zd 0) 0 rfl ho rfl (load_I _ _) fun r => ?_
    exact fin ⟨rfl, r, rfl, rfl⟩ (Seals.trans (Seals.drop 0 _ _) (Seals.sub (by repeat (first | exact Sub.nil _ | refine Sub.cons (by repeat (first | exact List.Mem.head _ | apply List.Mem.tail)) ?_))))

theorem rMulJ (v w : Value) (x y : Bool × List Nat) (hx : Lim x.2) (lx : x.2.length ≤ 137438953472) (hy : Lim y.2) (ly : y.2.length ≤ 137438953472) :
    Meets Try.prog 33 [v, w] [(v, J x), (w, J y)] (fun r os fs => os = [] ∧ fs = [(r, zd (jv x * jv y))]) := rZMul_meets v w x.1 y.1 x.2 y.2 hx hy lx ly

theorem rSubZ (v w : Value) (x y : Int) (e : Nat) (hx : sz x e) (hy : sz y e) (he : e ≤ 137438953472) :
    Meets Try.prog 43 [v, w] [(v, zd x), (w, zd y)] (fun r os fs => os = [] ∧ fs = [(r, zd (x - y))]) := by
  have h := rZSub_meets v w (decide (x < 0)) (decide (y < 0)) (lims x.natAbs) (lims y.natAbs) (Lim_lims _) (Lim_lims _) (Nat.le_trans hx.len he) (Nat.le_trans hy.len he)
  rw [iv_zd, iv_zd] at h
  exact h

/-- A row less a multiple of another one, so that where the other one begins there is a nought. -/
def red1 (p r : List Int) : List Int := (List.range r.length).map fun k => p.getD (lead0 p) 0 * r.getD k 0 - r.getD (lead0 p) 0 * p.getD k 0

theorem red1_len (p r : List Int) : (red1 p r).length = r.length := by unfold red1; simp
theorem red1_get (p r : List Int) {k : Nat} (h : k < r.length) : (red1 p r).getD k 0 = p.getD (lead0 p) 0 * r.getD k 0 - r.getD (lead0 p) 0 * p.getD k 0 := by
  unfold red1; simp [List.getD_eq_getElem?_getD, h]

theorem sz_sub {x y : Int} {e : Nat} (h : sz x e) (h' : sz y e) : sz (x - y) (e + 1) := by
  unfold sz at *
  rw [Nat.pow_succ]
  have := Int.natAbs_sub_le x y
  omega

theorem Fit_cn {l : List Int} {e : Nat} (h : ∀ x, x ∈ l → sz x e) : Fit e (l.map cn) := fun p hp => by
  obtain ⟨x, hx, rfl⟩ := List.mem_map.1 hp
  exact ⟨Lim_lims _, (h x hx).len⟩

theorem red1_fit {p r : Row} {S E : Nat} (hp : Fit S p) (hr : Fit E r) (hl : p.length = r.length) (h0 : lead0 (vv p) < p.length) : ∀ x, x ∈ red1 (vv p) (vv r) → sz x (S + E + 1) := by
  intro x hx
  obtain ⟨k, hk, rfl⟩ := List.mem_map.1 hx
  rw [List.mem_range, vv_len] at hk
  rw [vv_get p _ h0, vv_get r k hk, vv_get r _ (by omega), vv_get p k (by omega)]
  refine sz_sub (sz.mul (sz_jv (hp.get _).1 (hp.get _).2) (sz_jv (hr.get _).1 (hr.get _).2)) ?_
  rw [Nat.add_comm S E]
  exact sz.mul (sz_jv (hr.get _).1 (hr.get _).2) (sz_jv (hp.get _).1 (hp.get _).2)

/-- The first k of one list and the others of another one. -/
def mix {α : Type} (A B : List α) (k : Nat) : List α := A.take k ++ B.drop k

theorem mix_len {α : Type} {A B : List α} (h : A.length = B.length) (k : Nat) : (mix A B k).length = B.length := by
  unfold mix; simp; omega
theorem mix_get {α : Type} {A B : List α} (z : α) {k i : Nat} (h : A.length = B.length) (hi : k ≤ i) (hk : k ≤ B.length) : (mix A B k).getD i z = B.getD i z := by
  unfold mix
  rw [List.getD_eq_getElem?_getD, List.getElem?_append_right (by simp; omega), List.getElem?_drop, List.getD_eq_getElem?_getD]
  congr 2
  simp; omega
theorem mix_set {α : Type} {A B : List α} (z : α) {k : Nat} (h : A.length = B.length) (hk : k < B.length) : (mix A B k).set k (A.getD k z) = mix A B (k + 1) := by
  unfold mix
  have hl : (A.take k).length = k := by simp; omega
  rw [List.set_append_right _ _ (by omega), hl, Nat.sub_self, List.drop_eq_getElem_cons hk, List.set_cons_zero, take_snoc' z (by omega), List.append_assoc]
  rfl
theorem mix_zero {α : Type} (A B : List α) : mix A B 0 = B := by simp [mix]
theorem mix_all {α : Type} {A B : List α} (h : A.length = B.length) {k : Nat} (hk : B.length ≤ k) : mix A B k = A := by
  unfold mix
  rw [List.take_of_length_le (by omega), List.drop_of_length_le hk, List.append_nil]

def dep (ps : List (List Int)) (r : List Int) : List Int := ps.foldl (fun r p => red1 p r) r

theorem Seals.box1 {os : List Own} {fs : List Fact} {o : Own} {p : Value} {size : Nat} {e : Nat → Dat} {d : Dat} (h : e 0 = d) : Seals (o :: own1 p size 1 e :: os) fs (o :: own1 p size 1 (fun _ => d) :: os) fs :=
  Seals.own_cong (os := o :: own1 p size 1 e :: os) 1 (fun _ => d) rfl rfl fun i hi => by
    have : i = 0 := by omega
    subst this; exact h

theorem map_cn_get {l : List Int} {k : Nat} (h : k < l.length) : (l.map cn).getD k z0 = cn (l.getD k 0) := by
  simp [List.getD_eq_getElem?_getD, h]

theorem depends_meets (v w : Value) (m : List Row) (a0 : Row) (S e0 : Nat) (hm : Fits S m) (ha : Fit e0 a0) (hn : ∀ r, r ∈ m → r.length = a0.length ∧ lead0 (vv r) < r.length) (ln : a0.length ≤ 274877906944) (hb : e0 + m.length * (S + 1) ≤ 68719476736) (hS : S ≤ 68719476736) :
    Meets Try.prog 55 [v, w] [(v, W m), (w, V a0)] (fun r os fs => os = [] ∧ ∃ u a, vv a = dep (ww m) (vv a0) ∧ a.length = a0.length ∧ Fit (e0 + m.length * (S + 1)) a ∧
      r = .tuple #[u, .bool (decide (lead0 (vv a) = a.length))] ∧ fs = [(u, V a)]) := by
  refine meets_of_vc Try.func55 (by kernel_rfl) rfl (by kernel_rfl) (Nat.le_of_ble_eq_true rfl) ?_
  refine call_fn (rOwn_meets w a0 ln fun x hx => Nat.le_trans (ha x hx).2 (by omega)) (Seals.refl _ _) (by repeat (first | exact Sub.nil _ | refine Sub.cons (by repeat (first | exact List.Mem.head _ | apply List.Mem.tail)) ?_)) ?_
  rintro t _ _ ⟨rfl, ht, rfl⟩
  refine loop_rule (X := Nat × Row) (fun x => ([(0, v), (6, t), (7, .int .i64 (x.1 : Nat))], [ownL 2 J z0 t x.2], [(v, W m)]))
    (fun x => x.1 ≤ m.length ∧ x.2.length = a0.length ∧ Fit (e0 + x.1 * (S + 1)) x.2 ∧ vv x.2 = dep ((ww m).take x.1) (vv a0)) (fun x => m.length - x.1) rfl ?_ ?_
  · exact again (0, a0) ⟨Nat.zero_le _, rfl, by simpa using ha, rfl⟩ trivial (by repeat (first | exact trivial | refine ⟨rfl, ?_⟩ | refine ⟨i64_eq (by first | omega | (simp only; omega)), ?_⟩ | refine ⟨u64_eq (by first | omega | (simp only; omega)), ?_⟩)) (Seals.sub (by repeat (first | exact Sub.nil _ | refine Sub.cons (by repeat (first | exact List.Mem.head _ | apply List.Mem.tail)) ?_)))
  · rintro ⟨i, a⟩ ⟨h1, h2, h3, h4⟩
    simp only at h1 h2 h3 h4 ⊢
    refine len_fact (by repeat (first | exact List.Mem.head _ | apply List.Mem.tail)) fun _ => ?_
    refine cmp_split _ rfl (fun hi => ?_) (fun hi => ?_)
    · have hlt : i < m.length := by omega
      have hrow := hn _ (getD_mem [] hlt)
      have hfr := hm.get i
      have hmul : (i + 1) * (S + 1) ≤ m.length * (S + 1) := Nat.mul_le_mul_right _ hlt
      have hmul1 : (i + 1) * (S + 1) = i * (S + 1) + (S + 1) := Nat.succ_mul _ _
      refine index_fact (by repeat (first | exact List.Mem.head _ | apply List.Mem.tail)) i rfl hlt fun a1 => ?_
      refine load_fact (d := V (m.getD i [])) (by repeat (first | exact List.Mem.head _ | apply List.Mem.tail)) (load_V _) fun x1 => ?_
      refine call_fn (first_meets x1 (m.getD i []) fun x hx => ⟨(hfr x hx).1, Nat.le_trans (hfr x hx).2 (by omega)⟩) (Seals.refl _ _) (by repeat (first | exact Sub.nil _ | refine Sub.cons (by repeat (first | exact List.Mem.head _ | apply List.Mem.tail)) ?_)) ?_
      rintro _ _ _ ⟨rfl, rfl, rfl⟩
      have hR := red1_fit hfr h3 (by omega) hrow.2
      have hRl : (red1 (vv (m.getD i [])) (vv a)).length = a.length := by rw [red1_len, vv_len]
      have hRg : ∀ k, k < a.length → (red1 (vv (m.getD i [])) (vv a)).getD k 0 = jv ((m.getD i []).getD (lead0 (vv (m.getD i []))) z0) * jv (a.getD k z0) - jv (a.getD (lead0 (vv (m.getD i []))) z0) * jv ((m.getD i []).getD k z0) := fun k hk => by
        rw [red1_get _ _ (by rw [vv_len]; exact hk), vv_get _ _ hrow.2, vv_get a k hk, vv_get a _ (by omega), vv_get _ k (by omega)]
      have hdep : dep ((ww m).take (i + 1)) (vv a0) = red1 (vv (m.getD i [])) (vv a) := by
        unfold dep at h4 ⊢
        rw [take_snoc' [] (by rw [ww_len]; exact hlt), List.foldl_append, ← h4, ww_get]; rfl
      generalize hc : lead0 (vv (m.getD i [])) = c at *
      have hc' := hrow.2
      refine index_fact (by repeat (first | exact List.Mem.head _ | apply List.Mem.tail)) i rfl hlt fun a2 => ?_
      refine load_fact (d := V (m.getD i [])) (by repeat (first | exact List.Mem.head _ | apply List.Mem.tail)) (load_V _) fun x2 => ?_
      refine index_fact (by repeat (first | exact List.Mem.head _ | apply List.Mem.tail)) c rfl hc' fun a3 => ?_
      refine load_fact (d := J ((m.getD i []).getD c z0)) (by repeat (first | exact List.Mem.head _ | apply List.Mem.tail)) (load_J _) fun x3 => ?_
      refine alloc_rule (d := I false []) fun p hp => ?_
      refine store_box (d := J ((m.getD i []).getD c z0)) 0 rfl hp rfl (by kernel_rfl) ?_ ?_; exact Reads.fact (by repeat (first | exact List.Mem.head _ | apply List.Mem.tail))
      refine index_elem 1 rfl ht c rfl (by omega) ?_
      refine load_elem 1 rfl c (by omega) (load_J _) fun x4 => ?_
      refine alloc_rule (d := I false []) fun q hq => ?_
      refine store_box (d := J (a.getD c z0)) 0 rfl hq rfl (by kernel_rfl) ?_ ?_; exact Reads.fact (by repeat (first | exact List.Mem.head _ | apply List.Mem.tail))
      generalize hRe : red1 (vv (m.getD i [])) (vv a) = R at *
      have hRl' : (R.map cn).length = a.length := by rw [List.length_map]; exact hRl
      refine loop_rule (X := Nat) (fun k => ([(0, v), (6, t), (7, .int .i64 (i : Nat)), (9, p), (10, q), (11, .int .i64 (k : Nat))], [own1 q 2 1 (fun _ => J (a.getD c z0)), own1 p 2 1 (fun _ => J ((m.getD i []).getD c z0)), ownL 2 J z0 t (mix (R.map cn) a k)], [(v, W m)]))
        (fun k => k ≤ a.length) (fun k => a.length - k) rfl ?_ ?_
      · exact again 0 (Nat.zero_le _) trivial (by repeat (first | exact trivial | refine ⟨rfl, ?_⟩ | refine ⟨i64_eq (by first | omega | (simp only; omega)), ?_⟩ | refine ⟨u64_eq (by first | omega | (simp only; omega)), ?_⟩)) (by simp only [mix_zero]; exact Seals.trans (Seals.box0 rfl) (Seals.trans (Seals.box1 rfl) (Seals.sub (by repeat (first | exact Sub.nil _ | refine Sub.cons (by repeat (first | exact List.Mem.head _ | apply List.Mem.tail)) ?_)))))
      · rintro k hk
        have hml := mix_len hRl' k
        refine len_own 2 rfl ht fun _ => ?_
        refine cmp_split _ rfl (fun hd => ?_) (fun hd => ?_)
        · have hka : k < a.length := by omega
          have hak := h3.get k
          have hac := h3.get c
          have hrk := hfr.get k
          have hrc := hfr.get c
          refine draw_rule [0, 1, 2, 3, 4, 5, 6, 8, 9, 10, 11, 12, 13, 14, 15, 7, 16, 17, 18, 19] [0, 1, 2, 3, 4, 5, 6, 7, 8, 9, 10, 11, 12, 13, 14, 15, 16, 17, 18, 19] (by kernel_rfl) (by kernel_rfl) ?_
          refine load_box (d := J ((m.getD i []).getD c z0)) 1 rfl hp rfl (load_J _) fun y1 => ?_
          refine index_elem 2 rfl ht k rfl (by omega) ?_
          refine load_elem 2 rfl k (by omega) (load_J _) fun y2 => ?_
          rw [mix_get z0 hRl' (Nat.le_refl k) hk]
          refine load_box (d := J (a.getD c z0)) 0 rfl hq rfl (load_J _) fun y3 => ?_
          refine index_fact (by repeat (first | exact List.Mem.head _ | apply List.Mem.tail)) i rfl hlt fun a4 => ?_
          refine load_fact (d := V (m.getD i [])) (by repeat (first | exact List.Mem.head _ | apply List.Mem.tail)) (load_V _) fun x5 => ?_
          refine index_fact (by repeat (first | exact List.Mem.head _ | apply List.Mem.tail)) k rfl (by omega) fun a5 => ?_
          refine load_fact (d := J ((m.getD i []).getD k z0)) (by repeat (first | exact List.Mem.head _ | apply List.Mem.tail)) (load_J _) fun x6 => ?_
          refine call_fn (rMulJ y1 y2 ((m.getD i []).getD c z0) (a.getD k z0) hrc.1 (by omega) hak.1 (by omega)) (Seals.refl _ _) (by repeat (first | exact Sub.nil _ | refine Sub.cons (by repeat (first | exact List.Mem.head _ | apply List.Mem.tail)) ?_)) ?_
          rintro u1 _ _ ⟨rfl, rfl⟩
          refine call_fn (rMulJ y3 x6 (a.getD c z0) ((m.getD i []).getD k z0) hac.1 (by omega) hrk.1 (by omega)) (Seals.refl _ _) (by repeat (first | exact Sub.nil _ | refine Sub.cons (by repeat (first | exact List.Mem.head _ | apply List.Mem.tail)) ?_)) ?_
          rintro u2 _ _ ⟨rfl, rfl⟩
          refine call_fn (rSubZ u1 u2 _ _ (S + (e0 + i * (S + 1))) (sz.mul (sz_jv hrc.1 hrc.2) (sz_jv hak.1 hak.2)) (by rw [Nat.add_comm]; exact sz.mul (sz_jv hac.1 hac.2) (sz_jv hrk.1 hrk.2)) (by omega)) (Seals.refl _ _) (by repeat (first | exact Sub.nil _ | refine Sub.cons (by repeat (first | exact List.Mem.head _ | apply List.Mem.tail)) ?_)) ?_
          rintro u3 _ _ ⟨rfl, rfl⟩
          rw [← hRg k hka]
          refine index_elem 2 rfl ht k rfl (by omega) ?_
          refine store_L 2 rfl (cn (R.getD k 0)) rfl (by kernel_rfl) (Reads.fact (d := zd (R.getD k 0)) (by repeat (first | exact List.Mem.head _ | apply List.Mem.tail))) (by omega) ?_
          refine ar rfl (by first | exact ⟨by omega, by omega⟩ | (simp only [inK]; omega)) ?_
          refine again (k + 1) (by omega) (by simp only; omega) (by repeat (first | exact trivial | refine ⟨rfl, ?_⟩ | refine ⟨i64_eq (by first | omega | (simp only; omega)), ?_⟩ | refine ⟨u64_eq (by first | omega | (simp only; omega)), ?_⟩)) ?_
          simp only
          rw [← mix_set z0 hRl' hka, map_cn_get (by omega)]
          exact Seals.sub (by repeat (first | exact Sub.nil _ | refine Sub.cons (by repeat (first | exact List.Mem.head _ | apply List.Mem.tail)) ?_))
        · refine ar rfl (by first | exact ⟨by omega, by omega⟩ | (simp only [inK]; omega)) ?_
          refine again (i + 1, R.map cn) ⟨by simp only; omega, by simp only [List.length_map]; omega, ?_, by simp only; rw [vv_cn, hdep]⟩ (by simp only; omega) (by repeat (first | exact trivial | refine ⟨rfl, ?_⟩ | refine ⟨i64_eq (by first | omega | (simp only; omega)), ?_⟩ | refine ⟨u64_eq (by first | omega | (simp only; omega)), ?_⟩)) ?_
          · simp only
            have : e0 + (i + 1) * (S + 1) = S + (e0 + i * (S + 1)) + 1 := by omega
            rw [this]
            exact Fit_cn hR
          · simp only
            rw [mix_all hRl' (by omega)]
            exact Seals.trans (Seals.trans (Seals.drop 0 _ _) (Seals.drop 0 _ _)) (Seals.sub (by repeat (first | exact Sub.nil _ | refine Sub.cons (by repeat (first | exact List.Mem.head _ | apply List.Mem.tail)) ?_)))
    · have hia : i = m.length := by omega
      subst hia
      rw [List.take_of_length_le (by rw [ww_len]; exact Nat.le_refl _)] at h4
      refine call_fn (first_meets t a fun x hx => ⟨(h3 x hx).1, Nat.le_trans (h3 x hx).2 (by omega)⟩) (Seals.L 0 rfl ht) (by repeat (first | exact Sub.nil _ | refine Sub.cons (by repeat (first | exact List.Mem.head _ | apply List.Mem.tail)) ?_)) ?_
      rintro _ _ _ ⟨rfl, rfl, rfl⟩
      refine len_fact (by repeat (first | exact List.Mem.head _ | apply List.Mem.tail)) fun _ => ?_
      refine cmp_split _ rfl (fun hc => ?_) (fun hc => ?_)
      · exact fin ⟨rfl, t, a, h4, h2, h3, by rw [decide_eq_true (by omega)]; rfl, rfl⟩ (Seals.sub (by repeat (first | exact Sub.nil _ | refine Sub.cons (by repeat (first | exact List.Mem.head _ | apply List.Mem.tail)) ?_)))
      · exact fin ⟨rfl, t, a, h4, h2, h3, by rw [decide_eq_false (by omega)]; rfl, rfl⟩ (Seals.sub (by repeat (first | exact Sub.nil _ | refine Sub.cons (by repeat (first | exact List.Mem.head _ | apply List.Mem.tail)) ?_)))

end Go.Proofs.Ytajkjlgddmkkaaa

namespace Go.Proofs.Ytajkjlgddmkkaaa
open Go.RowKit

theorem depends_call {K : Cont} {os : List Own} {fs : List Fact} (pos : Nat) {v w : Value} {m : List Row} {a0 : Row} {S e0 : Nat} (h : nthOwn os pos = some (ownL 1 V [] v m)) (hs : isSl v) (hw : (w, V a0) ∈ fs) (hm : Fits S m) (ha : Fit e0 a0) (hn : ∀ r, r ∈ m → r.length = a0.length ∧ lead0 (vv r) < r.length) (ln : a0.length ≤ 274877906944) (hb : e0 + m.length * (S + 1) ≤ 68719476736) (hS : S ≤ 68719476736)
    (k : ∀ u a, vv a = dep (ww m) (vv a0) → a.length = a0.length → Fit (e0 + m.length * (S + 1)) a → K (.tuple #[u, .bool (decide (lead0 (vv a) = a.length))]) os ((u, V a) :: fs)) :
    CallK Try.prog false (.func (.func 55) #[] #[]) [v, w] os fs K := by
  refine call_inline Try.func55 (by kernel_rfl) rfl (by kernel_rfl) (Nat.le_of_ble_eq_true rfl) ?_
  refine call_fn (rOwn_meets w a0 ln fun x hx => Nat.le_trans (ha x hx).2 (by omega)) (Seals.refl _ _) (Sub.cons hw (Sub.nil _)) ?_
  rintro t _ _ ⟨rfl, ht, rfl⟩
  refine loop_rule (X := Nat × Row) (fun x => ([(0, v), (6, t), (7, .int .i64 (x.1 : Nat))], ownL 2 J z0 t x.2 :: os, fs))
    (fun x => x.1 ≤ m.length ∧ x.2.length = a0.length ∧ Fit (e0 + x.1 * (S + 1)) x.2 ∧ vv x.2 = dep ((ww m).take x.1) (vv a0)) (fun x => m.length - x.1) rfl ?_ ?_
  · exact again (0, a0) ⟨Nat.zero_le _, rfl, by simpa using ha, rfl⟩ trivial (by repeat (first | exact trivial | refine ⟨rfl, ?_⟩ | refine ⟨i64_eq (by first | omega | (simp only; omega)), ?_⟩ | refine ⟨u64_eq (by first | omega | (simp only; omega)), ?_⟩)) (Seals.sub (fun F hF => by repeat (first | exact hF | apply List.Mem.tail)))
  · rintro ⟨i, a⟩ ⟨h1, h2, h3, h4⟩
    simp only at h1 h2 h3 h4 ⊢
    refine len_own (pos + 1) h hs fun _ => ?_
    refine cmp_split _ rfl (fun hi => ?_) (fun hi => ?_)
    · have hlt : i < m.length := by omega
      have hrow := hn _ (getD_mem [] hlt)
      have hfr := hm.get i
      have hmul : (i + 1) * (S + 1) ≤ m.length * (S + 1) := Nat.mul_le_mul_right _ hlt
      have hmul1 : (i + 1) * (S + 1) = i * (S + 1) + (S + 1) := Nat.succ_mul _ _
      refine index_elem (pos + 1) h hs i rfl hlt ?_
      refine load_elem (pos + 1) h i hlt (load_V _) fun x1 => ?_
      refine call_fn (first_meets x1 (m.getD i []) fun x hx => ⟨(hfr x hx).1, Nat.le_trans (hfr x hx).2 (by omega)⟩) (Seals.refl _ _) (by repeat (first | exact Sub.nil _ | refine Sub.cons (by repeat (first | exact List.Mem.head _ | apply List.Mem.tail)) ?_)) ?_
      rintro _ _ _ ⟨rfl, rfl, rfl⟩
      have hR := red1_fit hfr h3 (by omega) hrow.2
      have hRl : (red1 (vv (m.getD i [])) (vv a)).length = a.length := by rw [red1_len, vv_len]
      have hRg : ∀ k, k < a.length → (red1 (vv (m.getD i [])) (vv a)).getD k 0 = jv ((m.getD i []).getD (lead0 (vv (m.getD i []))) z0) * jv (a.getD k z0) - jv (a.getD (lead0 (vv (m.getD i []))) z0) * jv ((m.getD i []).getD k z0) := fun k hk => by
        rw [red1_get _ _ (by rw [vv_len]; exact hk), vv_get _ _ hrow.2, vv_get a k hk, vv_get a _ (by omega), vv_get _ k (by omega)]
      have hdep : dep ((ww m).take (i + 1)) (vv a0) = red1 (vv (m.getD i [])) (vv a) := by
        unfold dep at h4 ⊢
        rw [take_snoc' [] (by rw [ww_len]; exact hlt), List.foldl_append, ← h4, ww_get]; rfl
      generalize hc : lead0 (vv (m.getD i [])) = c at *
      have hc' := hrow.2
      refine index_elem (pos + 1) h hs i rfl hlt ?_
      refine load_elem (pos + 1) h i hlt (load_V _) fun x2 => ?_
      refine index_fact (by repeat (first | exact List.Mem.head _ | apply List.Mem.tail)) c rfl hc' fun a3 => ?_
      refine load_fact (d := J ((m.getD i []).getD c z0)) (by repeat (first | exact List.Mem.head _ | apply List.Mem.tail)) (load_J _) fun x3 => ?_
      refine alloc_rule (d := I false []) fun p hp => ?_
      refine store_box (d := J ((m.getD i []).getD c z0)) 0 rfl hp rfl (by kernel_rfl) ?_ ?_; exact Reads.fact (by repeat (first | exact List.Mem.head _ | apply List.Mem.tail))
      refine index_elem 1 rfl ht c rfl (by omega) ?_
      refine load_elem 1 rfl c (by omega) (load_J _) fun x4 => ?_
      refine alloc_rule (d := I false []) fun q hq => ?_
      refine store_box (d := J (a.getD c z0)) 0 rfl hq rfl (by kernel_rfl) ?_ ?_; exact Reads.fact (by repeat (first | exact List.Mem.head _ | apply List.Mem.tail))
      generalize hRe : red1 (vv (m.getD i [])) (vv a) = R at *
      have hRl' : (R.map cn).length = a.length := by rw [List.length_map]; exact hRl
      refine loop_rule (X := Nat) (fun k => ([(0, v), (6, t), (7, .int .i64 (i : Nat)), (9, p), (10, q), (11, .int .i64 (k : Nat))], [own1 q 2 1 (fun _ => J (a.getD c z0)), own1 p 2 1 (fun _ => J ((m.getD i []).getD c z0)), ownL 2 J z0 t (mix (R.map cn) a k)] ++ os, fs))
        (fun k => k ≤ a.length) (fun k => a.length - k) rfl ?_ ?_
      · exact again 0 (Nat.zero_le _) trivial (by repeat (first | exact trivial | refine ⟨rfl, ?_⟩ | refine ⟨i64_eq (by first | omega | (simp only; omega)), ?_⟩ | refine ⟨u64_eq (by first | omega | (simp only; omega)), ?_⟩)) (by simp only [mix_zero]; exact Seals.trans (Seals.box0 rfl) (Seals.trans (Seals.box1 rfl) (Seals.sub (fun F hF => by repeat (first | exact hF | apply List.Mem.tail)))))
      · rintro n hk
        have hml := mix_len hRl' n
        refine len_own 2 rfl ht fun _ => ?_
        refine cmp_split _ rfl (fun hd => ?_) (fun hd => ?_)
        · have hka : n < a.length := by omega
          have hak := h3.get n
          have hac := h3.get c
          have hrk := hfr.get n
          have hrc := hfr.get c
          refine draw_rule [0, 1, 2, 3, 4, 5, 6, 8, 9, 10, 11, 12, 13, 14, 15, 7, 16, 17, 18, 19] [0, 1, 2, 3, 4, 5, 6, 7, 8, 9, 10, 11, 12, 13, 14, 15, 16, 17, 18, 19] (by kernel_rfl) (by kernel_rfl) ?_
          refine load_box (d := J ((m.getD i []).getD c z0)) 1 rfl hp rfl (load_J _) fun y1 => ?_
          refine index_elem 2 rfl ht n rfl (by omega) ?_
          refine load_elem 2 rfl n (by omega) (load_J _) fun y2 => ?_
          rw [mix_get z0 hRl' (Nat.le_refl n) hk]
          refine load_box (d := J (a.getD c z0)) 0 rfl hq rfl (load_J _) fun y3 => ?_
          refine index_elem (pos + 1 + 1 + 1) h hs i rfl hlt ?_
          refine load_elem (pos + 1 + 1 + 1) h i hlt (load_V _) fun x5 => ?_
          refine index_fact (by repeat (first | exact List.Mem.head _ | apply List.Mem.tail)) n rfl (by omega) fun a5 => ?_
          refine load_fact (d := J ((m.getD i []).getD n z0)) (by repeat (first | exact List.Mem.head _ | apply List.Mem.tail)) (load_J _) fun x6 => ?_
          refine call_fn (rMulJ y1 y2 ((m.getD i []).getD c z0) (a.getD n z0) hrc.1 (by omega) hak.1 (by omega)) (Seals.refl _ _) (by repeat (first | exact Sub.nil _ | refine Sub.cons (by repeat (first | exact List.Mem.head _ | apply List.Mem.tail)) ?_)) ?_
          rintro u1 _ _ ⟨rfl, rfl⟩
          refine call_fn (rMulJ y3 x6 (a.getD c z0) ((m.getD i []).getD n z0) hac.1 (by omega) hrk.1 (by omega)) (Seals.refl _ _) (by repeat (first | exact Sub.nil _ | refine Sub.cons (by repeat (first | exact List.Mem.head _ | apply List.Mem.tail)) ?_)) ?_
          rintro u2 _ _ ⟨rfl, rfl⟩
          refine call_fn (rSubZ u1 u2 _ _ (S + (e0 + i * (S + 1))) (sz.mul (sz_jv hrc.1 hrc.2) (sz_jv hak.1 hak.2)) (by rw [Nat.add_comm]; exact sz.mul (sz_jv hac.1 hac.2) (sz_jv hrk.1 hrk.2)) (by omega)) (Seals.refl _ _) (by repeat (first | exact Sub.nil _ | refine Sub.cons (by repeat (first | exact List.Mem.head _ | apply List.Mem.tail)) ?_)) ?_
          rintro u3 _ _ ⟨rfl, rfl⟩
          rw [← hRg n hka]
          refine index_elem 2 rfl ht n rfl (by omega) ?_
          refine store_L 2 rfl (cn (R.getD n 0)) rfl (by kernel_rfl) (Reads.fact (d := zd (R.getD n 0)) (by repeat (first | exact List.Mem.head _ | apply List.Mem.tail))) (by omega) ?_
          refine ar rfl (by first | exact ⟨by omega, by omega⟩ | (simp only [inK]; omega)) ?_
          refine again (n + 1) (by omega) (by simp only; omega) (by repeat (first | exact trivial | refine ⟨rfl, ?_⟩ | refine ⟨i64_eq (by first | omega | (simp only; omega)), ?_⟩ | refine ⟨u64_eq (by first | omega | (simp only; omega)), ?_⟩)) ?_
          simp only
          rw [← mix_set z0 hRl' hka, map_cn_get (by omega)]
          exact Seals.sub (fun F hF => by repeat (first | exact hF | apply List.Mem.tail))
        · refine ar rfl (by first | exact ⟨by omega, by omega⟩ | (simp only [inK]; omega)) ?_
          refine again (i + 1, R.map cn) ⟨by simp only; omega, by simp only [List.length_map]; omega, ?_, by simp only; rw [vv_cn, hdep]⟩ (by simp only; omega) (by repeat (first | exact trivial | refine ⟨rfl, ?_⟩ | refine ⟨i64_eq (by first | omega | (simp only; omega)), ?_⟩ | refine ⟨u64_eq (by first | omega | (simp only; omega)), ?_⟩)) ?_
          · simp only
            have : e0 + (i + 1) * (S + 1) = S + (e0 + i * (S + 1)) + 1 := by omega
            rw [this]
            exact Fit_cn hR
          · simp only
            rw [mix_all hRl' (by omega)]
            exact Seals.trans (Seals.trans (Seals.drop 0 _ _) (Seals.drop 0 _ _)) (Seals.sub (fun F hF => by repeat (first | exact hF | apply List.Mem.tail)))
    · have hia : i = m.length := by omega
      subst hia
      rw [List.take_of_length_le (by rw [ww_len]; exact Nat.le_refl _)] at h4
      refine call_fn (first_meets t a fun x hx => ⟨(h3 x hx).1, Nat.le_trans (h3 x hx).2 (by omega)⟩) (Seals.L 0 rfl ht) (by repeat (first | exact Sub.nil _ | refine Sub.cons (by repeat (first | exact List.Mem.head _ | apply List.Mem.tail)) ?_)) ?_
      rintro _ _ _ ⟨rfl, rfl, rfl⟩
      refine len_fact (by repeat (first | exact List.Mem.head _ | apply List.Mem.tail)) fun _ => ?_
      refine cmp_split _ rfl (fun hc => ?_) (fun hc => ?_)
      · have hk := k t a h4 h2 h3
        rw [decide_eq_true (by omega)] at hk
        exact fin hk (Seals.sub (fun F hF => by repeat (first | exact hF | apply List.Mem.tail)))
      · have hk := k t a h4 h2 h3
        rw [decide_eq_false (by omega)] at hk
        exact fin hk (Seals.sub (fun F hF => by repeat (first | exact hF | apply List.Mem.tail)))

/-- Limbs after so many rows. -/
def Sz (k : Nat) : Nat → Nat
  | 0 => k
  | i + 1 => k + (i + 1) * (Sz k i + 1)

theorem Sz_succ (k i : Nat) : Sz k i ≤ Sz k (i + 1) := by
  have : 1 * (Sz k i + 1) ≤ (i + 1) * (Sz k i + 1) := Nat.mul_le_mul_right _ (by omega)
  simp only [Sz]; omega
theorem Sz_mono (k : Nat) {i j : Nat} (h : i ≤ j) : Sz k i ≤ Sz k j := by
  induction j with
  | zero => have : i = 0 := by omega
            subst this; exact Nat.le_refl _
  | succ j ih =>
    rcases Nat.lt_or_ge i (j + 1) with h1 | h1
    · exact Nat.le_trans (ih (by omega)) (Sz_succ k j)
    · have : i = j + 1 := by omega
      subst this; exact Nat.le_refl _

theorem Fit.mono {k k' : Nat} {r : Row} (h : Fit k r) (hk : k ≤ k') : Fit k' r := fun x hx => ⟨(h x hx).1, Nat.le_trans (h x hx).2 hk⟩
theorem Fits.mono {k k' : Nat} {m : List Row} (h : Fits k m) (hk : k ≤ k') : Fits k' m := fun r hr => (h r hr).mono hk

def rstep (acc : List (List Int)) (r : List Int) : List (List Int) := if lead0 (dep acc r) = (dep acc r).length then acc else acc ++ [dep acc r]
def rrows (m : List (List Int)) : List (List Int) := m.foldl rstep []
/-- The rank: how many rows do not depend on those above. -/
def rrank (m : List (List Int)) : Nat := (rrows m).length

theorem ww_snoc (m : List Row) (r : Row) : ww (m ++ [r]) = ww m ++ [vv r] := by unfold ww; simp

theorem rRank_meets (v : Value) (m : List Row) (k : Nat) (hf : Fits k m) (hk : Sz k m.length ≤ 68719476736) (lm : m.length ≤ 1048576) (lc : (m.getD 0 []).length ≤ 274877906944) :
    Meets Try.prog 19 [v] [(v, W m)] (fun r os fs => os = [] ∧ fs = [] ∧ r = .tuple #[.int .i64 ((if right m then rrank (ww m) else 0 : Nat) : Int), .int .i64 (if right m then 0 else 1)]) := by
  refine meets_of_vc Try.func19 (by kernel_rfl) rfl (by kernel_rfl) (Nat.le_of_ble_eq_true rfl) ?_
  refine call_fn (rRight_meets v m) (Seals.refl _ _) (by repeat (first | exact Sub.nil _ | refine Sub.cons (by repeat (first | exact List.Mem.head _ | apply List.Mem.tail)) ?_)) ?_
  rintro _ _ _ ⟨rfl, rfl, rfl⟩
  by_cases hs : right m
  · rw [decide_eq_true hs, if_pos hs, if_pos hs]
    refine empty_L V [] (by decide) fun w hw => ?_
    refine loop_rule (X := Nat × Value × List Row) (fun x => ([(0, v), (4, x.2.1), (5, .int .i64 (x.1 : Nat))], [ownL 1 V [] x.2.1 x.2.2], [(v, W m)]))
      (fun x => x.1 ≤ m.length ∧ isSl x.2.1 ∧ ww x.2.2 = rrows ((ww m).take x.1) ∧ x.2.2.length ≤ x.1 ∧ Fits (Sz k x.1) x.2.2 ∧ ∀ r, r ∈ x.2.2 → r.length = (m.getD 0 []).length ∧ lead0 (vv r) < r.length) (fun x => m.length - x.1) rfl ?_ ?_
    · exact again (0, w, []) ⟨Nat.zero_le _, hw, rfl, Nat.le_refl _, (fun _ h => by cases h), (fun _ h => by cases h)⟩ trivial (by repeat (first | exact trivial | refine ⟨rfl, ?_⟩ | refine ⟨i64_eq (by first | omega | (simp only; omega)), ?_⟩ | refine ⟨u64_eq (by first | omega | (simp only; omega)), ?_⟩)) (Seals.sub (by repeat (first | exact Sub.nil _ | refine Sub.cons (by repeat (first | exact List.Mem.head _ | apply List.Mem.tail)) ?_)))
    · rintro ⟨i, w, acc⟩ ⟨h1, hw, h3, h4, h5, h6⟩
      simp only at h1 hw h3 h4 h5 h6 ⊢
      refine len_fact (by repeat (first | exact List.Mem.head _ | apply List.Mem.tail)) fun _ => ?_
      refine cmp_split _ rfl (fun hi => ?_) (fun hi => ?_)
      · have hlt : i < m.length := by omega
        have hrow := (hs.get hlt).2
        have hz := Sz_mono k (show i + 1 ≤ m.length from hlt)
        have hz0 := Sz_succ k i
        have hzk : Sz k (i + 1) = k + (i + 1) * (Sz k i + 1) := rfl
        have hmul : acc.length * (Sz k i + 1) ≤ (i + 1) * (Sz k i + 1) := Nat.mul_le_mul_right _ (by omega)
        have hstep : rrows ((ww m).take (i + 1)) = rstep (ww acc) (vv (m.getD i [])) := by
          unfold rrows at h3 ⊢
          rw [take_snoc' [] (by rw [ww_len]; exact hlt), List.foldl_append, ← h3, ww_get]; rfl
        refine index_fact (by repeat (first | exact List.Mem.head _ | apply List.Mem.tail)) i rfl hlt fun a1 => ?_
        refine load_fact (d := V (m.getD i [])) (by repeat (first | exact List.Mem.head _ | apply List.Mem.tail)) (load_V _) fun x1 => ?_
        refine depends_call (S := Sz k i) (e0 := k) 0 rfl hw (w := x1) (a0 := m.getD i []) (by repeat (first | exact List.Mem.head _ | apply List.Mem.tail)) h5 (hf.get i) (fun r hr => by rw [hrow]; exact h6 r hr) (by omega) (by omega) (by omega) ?_
        intro u a q1 q2 q3
        by_cases hd : lead0 (vv a) = a.length
        · rw [decide_eq_true hd]
          refine ar rfl (by first | exact ⟨by omega, by omega⟩ | (simp only [inK]; omega)) ?_
          refine again (i + 1, w, acc) ⟨by simp only; omega, hw, ?_, by simp only; omega, h5.mono hz0, h6⟩ (by simp only; omega) (by repeat (first | exact trivial | refine ⟨rfl, ?_⟩ | refine ⟨i64_eq (by first | omega | (simp only; omega)), ?_⟩ | refine ⟨u64_eq (by first | omega | (simp only; omega)), ?_⟩)) (Seals.sub (by repeat (first | exact Sub.nil _ | refine Sub.cons (by repeat (first | exact List.Mem.head _ | apply List.Mem.tail)) ?_)))
          simp only
          rw [hstep, rstep, ← q1, vv_len, if_pos hd]
        · rw [decide_eq_false hd]
          refine lit_L (size := 1) V [] a (by decide) (Reads.fact (d := V a) (by repeat (first | exact List.Mem.head _ | apply List.Mem.tail))) rfl fun l1 => ?_
          refine append_L 0 rfl hw (Knw.fact (by repeat (first | exact List.Mem.head _ | apply List.Mem.tail))) (by simp; omega) (by simp; omega) fun w2 hw2 => ?_
          refine ar rfl (by first | exact ⟨by omega, by omega⟩ | (simp only [inK]; omega)) ?_
          refine again (i + 1, w2, acc ++ [a]) ⟨by simp only; omega, hw2, ?_, by simp; omega, fun r hr => ?_, fun r hr => ?_⟩ (by simp only; omega) (by repeat (first | exact trivial | refine ⟨rfl, ?_⟩ | refine ⟨i64_eq (by first | omega | (simp only; omega)), ?_⟩ | refine ⟨u64_eq (by first | omega | (simp only; omega)), ?_⟩)) (Seals.sub (by repeat (first | exact Sub.nil _ | refine Sub.cons (by repeat (first | exact List.Mem.head _ | apply List.Mem.tail)) ?_)))
          · simp only
            rw [hstep, rstep, ← q1, vv_len, if_neg hd, ww_snoc]
          · rcases List.mem_append.1 hr with hr | hr
            · exact (h5 r hr).mono hz0
            · rw [List.mem_singleton.1 hr]; exact q3.mono (by simp only; omega)
          · rcases List.mem_append.1 hr with hr | hr
            · exact h6 r hr
            · rw [List.mem_singleton.1 hr]
              have := lead0_le (vv a)
              rw [vv_len] at this
              exact ⟨by omega, by omega⟩
      · have hia : i = m.length := by omega
        subst hia
        rw [List.take_of_length_le (by rw [ww_len]; exact Nat.le_refl _)] at h3
        refine len_own 0 rfl hw fun _ => ?_
        refine fin ⟨rfl, rfl, ?_⟩ (Seals.trans (Seals.drop 0 _ _) (Seals.nil _ _))
        rw [show rrank (ww m) = acc.length from by unfold rrank; rw [← h3, ww_len]]; rfl
  · rw [decide_eq_false hs, if_neg hs, if_neg hs]
    exact fin ⟨rfl, rfl, rfl⟩ (Seals.nil _ _)

end Go.Proofs.Ytajkjlgddmkkaaa

namespace Go.Proofs.Ytajkjlgddmkkaaa
open Go.RowKit

/-- Rows to columns. -/
def turn (m : List (List Int)) : List (List Int) := (List.range (m.getD 0 []).length).map fun j => (List.range m.length).map fun i => (m.getD i []).getD j 0

theorem range_snoc_map {α : Type} (f : Nat → α) (n : Nat) : (List.range (n + 1)).map f = (List.range n).map f ++ [f n] := by rw [List.range_succ, List.map_append]; rfl

theorem rTurn_meets (v : Value) (m : List Row) (k : Nat) (hf : Fits k m) (hk : k ≤ 1099511627776) (lm : m.length ≤ 274877906944) (lc : (m.getD 0 []).length ≤ 274877906944) :
    Meets Try.prog 40 [v] [(v, W m)] (fun r os fs => os = [] ∧ ∃ q, r = .tuple #[q, .int .i64 (if right m then 0 else 1)] ∧ fs = [(q, wd (if right m then turn (ww m) else []))]) := by
  refine meets_of_vc Try.func40 (by kernel_rfl) rfl (by kernel_rfl) (Nat.le_of_ble_eq_true rfl) ?_
  refine call_fn (rRight_meets v m) (Seals.refl _ _) (by repeat (first | exact Sub.nil _ | refine Sub.cons (by repeat (first | exact List.Mem.head _ | apply List.Mem.tail)) ?_)) ?_
  rintro _ _ _ ⟨rfl, rfl, rfl⟩
  by_cases hs : right m
  · rw [decide_eq_true hs, if_pos hs, if_pos hs]
    have h0 := hs.1
    refine empty_L V [] (by decide) fun w hw => ?_
    refine loop_rule (X := Nat × Value) (fun x => ([(0, v), (4, x.2), (5, .int .i64 (x.1 : Nat))], [ownL 1 V [] x.2 ((List.range x.1).map fun j => ((List.range m.length).map fun i => cn (((ww m).getD i []).getD j 0)))], [(v, W m)]))
      (fun x => x.1 ≤ (m.getD 0 []).length ∧ isSl x.2) (fun x => (m.getD 0 []).length - x.1) rfl ?_ ?_
    · exact again (0, w) ⟨Nat.zero_le _, hw⟩ trivial (by repeat (first | exact trivial | refine ⟨rfl, ?_⟩ | refine ⟨i64_eq (by first | omega | (simp only; omega)), ?_⟩ | refine ⟨u64_eq (by first | omega | (simp only; omega)), ?_⟩)) (Seals.sub (by repeat (first | exact Sub.nil _ | refine Sub.cons (by repeat (first | exact List.Mem.head _ | apply List.Mem.tail)) ?_)))
    · rintro ⟨j, w⟩ ⟨h1, hw⟩
      simp only at h1 hw ⊢
      refine index_fact (by repeat (first | exact List.Mem.head _ | apply List.Mem.tail)) 0 rfl h0 fun a1 => ?_
      refine load_fact (d := V (m.getD 0 [])) (by repeat (first | exact List.Mem.head _ | apply List.Mem.tail)) (load_V _) fun x1 => ?_
      refine len_fact (by repeat (first | exact List.Mem.head _ | apply List.Mem.tail)) fun _ => ?_
      refine cmp_split _ rfl (fun hj => ?_) (fun hj => ?_)
      · have hlt : j < (m.getD 0 []).length := by omega
        refine empty_L J z0 (by decide) fun u hu => ?_
        refine loop_rule (X := Nat × Value) (fun x => ([(0, v), (4, w), (5, .int .i64 (j : Nat)), (6, x.2), (7, .int .i64 (x.1 : Nat))], [ownL 2 J z0 x.2 ((List.range x.1).map fun i => cn (((ww m).getD i []).getD j 0)), ownL 1 V [] w ((List.range j).map fun j => ((List.range m.length).map fun i => cn (((ww m).getD i []).getD j 0)))], [(v, W m)]))
          (fun x => x.1 ≤ m.length ∧ isSl x.2) (fun x => m.length - x.1) rfl ?_ ?_
        · exact again (0, u) ⟨Nat.zero_le _, hu⟩ trivial (by repeat (first | exact trivial | refine ⟨rfl, ?_⟩ | refine ⟨i64_eq (by first | omega | (simp only; omega)), ?_⟩ | refine ⟨u64_eq (by first | omega | (simp only; omega)), ?_⟩)) (Seals.sub (by repeat (first | exact Sub.nil _ | refine Sub.cons (by repeat (first | exact List.Mem.head _ | apply List.Mem.tail)) ?_)))
        · rintro ⟨i, u⟩ ⟨g1, hu⟩
          simp only at g1 hu ⊢
          refine len_fact (by repeat (first | exact List.Mem.head _ | apply List.Mem.tail)) fun _ => ?_
          refine cmp_split _ rfl (fun hi => ?_) (fun hi => ?_)
          · have hilt : i < m.length := by omega
            have hrow := (hs.get hilt).2
            have hx := (hf.get i).get j
            have hg : ((ww m).getD i []).getD j 0 = jv ((m.getD i []).getD j z0) := by rw [ww_get, vv_get _ _ (by omega)]
            refine index_fact (by repeat (first | exact List.Mem.head _ | apply List.Mem.tail)) i rfl hilt fun a2 => ?_
            refine load_fact (d := V (m.getD i [])) (by repeat (first | exact List.Mem.head _ | apply List.Mem.tail)) (load_V _) fun x2 => ?_
            refine index_fact (by repeat (first | exact List.Mem.head _ | apply List.Mem.tail)) j rfl (by omega) fun a3 => ?_
            refine load_fact (d := J ((m.getD i []).getD j z0)) (by repeat (first | exact List.Mem.head _ | apply List.Mem.tail)) (load_J _) fun x3 => ?_
            refine call_fn (rZNorm_meets x3 ((m.getD i []).getD j z0).1 ((m.getD i []).getD j z0).2 hx.1 (by omega)) (Seals.refl _ _) (by repeat (first | exact Sub.nil _ | refine Sub.cons (by repeat (first | exact List.Mem.head _ | apply List.Mem.tail)) ?_)) ?_
            rintro x4 _ _ ⟨rfl, rfl⟩
            refine lit_L (size := 2) J z0 (cn (jv ((m.getD i []).getD j z0))) (by decide) (Reads.fact (d := zd (jv ((m.getD i []).getD j z0))) (by repeat (first | exact List.Mem.head _ | apply List.Mem.tail))) rfl fun l1 => ?_
            refine append_L 0 rfl hu (Knw.fact (by repeat (first | exact List.Mem.head _ | apply List.Mem.tail))) (by simp; omega) (by simp; omega) fun u2 hu2 => ?_
            refine ar rfl (by first | exact ⟨by omega, by omega⟩ | (simp only [inK]; omega)) ?_
            refine again (i + 1, u2) ⟨by simp only; omega, hu2⟩ (by simp only; omega) (by repeat (first | exact trivial | refine ⟨rfl, ?_⟩ | refine ⟨i64_eq (by first | omega | (simp only; omega)), ?_⟩ | refine ⟨u64_eq (by first | omega | (simp only; omega)), ?_⟩)) ?_
            simp only [range_snoc_map, hg]
            exact Seals.sub (by repeat (first | exact Sub.nil _ | refine Sub.cons (by repeat (first | exact List.Mem.head _ | apply List.Mem.tail)) ?_))
          · have him : i = m.length := by omega
            subst him
            refine BuildSliceK.pre (Seals.L 0 rfl hu) ?_
            refine lit_L (size := 1) V [] ((List.range m.length).map fun i => cn (((ww m).getD i []).getD j 0)) (by decide) (Reads.fact (d := V ((List.range m.length).map fun i => cn (((ww m).getD i []).getD j 0))) (by repeat (first | exact List.Mem.head _ | apply List.Mem.tail))) rfl fun l1 => ?_
            refine append_L 0 rfl hw (Knw.fact (by repeat (first | exact List.Mem.head _ | apply List.Mem.tail))) (by simp; omega) (by simp; omega) fun w2 hw2 => ?_
            refine ar rfl (by first | exact ⟨by omega, by omega⟩ | (simp only [inK]; omega)) ?_
            refine again (j + 1, w2) ⟨by simp only; omega, hw2⟩ (by simp only; omega) (by repeat (first | exact trivial | refine ⟨rfl, ?_⟩ | refine ⟨i64_eq (by first | omega | (simp only; omega)), ?_⟩ | refine ⟨u64_eq (by first | omega | (simp only; omega)), ?_⟩)) ?_
            simp only [range_snoc_map]
            exact Seals.sub (by repeat (first | exact Sub.nil _ | refine Sub.cons (by repeat (first | exact List.Mem.head _ | apply List.Mem.tail)) ?_))
      · have hjn : j = (m.getD 0 []).length := by omega
        subst hjn
        refine fin ⟨rfl, w, rfl, rfl⟩ (Seals.trans (Seals.L 0 rfl hw) (Seals.cons ((Knw.fact (by repeat (first | exact List.Mem.head _ | apply List.Mem.tail))).cast ?_) (Seals.nil _ _)))
        unfold wd turn
        rw [ww_len, ww_get, vv_len, List.map_map]
        congr 1
        exact List.map_congr_left fun j _ => by simp
  · rw [decide_eq_false hs, if_neg hs, if_neg hs]
    exact fin ⟨rfl, .slice none 0 0, rfl, rfl⟩ (Seals.cons (Knw.nil 1 _) (Seals.nil _ _))

end Go.Proofs.Ytajkjlgddmkkaaa
