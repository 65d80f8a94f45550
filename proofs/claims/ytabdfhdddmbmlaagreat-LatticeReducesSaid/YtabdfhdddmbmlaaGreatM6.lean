/- The law LatticeReduces is true of each input, and changes none. No condition. -/
import Derived.Test.YtabdfhdddmbmlaaGreatM5
import Derived.Test.YtabdfhdddmbmlaaGreatRows
import Derived.OpenShut
import Derived.Below
import Derived.Lib.SmallJoins
set_option linter.unusedVariables false
set_option linter.unusedSimpArgs false
namespace Go.Proofs.YtabdfhdddmbmlaaGreat
open Go.RowKit
theorem one_sz {e : Nat} (h : 1 ≤ e) : sz 1 e := Nat.lt_of_lt_of_le (show (1 : Int).natAbs < 18446744073709551616 ^ 1 by decide) (Nat.pow_le_pow_right (by decide) h)
theorem div_uniq {x y q r : Int} (h0 : y ≠ 0) (e : x = y * q + r) (h1 : 0 ≤ r) (h2 : r < y.natAbs) : x / y = q ∧ x % y = r := by
  have e1 : x % y = r := by
    rw [e, Int.add_comm, Int.add_mul_emod_self_left]
    rcases Int.lt_or_gt_of_ne h0 with h | h
    · rw [← Int.emod_neg]; exact Int.emod_eq_of_lt h1 (by omega)
    · exact Int.emod_eq_of_lt h1 (by omega)
  refine ⟨?_, e1⟩
  have h3 := Int.mul_ediv_add_emod x y
  rw [e1] at h3
  have h4 : y * (x / y) = y * q := by omega
  exact Int.eq_of_mul_eq_mul_left h0 h4
theorem rAbs_meets (v : Value) (s : Bool) (a : List Nat) (ha : Lim a) (la : a.length ≤ 1099511627776) :
    Meets Tryz.prog 94 [v] [(v, I s a)] (fun r os fs => os = [] ∧ fs = [(r, zd ((iv s a).natAbs : Nat))]) := by
  refine meets_of_vc Tryz.func94 (by kernel_rfl) rfl (by kernel_rfl) (Nat.le_of_ble_eq_true rfl) ?_
  refine box_rule (Reads.fact (d := I s a) qM) fun p hp => ?_
  refine alloc_rule (d := I false []) fun o ho => ?_
  refine field_box 1 rfl hp ?_
  refine load_box_field 1 rfl (Part.right (Part.refl _)) (load_L _) fun u => ?_
  refine call_fn (rMake_meets u false a ha la) (Seals.refl _ _) qS ?_
  rintro r0 _ _ ⟨rfl, rfl⟩
  rw [show iv false a = ((iv s a).natAbs : Nat) by rw [iv_abs]; simp [iv]]
  generalize ((iv s a).natAbs : Int) = x
  refine store_box (d := zd x) 0 rfl ho rfl (by kernel_rfl) ?_ ?_; exact Reads.fact qM
  refine load_box (d := zd x) 0 rfl ho rfl (load_I _ _) fun r => ?_
  exact fin ⟨rfl, rfl⟩ (Seals.trans (Seals.trans (Seals.drop 0 _ _) (Seals.drop 0 _ _)) (Seals.sub qS))
theorem sgn_div {x y : Int} (h0 : y ≠ 0) :
    let q0 : Int := if decide (x < 0) = decide (y < 0) then ((x.natAbs / y.natAbs : Nat) : Int) else -((x.natAbs / y.natAbs : Nat) : Int)
    let r0 : Int := if x < 0 then -((x.natAbs % y.natAbs : Nat) : Int) else ((x.natAbs % y.natAbs : Nat) : Int)
    (r0 < 0 → x / y = (if y < 0 then q0 + 1 else q0 - 1) ∧ x % y = r0 + y.natAbs) ∧ (¬ r0 < 0 → x / y = q0 ∧ x % y = r0) := by
  intro q0 r0
  have hY : 0 < y.natAbs := by omega
  have hm := Nat.mod_lt x.natAbs hY
  have hd := Nat.div_add_mod x.natAbs y.natAbs
  have e : x = y * q0 + r0 := by
    have h1 : ((y.natAbs * (x.natAbs / y.natAbs) + x.natAbs % y.natAbs : Nat) : Int) = x.natAbs := by rw [hd]
    rw [Int.natCast_add, Int.natCast_mul] at h1
    show x = y * (if decide (x < 0) = decide (y < 0) then _ else _) + (if x < 0 then _ else _)
    generalize ((x.natAbs / y.natAbs : Nat) : Int) = Q at *
    generalize ((x.natAbs % y.natAbs : Nat) : Int) = R at *
    by_cases hx : x < 0
    · by_cases hy : y < 0
      · have ey : (y.natAbs : Int) = -y := by omega
        rw [ey, Int.neg_mul] at h1
        simp only [hx, hy, decide_true, if_true]; omega
      · have ey : (y.natAbs : Int) = y := by omega
        rw [ey] at h1
        simp only [hx, hy, decide_true, decide_false, if_true, Bool.true_eq_false, if_false]
        rw [Int.mul_neg]; omega
    · by_cases hy : y < 0
      · have ey : (y.natAbs : Int) = -y := by omega
        rw [ey, Int.neg_mul] at h1
        simp only [hx, hy, decide_true, decide_false, Bool.false_eq_true, if_false]
        rw [Int.mul_neg]; omega
      · have ey : (y.natAbs : Int) = y := by omega
        rw [ey] at h1
        simp only [hx, hy, decide_false, if_true, if_false]; omega
  have hr : r0.natAbs = x.natAbs % y.natAbs := by
    show (if x < 0 then -((x.natAbs % y.natAbs : Nat) : Int) else ((x.natAbs % y.natAbs : Nat) : Int)).natAbs = _
    split <;> omega
  constructor
  · intro hr0
    refine div_uniq h0 ?_ (by omega) (by omega)
    by_cases hy : y < 0
    · rw [if_pos hy, Int.mul_add, Int.mul_one]; omega
    · rw [if_neg hy, Int.mul_sub, Int.mul_one]; omega
  · intro hr0
    exact div_uniq h0 e (by omega) (by omega)
theorem rZDivMod_meets (v w : Value) (s t : Bool) (a b : List Nat) (ha : Lim a) (hb : Lim b) (la : a.length ≤ 34359738368) (lb : b.length ≤ 34359738368) (h0 : iv t b ≠ 0) :
    Meets Tryz.prog 58 [v, w] [(v, I s a), (w, I t b)] (fun r os fs => os = [] ∧ ∃ q m, r = .tuple #[q, m, .bool true] ∧ fs = [(q, zd (iv s a / iv t b)), (m, zd (iv s a % iv t b))]) := by
  have hxs : sz (iv s a) a.length := sz_jv (x := (s, a)) ha (Nat.le_refl _)
  have hys : sz (iv t b) b.length := sz_jv (x := (t, b)) hb (Nat.le_refl _)
  have n1 := fun u => rZNorm_meets u s a ha (by omega)
  have n2 := fun u => rZNorm_meets u t b hb (by omega)
  refine meets_of_vc Tryz.func58 (by kernel_rfl) rfl (by kernel_rfl) (Nat.le_of_ble_eq_true rfl) ?_
  refine box_rule (Reads.fact (d := I s a) qM) fun p hp => ?_
  refine box_rule (Reads.fact (d := I t b) qM) fun q hq => ?_
  refine alloc_rule (d := I false []) fun o ho => ?_
  refine alloc_rule (d := I false []) fun o2 ho2 => ?_
  refine load_box (d := I s a) 3 rfl hp rfl (load_I _ _) fun v1 => ?_
  refine call_fn (n1 v1) (Seals.refl _ _) qS ?_
  rintro v2 _ _ ⟨rfl, rfl⟩
  refine store_box (d := zd (iv s a)) 3 rfl hp rfl (by kernel_rfl) ?_ ?_; exact Reads.fact qM
  refine load_box (d := I t b) 2 rfl hq rfl (load_I _ _) fun w1 => ?_
  refine call_fn (n2 w1) (Seals.refl _ _) qS ?_
  rintro w2 _ _ ⟨rfl, rfl⟩
  refine store_box (d := zd (iv t b)) 2 rfl hq rfl (by kernel_rfl) ?_ ?_; exact Reads.fact qM
  generalize iv s a = x at *
  generalize iv t b = y at *
  have hx1 := hxs.len
  have hy1 := hys.len
  have hsg := sgn_div (x := x) h0
  simp only at hsg
  have hY : 0 < y.natAbs := by omega
  have hR := Nat.mod_lt x.natAbs hY
  have hQ := Nat.div_le_self x.natAbs y.natAbs
  have lQ : (lims (x.natAbs / y.natAbs)).length ≤ 1099511627776 := Nat.le_trans (lims_len_le hQ) (by omega)
  have lR : (lims (x.natAbs % y.natAbs)).length ≤ 1099511627776 := Nat.le_trans (lims_len_le (Nat.le_of_lt hR)) (by omega)
  have hdm := fun u u' => rDivMod_meets u u' (lims x.natAbs) (lims y.natAbs) (Lim_lims _) (Lim_lims _) (by omega) (by omega) (by rw [nv_lims]; omega)
  simp only [nv_lims] at hdm
  have sR : ∀ r : Int, r.natAbs = x.natAbs % y.natAbs → sz r (a.length + b.length + 1) := fun r hr => by
    have h1 := hys.mono (show b.length ≤ a.length + b.length + 1 by omega)
    unfold sz at h1 ⊢; omega
  have sQ : ∀ r : Int, r.natAbs = x.natAbs / y.natAbs → sz r (a.length + b.length + 1) := fun r hr => by
    have h1 := hxs.mono (show a.length ≤ a.length + b.length + 1 by omega)
    unfold sz at h1 ⊢; omega
  have sY : sz ((y.natAbs : Nat) : Int) (a.length + b.length + 1) := by
    have h1 := hys.mono (show b.length ≤ a.length + b.length + 1 by omega)
    unfold sz at h1 ⊢; omega
  have hab := fun u => rAbs_meets u (decide (y < 0)) (lims y.natAbs) (Lim_lims _) (by omega)
  rw [iv_zd] at hab
  obtain ⟨R0, hR0⟩ : ∃ R0 : Int, (if x < 0 then -((x.natAbs % y.natAbs : Nat) : Int) else ((x.natAbs % y.natAbs : Nat) : Int)) = R0 := ⟨_, rfl⟩
  have hR0e : R0 = if decide (x < 0) = true then -((x.natAbs % y.natAbs : Nat) : Int) else ((x.natAbs % y.natAbs : Nat) : Int) := by
    rw [← hR0]
    by_cases h : x < 0
    · simp [h]
    · simp [h]
  have hR0a : R0.natAbs = x.natAbs % y.natAbs := by rw [← hR0]; split <;> omega
  rw [hR0] at hsg
  have sR0 := sR R0 hR0a
  have one : sz 1 (a.length + b.length + 1) := one_sz (by omega)
  have hE : a.length + b.length + 1 ≤ 137438953472 := by omega
  generalize hQn : x.natAbs / y.natAbs = Q at *
  generalize hRn : x.natAbs % y.natAbs = R at *
  generalize a.length + b.length + 1 = E at *
  refine field_box 3 rfl hp ?_
  refine load_box_field (d := U (lims (x).natAbs)) 3 rfl (Part.right (Part.refl _)) (load_L _) fun u1 => ?_
  refine field_box 2 rfl hq ?_
  refine load_box_field (d := U (lims (y).natAbs)) 2 rfl (Part.right (Part.refl _)) (load_L _) fun u2 => ?_
  refine call_fn (hdm u1 u2) (Seals.refl _ _) qS ?_
  rintro _ _ _ ⟨rfl, z1, z2, rfl, rfl⟩
  refine field_box 3 rfl hp ?_
  refine load_box_field_one (u := .bool (decide (x < 0))) 3 rfl (Part.left (Part.refl _)) ?_
  refine field_box 2 rfl hq ?_
  refine load_box_field_one (u := .bool (decide (y < 0))) 2 rfl (Part.left (Part.refl _)) ?_
  refine bne_split (fun hc => ?_) (fun hc => ?_)
  · rw [if_neg hc] at hsg
    refine call_fn (rMake_of z1 true Q (-(Q : Int)) lQ rfl) (Seals.refl _ _) qS ?_
    rintro m1 _ _ ⟨rfl, rfl⟩
    refine alloc_rule (d := I false []) fun q2 hq2 => ?_
    refine store_box (d := zd (-(Q : Int))) 0 rfl hq2 rfl (by kernel_rfl) ?_ ?_; exact Reads.fact qM
    refine field_box 4 rfl hp ?_
    refine load_box_field_one (u := .bool (decide (x < 0))) 4 rfl (Part.left (Part.refl _)) ?_
    refine call_fn (rMake_of z2 (decide (x < 0)) R R0 lR hR0e) (Seals.refl _ _) qS ?_
    rintro m2 _ _ ⟨rfl, rfl⟩
    refine alloc_rule (d := I false []) fun r2 hr2 => ?_
    refine store_box (d := zd R0) 0 rfl hr2 rfl (by kernel_rfl) ?_ ?_; exact Reads.fact qM
    refine field_box 0 rfl hr2 ?_
    refine load_box_field_one (u := .bool (decide (R0 < 0))) 0 rfl (Part.left (Part.refl _)) ?_
    have sQ0 := sQ (-(Q : Int)) (by omega)
    by_cases hneg : R0 < 0
    · obtain ⟨e1, e2⟩ := hsg.1 hneg
      have had := fun u u' => rAddZ u u' R0 ((y.natAbs : Nat) : Int) E sR0 sY hE
      rw [← e2] at had
      rw [decide_eq_true hneg]
      refine draw_rule [0, 1, 2, 3, 4] [0, 1, 2, 3, 4] (by kernel_rfl) (by kernel_rfl) ?_
      refine load_box (d := zd R0) 0 rfl hr2 rfl (load_I _ _) fun y1 => ?_
      refine load_box (d := zd y) 4 rfl hq rfl (load_I _ _) fun y2 => ?_
      refine call_fn (hab y2) (Seals.refl _ _) qS ?_
      rintro y3 _ _ ⟨rfl, rfl⟩
      refine call_fn (had y1 y3) (Seals.refl _ _) qS ?_
      rintro y4 _ _ ⟨rfl, rfl⟩
      refine store_box (d := zd (x % y)) 0 rfl hr2 rfl (by kernel_rfl) ?_ ?_; exact Reads.fact qM
      refine field_box 4 rfl hq ?_
      refine load_box_field_one (u := .bool (decide (y < 0))) 4 rfl (Part.left (Part.refl _)) ?_
      by_cases hy0 : y < 0
      · rw [if_pos hy0] at e1
        have ha2 := fun u u' => rAddZ u u' (-(Q : Int)) 1 E sQ0 one hE
        rw [← e1] at ha2
        rw [decide_eq_true hy0]
        refine draw_rule [0, 1, 2, 3] [0, 1, 2, 3] (by kernel_rfl) (by kernel_rfl) ?_
        refine load_box (d := zd (-(Q : Int))) 1 rfl hq2 rfl (load_I _ _) fun y5 => ?_
        refine call_fn (rOf_meets 1 (by decide) (by decide)) (Seals.refl _ _) qS ?_
        rintro y6 _ _ ⟨rfl, rfl⟩
        refine call_fn (ha2 y5 y6) (Seals.refl _ _) qS ?_
        rintro y7 _ _ ⟨rfl, rfl⟩
        refine store_box (d := zd (x / y)) 1 rfl hq2 rfl (by kernel_rfl) ?_ ?_; exact Reads.fact qM
        refine draw_ord [0, 2, 1, 3, 4] (by kernel_rfl) ?_
        refine ord_split 1 2 (by kernel_rfl) (by kernel_rfl) (by kernel_rfl) ?_ ?_
        · refine ord_go [0, 1, 2, 3, 4] (by kernel_rfl) (by kernel_rfl) ?_
          refine load_box (d := zd (x / y)) 1 rfl hq2 rfl (load_I _ _) fun t1 => ?_
          refine load_box (d := zd (x % y)) 0 rfl hr2 rfl (load_I _ _) fun t2 => ?_
          refine store_box (d := zd (x / y)) 3 rfl ho rfl (by kernel_rfl) ?_ ?_; exact Reads.fact qM
          refine store_box (d := zd (x % y)) 2 rfl ho2 rfl (by kernel_rfl) ?_ ?_; exact Reads.fact qM
          refine load_box (d := zd (x / y)) 3 rfl ho rfl (load_I _ _) fun r1 => ?_
          refine load_box (d := zd (x % y)) 2 rfl ho2 rfl (load_I _ _) fun r2' => ?_
          exact fin ⟨rfl, r1, r2', rfl, rfl⟩ (Seals.trans (Seals.drop 0 _ _) (Seals.trans (Seals.drop 0 _ _) (Seals.trans (Seals.drop 0 _ _) (Seals.trans (Seals.drop 0 _ _) (Seals.trans (Seals.drop 0 _ _) (Seals.trans (Seals.drop 0 _ _) (Seals.sub (fs' := [(r1, zd (x / y)), (r2', zd (x % y))]) qS)))))))
        · refine ord_go [0, 2, 1, 3, 4] (by kernel_rfl) (by kernel_rfl) ?_
          refine load_box (d := zd (x / y)) 1 rfl hq2 rfl (load_I _ _) fun t1 => ?_
          refine store_box (d := zd (x / y)) 3 rfl ho rfl (by kernel_rfl) ?_ ?_; exact Reads.fact qM
          refine load_box (d := zd (x % y)) 0 rfl hr2 rfl (load_I _ _) fun t2 => ?_
          refine store_box (d := zd (x % y)) 2 rfl ho2 rfl (by kernel_rfl) ?_ ?_; exact Reads.fact qM
          refine load_box (d := zd (x / y)) 3 rfl ho rfl (load_I _ _) fun r1 => ?_
          refine load_box (d := zd (x % y)) 2 rfl ho2 rfl (load_I _ _) fun r2' => ?_
          exact fin ⟨rfl, r1, r2', rfl, rfl⟩ (Seals.trans (Seals.drop 0 _ _) (Seals.trans (Seals.drop 0 _ _) (Seals.trans (Seals.drop 0 _ _) (Seals.trans (Seals.drop 0 _ _) (Seals.trans (Seals.drop 0 _ _) (Seals.trans (Seals.drop 0 _ _) (Seals.sub (fs' := [(r1, zd (x / y)), (r2', zd (x % y))]) qS)))))))
      · rw [if_neg hy0] at e1
        have ha2 := fun u u' => rSubZ u u' (-(Q : Int)) 1 E sQ0 one hE
        rw [← e1] at ha2
        rw [decide_eq_false hy0]
        refine draw_rule [0, 1, 2, 3] [0, 1, 2, 3] (by kernel_rfl) (by kernel_rfl) ?_
        refine load_box (d := zd (-(Q : Int))) 1 rfl hq2 rfl (load_I _ _) fun y5 => ?_
        refine call_fn (rOf_meets 1 (by decide) (by decide)) (Seals.refl _ _) qS ?_
        rintro y6 _ _ ⟨rfl, rfl⟩
        refine call_fn (ha2 y5 y6) (Seals.refl _ _) qS ?_
        rintro y7 _ _ ⟨rfl, rfl⟩
        refine store_box (d := zd (x / y)) 1 rfl hq2 rfl (by kernel_rfl) ?_ ?_; exact Reads.fact qM
        refine draw_ord [0, 2, 1, 3, 4] (by kernel_rfl) ?_
        refine ord_split 1 2 (by kernel_rfl) (by kernel_rfl) (by kernel_rfl) ?_ ?_
        · refine ord_go [0, 1, 2, 3, 4] (by kernel_rfl) (by kernel_rfl) ?_
          refine load_box (d := zd (x / y)) 1 rfl hq2 rfl (load_I _ _) fun t1 => ?_
          refine load_box (d := zd (x % y)) 0 rfl hr2 rfl (load_I _ _) fun t2 => ?_
          refine store_box (d := zd (x / y)) 3 rfl ho rfl (by kernel_rfl) ?_ ?_; exact Reads.fact qM
          refine store_box (d := zd (x % y)) 2 rfl ho2 rfl (by kernel_rfl) ?_ ?_; exact Reads.fact qM
          refine load_box (d := zd (x / y)) 3 rfl ho rfl (load_I _ _) fun r1 => ?_
          refine load_box (d := zd (x % y)) 2 rfl ho2 rfl (load_I _ _) fun r2' => ?_
          exact fin ⟨rfl, r1, r2', rfl, rfl⟩ (Seals.trans (Seals.drop 0 _ _) (Seals.trans (Seals.drop 0 _ _) (Seals.trans (Seals.drop 0 _ _) (Seals.trans (Seals.drop 0 _ _) (Seals.trans (Seals.drop 0 _ _) (Seals.trans (Seals.drop 0 _ _) (Seals.sub (fs' := [(r1, zd (x / y)), (r2', zd (x % y))]) qS)))))))
        · refine ord_go [0, 2, 1, 3, 4] (by kernel_rfl) (by kernel_rfl) ?_
          refine load_box (d := zd (x / y)) 1 rfl hq2 rfl (load_I _ _) fun t1 => ?_
          refine store_box (d := zd (x / y)) 3 rfl ho rfl (by kernel_rfl) ?_ ?_; exact Reads.fact qM
          refine load_box (d := zd (x % y)) 0 rfl hr2 rfl (load_I _ _) fun t2 => ?_
          refine store_box (d := zd (x % y)) 2 rfl ho2 rfl (by kernel_rfl) ?_ ?_; exact Reads.fact qM
          refine load_box (d := zd (x / y)) 3 rfl ho rfl (load_I _ _) fun r1 => ?_
          refine load_box (d := zd (x % y)) 2 rfl ho2 rfl (load_I _ _) fun r2' => ?_
          exact fin ⟨rfl, r1, r2', rfl, rfl⟩ (Seals.trans (Seals.drop 0 _ _) (Seals.trans (Seals.drop 0 _ _) (Seals.trans (Seals.drop 0 _ _) (Seals.trans (Seals.drop 0 _ _) (Seals.trans (Seals.drop 0 _ _) (Seals.trans (Seals.drop 0 _ _) (Seals.sub (fs' := [(r1, zd (x / y)), (r2', zd (x % y))]) qS)))))))
    · obtain ⟨e1, e2⟩ := hsg.2 hneg
      rw [decide_eq_false hneg]
      rw [← e1, ← e2]
      refine draw_ord [0, 2, 1, 3, 4] (by kernel_rfl) ?_
      refine ord_split 1 2 (by kernel_rfl) (by kernel_rfl) (by kernel_rfl) ?_ ?_
      · refine ord_go [0, 1, 2, 3, 4] (by kernel_rfl) (by kernel_rfl) ?_
        refine load_box (d := zd (x / y)) 1 rfl hq2 rfl (load_I _ _) fun t1 => ?_
        refine load_box (d := zd (x % y)) 0 rfl hr2 rfl (load_I _ _) fun t2 => ?_
        refine store_box (d := zd (x / y)) 3 rfl ho rfl (by kernel_rfl) ?_ ?_; exact Reads.fact qM
        refine store_box (d := zd (x % y)) 2 rfl ho2 rfl (by kernel_rfl) ?_ ?_; exact Reads.fact qM
        refine load_box (d := zd (x / y)) 3 rfl ho rfl (load_I _ _) fun r1 => ?_
        refine load_box (d := zd (x % y)) 2 rfl ho2 rfl (load_I _ _) fun r2' => ?_
        exact fin ⟨rfl, r1, r2', rfl, rfl⟩ (Seals.trans (Seals.drop 0 _ _) (Seals.trans (Seals.drop 0 _ _) (Seals.trans (Seals.drop 0 _ _) (Seals.trans (Seals.drop 0 _ _) (Seals.trans (Seals.drop 0 _ _) (Seals.trans (Seals.drop 0 _ _) (Seals.sub (fs' := [(r1, zd (x / y)), (r2', zd (x % y))]) qS)))))))
      · refine ord_go [0, 2, 1, 3, 4] (by kernel_rfl) (by kernel_rfl) ?_
        refine load_box (d := zd (x / y)) 1 rfl hq2 rfl (load_I _ _) fun t1 => ?_
        refine store_box (d := zd (x / y)) 3 rfl ho rfl (by kernel_rfl) ?_ ?_; exact Reads.fact qM
        refine load_box (d := zd (x % y)) 0 rfl hr2 rfl (load_I _ _) fun t2 => ?_
        refine store_box (d := zd (x % y)) 2 rfl ho2 rfl (by kernel_rfl) ?_ ?_; exact Reads.fact qM
        refine load_box (d := zd (x / y)) 3 rfl ho rfl (load_I _ _) fun r1 => ?_
        refine load_box (d := zd (x % y)) 2 rfl ho2 rfl (load_I _ _) fun r2' => ?_
        exact fin ⟨rfl, r1, r2', rfl, rfl⟩ (Seals.trans (Seals.drop 0 _ _) (Seals.trans (Seals.drop 0 _ _) (Seals.trans (Seals.drop 0 _ _) (Seals.trans (Seals.drop 0 _ _) (Seals.trans (Seals.drop 0 _ _) (Seals.trans (Seals.drop 0 _ _) (Seals.sub (fs' := [(r1, zd (x / y)), (r2', zd (x % y))]) qS)))))))
  · rw [if_pos hc] at hsg
    refine call_fn (rMake_of z1 false Q (Q : Int) lQ rfl) (Seals.refl _ _) qS ?_
    rintro m1 _ _ ⟨rfl, rfl⟩
    refine alloc_rule (d := I false []) fun q2 hq2 => ?_
    refine store_box (d := zd (Q : Int)) 0 rfl hq2 rfl (by kernel_rfl) ?_ ?_; exact Reads.fact qM
    refine field_box 4 rfl hp ?_
    refine load_box_field_one (u := .bool (decide (x < 0))) 4 rfl (Part.left (Part.refl _)) ?_
    refine call_fn (rMake_of z2 (decide (x < 0)) R R0 lR hR0e) (Seals.refl _ _) qS ?_
    rintro m2 _ _ ⟨rfl, rfl⟩
    refine alloc_rule (d := I false []) fun r2 hr2 => ?_
    refine store_box (d := zd R0) 0 rfl hr2 rfl (by kernel_rfl) ?_ ?_; exact Reads.fact qM
    refine field_box 0 rfl hr2 ?_
    refine load_box_field_one (u := .bool (decide (R0 < 0))) 0 rfl (Part.left (Part.refl _)) ?_
    have sQ0 := sQ (Q : Int) (by omega)
    by_cases hneg : R0 < 0
    · obtain ⟨e1, e2⟩ := hsg.1 hneg
      have had := fun u u' => rAddZ u u' R0 ((y.natAbs : Nat) : Int) E sR0 sY hE
      rw [← e2] at had
      rw [decide_eq_true hneg]
      refine draw_rule [0, 1, 2, 3, 4] [0, 1, 2, 3, 4] (by kernel_rfl) (by kernel_rfl) ?_
      refine load_box (d := zd R0) 0 rfl hr2 rfl (load_I _ _) fun y1 => ?_
      refine load_box (d := zd y) 4 rfl hq rfl (load_I _ _) fun y2 => ?_
      refine call_fn (hab y2) (Seals.refl _ _) qS ?_
      rintro y3 _ _ ⟨rfl, rfl⟩
      refine call_fn (had y1 y3) (Seals.refl _ _) qS ?_
      rintro y4 _ _ ⟨rfl, rfl⟩
      refine store_box (d := zd (x % y)) 0 rfl hr2 rfl (by kernel_rfl) ?_ ?_; exact Reads.fact qM
      refine field_box 4 rfl hq ?_
      refine load_box_field_one (u := .bool (decide (y < 0))) 4 rfl (Part.left (Part.refl _)) ?_
      by_cases hy0 : y < 0
      · rw [if_pos hy0] at e1
        have ha2 := fun u u' => rAddZ u u' (Q : Int) 1 E sQ0 one hE
        rw [← e1] at ha2
        rw [decide_eq_true hy0]
        refine draw_rule [0, 1, 2, 3] [0, 1, 2, 3] (by kernel_rfl) (by kernel_rfl) ?_
        refine load_box (d := zd (Q : Int)) 1 rfl hq2 rfl (load_I _ _) fun y5 => ?_
        refine call_fn (rOf_meets 1 (by decide) (by decide)) (Seals.refl _ _) qS ?_
        rintro y6 _ _ ⟨rfl, rfl⟩
        refine call_fn (ha2 y5 y6) (Seals.refl _ _) qS ?_
        rintro y7 _ _ ⟨rfl, rfl⟩
        refine store_box (d := zd (x / y)) 1 rfl hq2 rfl (by kernel_rfl) ?_ ?_; exact Reads.fact qM
        refine draw_ord [0, 2, 1, 3, 4] (by kernel_rfl) ?_
        refine ord_split 1 2 (by kernel_rfl) (by kernel_rfl) (by kernel_rfl) ?_ ?_
        · refine ord_go [0, 1, 2, 3, 4] (by kernel_rfl) (by kernel_rfl) ?_
          refine load_box (d := zd (x / y)) 1 rfl hq2 rfl (load_I _ _) fun t1 => ?_
          refine load_box (d := zd (x % y)) 0 rfl hr2 rfl (load_I _ _) fun t2 => ?_
          refine store_box (d := zd (x / y)) 3 rfl ho rfl (by kernel_rfl) ?_ ?_; exact Reads.fact qM
          refine store_box (d := zd (x % y)) 2 rfl ho2 rfl (by kernel_rfl) ?_ ?_; exact Reads.fact qM
          refine load_box (d := zd (x / y)) 3 rfl ho rfl (load_I _ _) fun r1 => ?_
          refine load_box (d := zd (x % y)) 2 rfl ho2 rfl (load_I _ _) fun r2' => ?_
          exact fin ⟨rfl, r1, r2', rfl, rfl⟩ (Seals.trans (Seals.drop 0 _ _) (Seals.trans (Seals.drop 0 _ _) (Seals.trans (Seals.drop 0 _ _) (Seals.trans (Seals.drop 0 _ _) (Seals.trans (Seals.drop 0 _ _) (Seals.trans (Seals.drop 0 _ _) (Seals.sub (fs' := [(r1, zd (x / y)), (r2', zd (x % y))]) qS)))))))
        · refine ord_go [0, 2, 1, 3, 4] (by kernel_rfl) (by kernel_rfl) ?_
          refine load_box (d := zd (x / y)) 1 rfl hq2 rfl (load_I _ _) fun t1 => ?_
          refine store_box (d := zd (x / y)) 3 rfl ho rfl (by kernel_rfl) ?_ ?_; exact Reads.fact qM
          refine load_box (d := zd (x % y)) 0 rfl hr2 rfl (load_I _ _) fun t2 => ?_
          refine store_box (d := zd (x % y)) 2 rfl ho2 rfl (by kernel_rfl) ?_ ?_; exact Reads.fact qM
          refine load_box (d := zd (x / y)) 3 rfl ho rfl (load_I _ _) fun r1 => ?_
          refine load_box (d := zd (x % y)) 2 rfl ho2 rfl (load_I _ _) fun r2' => ?_
          exact fin ⟨rfl, r1, r2', rfl, rfl⟩ (Seals.trans (Seals.drop 0 _ _) (Seals.trans (Seals.drop 0 _ _) (Seals.trans (Seals.drop 0 _ _) (Seals.trans (Seals.drop 0 _ _) (Seals.trans (Seals.drop 0 _ _) (Seals.trans (Seals.drop 0 _ _) (Seals.sub (fs' := [(r1, zd (x / y)), (r2', zd (x % y))]) qS)))))))
      · rw [if_neg hy0] at e1
        have ha2 := fun u u' => rSubZ u u' (Q : Int) 1 E sQ0 one hE
        rw [← e1] at ha2
        rw [decide_eq_false hy0]
        refine draw_rule [0, 1, 2, 3] [0, 1, 2, 3] (by kernel_rfl) (by kernel_rfl) ?_
        refine load_box (d := zd (Q : Int)) 1 rfl hq2 rfl (load_I _ _) fun y5 => ?_
        refine call_fn (rOf_meets 1 (by decide) (by decide)) (Seals.refl _ _) qS ?_
        rintro y6 _ _ ⟨rfl, rfl⟩
        refine call_fn (ha2 y5 y6) (Seals.refl _ _) qS ?_
        rintro y7 _ _ ⟨rfl, rfl⟩
        refine store_box (d := zd (x / y)) 1 rfl hq2 rfl (by kernel_rfl) ?_ ?_; exact Reads.fact qM
        refine draw_ord [0, 2, 1, 3, 4] (by kernel_rfl) ?_
        refine ord_split 1 2 (by kernel_rfl) (by kernel_rfl) (by kernel_rfl) ?_ ?_
        · refine ord_go [0, 1, 2, 3, 4] (by kernel_rfl) (by kernel_rfl) ?_
          refine load_box (d := zd (x / y)) 1 rfl hq2 rfl (load_I _ _) fun t1 => ?_
          refine load_box (d := zd (x % y)) 0 rfl hr2 rfl (load_I _ _) fun t2 => ?_
          refine store_box (d := zd (x / y)) 3 rfl ho rfl (by kernel_rfl) ?_ ?_; exact Reads.fact qM
          refine store_box (d := zd (x % y)) 2 rfl ho2 rfl (by kernel_rfl) ?_ ?_; exact Reads.fact qM
          refine load_box (d := zd (x / y)) 3 rfl ho rfl (load_I _ _) fun r1 => ?_
          refine load_box (d := zd (x % y)) 2 rfl ho2 rfl (load_I _ _) fun r2' => ?_
          exact fin ⟨rfl, r1, r2', rfl, rfl⟩ (Seals.trans (Seals.drop 0 _ _) (Seals.trans (Seals.drop 0 _ _) (Seals.trans (Seals.drop 0 _ _) (Seals.trans (Seals.drop 0 _ _) (Seals.trans (Seals.drop 0 _ _) (Seals.trans (Seals.drop 0 _ _) (Seals.sub (fs' := [(r1, zd (x / y)), (r2', zd (x % y))]) qS)))))))
        · refine ord_go [0, 2, 1, 3, 4] (by kernel_rfl) (by kernel_rfl) ?_
          refine load_box (d := zd (x / y)) 1 rfl hq2 rfl (load_I _ _) fun t1 => ?_
          refine store_box (d := zd (x / y)) 3 rfl ho rfl (by kernel_rfl) ?_ ?_; exact Reads.fact qM
          refine load_box (d := zd (x % y)) 0 rfl hr2 rfl (load_I _ _) fun t2 => ?_
          refine store_box (d := zd (x % y)) 2 rfl ho2 rfl (by kernel_rfl) ?_ ?_; exact Reads.fact qM
          refine load_box (d := zd (x / y)) 3 rfl ho rfl (load_I _ _) fun r1 => ?_
          refine load_box (d := zd (x % y)) 2 rfl ho2 rfl (load_I _ _) fun r2' => ?_
          exact fin ⟨rfl, r1, r2', rfl, rfl⟩ (Seals.trans (Seals.drop 0 _ _) (Seals.trans (Seals.drop 0 _ _) (Seals.trans (Seals.drop 0 _ _) (Seals.trans (Seals.drop 0 _ _) (Seals.trans (Seals.drop 0 _ _) (Seals.trans (Seals.drop 0 _ _) (Seals.sub (fs' := [(r1, zd (x / y)), (r2', zd (x % y))]) qS)))))))
    · obtain ⟨e1, e2⟩ := hsg.2 hneg
      rw [decide_eq_false hneg]
      rw [← e1, ← e2]
      refine draw_ord [0, 2, 1, 3, 4] (by kernel_rfl) ?_
      refine ord_split 1 2 (by kernel_rfl) (by kernel_rfl) (by kernel_rfl) ?_ ?_
      · refine ord_go [0, 1, 2, 3, 4] (by kernel_rfl) (by kernel_rfl) ?_
        refine load_box (d := zd (x / y)) 1 rfl hq2 rfl (load_I _ _) fun t1 => ?_
        refine load_box (d := zd (x % y)) 0 rfl hr2 rfl (load_I _ _) fun t2 => ?_
        refine store_box (d := zd (x / y)) 3 rfl ho rfl (by kernel_rfl) ?_ ?_; exact Reads.fact qM
        refine store_box (d := zd (x % y)) 2 rfl ho2 rfl (by kernel_rfl) ?_ ?_; exact Reads.fact qM
        refine load_box (d := zd (x / y)) 3 rfl ho rfl (load_I _ _) fun r1 => ?_
        refine load_box (d := zd (x % y)) 2 rfl ho2 rfl (load_I _ _) fun r2' => ?_
        exact fin ⟨rfl, r1, r2', rfl, rfl⟩ (Seals.trans (Seals.drop 0 _ _) (Seals.trans (Seals.drop 0 _ _) (Seals.trans (Seals.drop 0 _ _) (Seals.trans (Seals.drop 0 _ _) (Seals.trans (Seals.drop 0 _ _) (Seals.trans (Seals.drop 0 _ _) (Seals.sub (fs' := [(r1, zd (x / y)), (r2', zd (x % y))]) qS)))))))
      · refine ord_go [0, 2, 1, 3, 4] (by kernel_rfl) (by kernel_rfl) ?_
        refine load_box (d := zd (x / y)) 1 rfl hq2 rfl (load_I _ _) fun t1 => ?_
        refine store_box (d := zd (x / y)) 3 rfl ho rfl (by kernel_rfl) ?_ ?_; exact Reads.fact qM
        refine load_box (d := zd (x % y)) 0 rfl hr2 rfl (load_I _ _) fun t2 => ?_
        refine store_box (d := zd (x % y)) 2 rfl ho2 rfl (by kernel_rfl) ?_ ?_; exact Reads.fact qM
        refine load_box (d := zd (x / y)) 3 rfl ho rfl (load_I _ _) fun r1 => ?_
        refine load_box (d := zd (x % y)) 2 rfl ho2 rfl (load_I _ _) fun r2' => ?_
        exact fin ⟨rfl, r1, r2', rfl, rfl⟩ (Seals.trans (Seals.drop 0 _ _) (Seals.trans (Seals.drop 0 _ _) (Seals.trans (Seals.drop 0 _ _) (Seals.trans (Seals.drop 0 _ _) (Seals.trans (Seals.drop 0 _ _) (Seals.trans (Seals.drop 0 _ _) (Seals.sub (fs' := [(r1, zd (x / y)), (r2', zd (x % y))]) qS)))))))
theorem rDivModJZ (v w : Value) (x : Bool × List Nat) (y : Int) (e : Nat) (hx : Lim x.2) (lx : x.2.length ≤ 34359738368) (hy : sz y e) (he : e ≤ 34359738368) (h0 : y ≠ 0) :
    Meets Tryz.prog 58 [v, w] [(v, J x), (w, zd y)] (fun r os fs => os = [] ∧ ∃ q m, r = .tuple #[q, m, .bool true] ∧ fs = [(q, zd (jv x / y)), (m, zd (jv x % y))]) := by
  have h := rZDivMod_meets v w x.1 (decide (y < 0)) x.2 (lims y.natAbs) hx (Lim_lims _) lx (Nat.le_trans hy.len he) (by rw [iv_zd]; exact h0)
  rw [iv_zd] at h
  exact h
theorem rDivModZ (v w : Value) (x y : Int) (e : Nat) (hx : sz x e) (hy : sz y e) (he : e ≤ 34359738368) (h0 : y ≠ 0) :
    Meets Tryz.prog 58 [v, w] [(v, zd x), (w, zd y)] (fun r os fs => os = [] ∧ ∃ q m, r = .tuple #[q, m, .bool true] ∧ fs = [(q, zd (x / y)), (m, zd (x % y))]) := by
  have h := rDivModJZ v w (cn x) y e (Lim_lims _) (Nat.le_trans hx.len he) hy he h0
  rw [jv_cn] at h
  exact h
open Go.RowKit
theorem rGcdN_meets (va vb : Value) (a b : List Nat) (ha : Lim a) (hb : Lim b) (la : a.length ≤ 274877906944) (lb : b.length ≤ 274877906944) :
    Meets Tryz.prog 120 [va, vb] [(va, U a), (vb, U b)] (fun r os fs => os = [] ∧ fs = [(r, U (lims (Nat.gcd (nv a) (nv b))))]) := by
  refine meets_of_vc Tryz.func120 (by kernel_rfl) rfl (by kernel_rfl) (Nat.le_of_ble_eq_true rfl) ?_
  refine call_fn (rNorm_meets va a ha (by omega)) (Seals.refl _ _) qS ?_
  rintro x _ _ ⟨rfl, rfl⟩
  refine call_fn (rNorm_meets vb b hb (by omega)) (Seals.refl _ _) qS ?_
  rintro y _ _ ⟨rfl, rfl⟩
  have hal := lims_length_le (nv_lt ha)
  have hbl := lims_length_le (nv_lt hb)
  refine loop_rule (X := (Value × Nat) × (Value × Nat)) (fun x => ([(0, x.1.1), (1, x.2.1)], [], [(x.1.1, U (lims x.1.2)), (x.2.1, U (lims x.2.2))]))
    (fun x => (lims x.1.2).length ≤ 274877906944 ∧ (lims x.2.2).length ≤ 274877906944 ∧ Nat.gcd x.1.2 x.2.2 = Nat.gcd (nv a) (nv b)) (fun x => x.2.2) rfl ?_ ?_
  · exact again ((x, nv a), (y, nv b)) ⟨by simp only; omega, by simp only; omega, rfl⟩ trivial qF (Seals.sub qS)
  · rintro ⟨⟨x, n⟩, ⟨y, d⟩⟩ ⟨h1, h2, h3⟩
    simp only at h1 h2 h3 ⊢
    refine len_fact qM fun _ => ?_
    refine cmp_split _ rfl (fun hc => ?_) (fun hc => ?_)
    · have hd : d ≠ 0 := fun e => by rw [e, lims_zero] at hc; simp at hc
      refine call_fn (rDivMod_meets x y (lims n) (lims d) (Lim_lims _) (Lim_lims _) h1 h2 (by rwa [nv_lims])) (Seals.refl _ _) qS ?_
      rintro _ _ _ ⟨rfl, q, r, rfl, rfl⟩
      have hm := Nat.mod_lt n (Nat.pos_of_ne_zero hd)
      refine again ((y, d), (r, n % d)) ⟨h2, ?_, ?_⟩ hm qF (Seals.cons (Knw.fact qM) (Seals.cons ((Knw.fact qM).cast ?_) (Seals.nil _ _)))
      · have hb := lims_length_le (Nat.lt_trans hm (by have := nv_lt (Lim_lims d); rwa [nv_lims] at this))
        simp only; omega
      · simp only; rw [Nat.gcd_comm, ← Nat.gcd_rec, Nat.gcd_comm]; exact h3
      · rw [nv_lims, nv_lims]
    · have hd : d = 0 := by
        have : (lims d).length = 0 := by omega
        exact lims_eq_nil.1 (List.eq_nil_of_length_eq_zero this)
      subst hd
      refine fin ⟨rfl, rfl⟩ (Seals.cons ((Knw.fact qM).cast ?_) (Seals.nil _ _))
      rw [← h3, Nat.gcd_zero_right]
theorem rGcdJ (v w : Value) (x y : Bool × List Nat) (hx : Lim x.2) (lx : x.2.length ≤ 137438953472) (hy : Lim y.2) (ly : y.2.length ≤ 137438953472) :
    Meets Tryz.prog 100 [v, w] [(v, J x), (w, J y)] (fun r os fs => os = [] ∧ fs = [(r, zd (Nat.gcd (jv x).natAbs (jv y).natAbs : Nat))]) := by
  rw [jv_abs, jv_abs]
  obtain ⟨s, a⟩ := x
  obtain ⟨t, b⟩ := y
  simp only at hx lx hy ly ⊢
  have hg := fun u u' => rGcdN_meets u u' a b hx hy (by omega) (by omega)
  have hl : (lims (Nat.gcd (nv a) (nv b))).length ≤ 1099511627776 := by
    by_cases h0 : nv a = 0
    · rw [h0, Nat.gcd_zero_left]
      exact Nat.le_trans (lims_length_le (nv_lt hy)) (by omega)
    · exact Nat.le_trans (lims_length_le (Nat.lt_of_le_of_lt (Nat.gcd_le_left _ (Nat.pos_of_ne_zero h0)) (nv_lt hx))) (by omega)
  have hm := fun u => rMake_meets u false (lims (Nat.gcd (nv a) (nv b))) (Lim_lims _) hl
  have e : iv false (lims (Nat.gcd (nv a) (nv b))) = (Nat.gcd (nv a) (nv b) : Nat) := by unfold iv; rw [nv_lims]; rfl
  rw [e] at hm
  generalize Nat.gcd (nv a) (nv b) = g at *
  refine meets_of_vc Tryz.func100 (by kernel_rfl) rfl (by kernel_rfl) (Nat.le_of_ble_eq_true rfl) ?_
  refine box_rule (Reads.fact (d := I s a) qM) fun p hp => ?_
  refine box_rule (Reads.fact (d := I t b) qM) fun q hq => ?_
  refine alloc_rule (d := I false []) fun o ho => ?_
  refine field_box 2 rfl hp ?_
  refine load_box_field 2 rfl (Part.right (Part.refl _)) (load_L _) fun u1 => ?_
  refine field_box 1 rfl hq ?_
  refine load_box_field 1 rfl (Part.right (Part.refl _)) (load_L _) fun u2 => ?_
  refine call_fn (hg u1 u2) (Seals.refl _ _) qS ?_
  rintro u3 _ _ ⟨rfl, rfl⟩
  refine call_fn (hm u3) (Seals.refl _ _) qS ?_
  rintro r0 _ _ ⟨rfl, rfl⟩
  refine store_box (d := zd (g : Nat)) 0 rfl ho rfl (by kernel_rfl) ?_ ?_; exact Reads.fact qM
  refine load_box (d := zd (g : Nat)) 0 rfl ho rfl (load_I _ _) fun r => ?_
  exact fin ⟨rfl, rfl⟩ (Seals.trans (Seals.drop 0 _ _) (Seals.trans (Seals.drop 0 _ _) (Seals.trans (Seals.drop 0 _ _) (Seals.sub qS))))
theorem rGcdZ (v w : Value) (x y : Int) (a b : Nat) (hx : sz x a) (hy : sz y b) (ha : a ≤ 137438953472) (hb : b ≤ 137438953472) :
    Meets Tryz.prog 100 [v, w] [(v, zd x), (w, zd y)] (fun r os fs => os = [] ∧ fs = [(r, zd (Nat.gcd x.natAbs y.natAbs : Nat))]) := by
  have h := rGcdJ v w (cn x) (cn y) (Lim_lims _) (Nat.le_trans hx.len ha) (Lim_lims _) (Nat.le_trans hy.len hb)
  rw [jv_cn, jv_cn] at h
  exact h
end Go.Proofs.YtabdfhdddmbmlaaGreat
namespace Go.Proofs.YtabdfhdddmbmlaaGreat
def frn (a b : Int) : Int := (if b < 0 then - a else a) / (Int.gcd a b : Int)
def frd (a b : Int) : Int := (if b < 0 then - b else b) / (Int.gcd a b : Int)
theorem fr_parts {a b : Int} (hb : b ≠ 0) : ∃ g : Int, 0 < g ∧ (if b < 0 then - a else a) = g * frn a b ∧ (if b < 0 then - b else b) = g * frd a b ∧ 0 < frd a b ∧ Int.gcd (frn a b) (frd a b) = 1 := by
  have hg : 0 < Int.gcd a b := Int.gcd_pos_of_ne_zero_right a hb
  have d1 : (Int.gcd a b : Int) ∣ (if b < 0 then - a else a) := by
    split
    · exact Int.dvd_neg.2 (Int.gcd_dvd_left ..)
    · exact Int.gcd_dvd_left ..
  have d2 : (Int.gcd a b : Int) ∣ (if b < 0 then - b else b) := by
    split
    · exact Int.dvd_neg.2 (Int.gcd_dvd_right ..)
    · exact Int.gcd_dvd_right ..
  have e1 : (if b < 0 then - a else a) = (Int.gcd a b : Int) * frn a b := (Int.mul_ediv_cancel' d1).symm
  have e2 : (if b < 0 then - b else b) = (Int.gcd a b : Int) * frd a b := (Int.mul_ediv_cancel' d2).symm
  have e3 : Int.gcd (if b < 0 then - a else a) (if b < 0 then - b else b) = Int.gcd a b := by
    split
    · rw [Int.neg_gcd, Int.gcd_neg]
    · rfl
  have hgp : (0 : Int) < (Int.gcd a b : Int) := by omega
  refine ⟨Int.gcd a b, hgp, e1, e2, ?_, ?_⟩
  · have hb' : 0 < (if b < 0 then - b else b) := by split <;> omega
    rw [e2] at hb'
    rcases Int.lt_trichotomy (frd a b) 0 with h | h | h
    · have := Int.mul_neg_of_pos_of_neg hgp h; omega
    · rw [h, Int.mul_zero] at hb'; omega
    · exact h
  · rw [e1, e2, Int.gcd_mul_left] at e3
    have : (Int.gcd a b : Int).natAbs * Int.gcd (frn a b) (frd a b) = Int.gcd a b * 1 := by rw [e3, Nat.mul_one]
    rw [Int.natAbs_natCast] at this
    exact Nat.eq_of_mul_eq_mul_left hg this
theorem frd_pos {a b : Int} (hb : b ≠ 0) : 0 < frd a b := (fr_parts hb).choose_spec.2.2.2.1
theorem fr_cross {a b : Int} (hb : b ≠ 0) : frn a b * b = a * frd a b := by
  obtain ⟨g, h1, h2, h3, h4, h5⟩ := fr_parts (a := a) hb
  split at h2
  · rw [if_pos (by assumption)] at h3
    have e1 : a = - (g * frn a b) := by omega
    have e2 : b = - (g * frd a b) := by omega
    generalize frn a b = x at *
    generalize frd a b = y at *
    rw [e1, e2]; grind
  · rw [if_neg (by assumption)] at h3
    generalize frn a b = x at *
    generalize frd a b = y at *
    rw [h2, h3]; grind
theorem cop_eq {x y z w : Int} (hy : 0 < y) (hw : 0 < w) (h1 : Int.gcd x y = 1) (h2 : Int.gcd z w = 1) (e : x * w = z * y) : x = z ∧ y = w := by
  have key : ∀ {x y z w : Int}, Int.gcd x y = 1 → x * w = z * y → y ∣ w := fun {x y z w} h e => by
    refine Int.natAbs_dvd_natAbs.1 (Nat.Coprime.dvd_of_dvd_mul_left (m := x.natAbs) ?_ ?_)
    · rw [Nat.Coprime, Nat.gcd_comm]; exact h
    · rw [← Int.natAbs_mul, e, Int.natAbs_mul]; exact Nat.dvd_mul_left _ _
  have d1 : y ∣ w := key h1 e
  have d2 : w ∣ y := key h2 e.symm
  have hyw : y = w := Int.le_antisymm (Int.le_of_dvd hw d1) (Int.le_of_dvd hy d2)
  refine ⟨?_, hyw⟩
  rw [hyw] at e
  exact Int.eq_of_mul_eq_mul_right (by omega) e
theorem fr_same {a b c d : Int} (hb : b ≠ 0) (hd : d ≠ 0) (e : a * d = c * b) : frn a b = frn c d ∧ frd a b = frd c d := by
  obtain ⟨g, h1, _, _, h4, h5⟩ := fr_parts (a := a) hb
  obtain ⟨g', h1', _, _, h4', h5'⟩ := fr_parts (a := c) hd
  have c1 := fr_cross (a := a) hb
  have c2 := fr_cross (a := c) hd
  refine cop_eq h4 h4' h5 h5' ?_
  have key : frn a b * frd c d * (b * d) = frn c d * frd a b * (b * d) := by
    have k1 : frn a b * frd c d * (b * d) = (frn a b * b) * (frd c d * d) := by grind
    have k2 : frn c d * frd a b * (b * d) = (frn c d * d) * (frd a b * b) := by grind
    rw [k1, k2, c1, c2]
    have k3 : a * frd a b * (frd c d * d) = (a * d) * (frd a b * frd c d) := by grind
    have k4 : c * frd c d * (frd a b * b) = (c * b) * (frd a b * frd c d) := by grind
    rw [k3, k4, e]
  exact Int.eq_of_mul_eq_mul_right (Int.mul_ne_zero hb hd) key
theorem frn_zero {a b : Int} (hb : b ≠ 0) : frn a b = 0 ↔ a = 0 := by
  have c1 := fr_cross (a := a) hb
  have p := frd_pos (a := a) hb
  constructor
  · intro h
    rw [h, Int.zero_mul] at c1
    rcases Int.mul_eq_zero.1 c1.symm with h | h
    · exact h
    · omega
  · intro h
    rw [h, Int.zero_mul] at c1
    rcases Int.mul_eq_zero.1 c1 with h | h
    · rw [← h]; rw [‹a = 0›]
    · exact absurd h hb
theorem rnd_fr {a b : Int} (hb : 0 < b) : rnd (frn a b) (frd a b) = rnd a b := by
  obtain ⟨g, h1, h2, h3, h4, h5⟩ := fr_parts (a := a) (b := b) (by omega)
  rw [if_neg (by omega)] at h2 h3
  generalize frn a b = x at *
  generalize frd a b = y at *
  unfold rnd
  have e1 : 2 * a + b = g * (2 * x + y) := by rw [h2, h3]; grind
  have e2 : 2 * b = g * (2 * y) := by rw [h3]; grind
  rw [e1, e2, Int.mul_ediv_mul_of_pos _ _ h1]
theorem fr_less {a b c d : Int} (hb : b ≠ 0) (hd : d ≠ 0) : frn (frn a b * frd c d - frn c d * frd a b) (frd a b * frd c d) = frn (a * d - c * b) (b * d) ∧ frd (frn a b * frd c d - frn c d * frd a b) (frd a b * frd c d) = frd (a * d - c * b) (b * d) := by
  have p := frd_pos (a := a) hb
  have q := frd_pos (a := c) hd
  have c1 := fr_cross (a := a) hb
  have c2 := fr_cross (a := c) hd
  refine fr_same (Int.mul_ne_zero (by omega) (by omega)) (Int.mul_ne_zero hb hd) ?_
  generalize frn a b = x at *
  generalize frd a b = y at *
  generalize frn c d = z at *
  generalize frd c d = w at *
  have k1 : (x * w - z * y) * (b * d) = (x * b) * (w * d) - (z * d) * (y * b) := by grind
  have k2 : (a * d - c * b) * (y * w) = (a * y) * (w * d) - (c * w) * (y * b) := by grind
  rw [k1, k2, c1, c2]
theorem fr_times {a b c d : Int} (hb : b ≠ 0) (hd : d ≠ 0) : frn (frn a b * frn c d) (frd a b * frd c d) = frn (a * c) (b * d) ∧ frd (frn a b * frn c d) (frd a b * frd c d) = frd (a * c) (b * d) := by
  have p := frd_pos (a := a) hb
  have q := frd_pos (a := c) hd
  have c1 := fr_cross (a := a) hb
  have c2 := fr_cross (a := c) hd
  refine fr_same (Int.mul_ne_zero (by omega) (by omega)) (Int.mul_ne_zero hb hd) ?_
  generalize frn a b = x at *
  generalize frd a b = y at *
  generalize frn c d = z at *
  generalize frd c d = w at *
  have k1 : x * z * (b * d) = (x * b) * (z * d) := by grind
  have k2 : a * c * (y * w) = (a * y) * (c * w) := by grind
  rw [k1, k2, c1, c2]
theorem fr_over {a b c d : Int} (hb : b ≠ 0) (hd : d ≠ 0) (hc : c ≠ 0) : frn (frn a b * frd c d) (frd a b * frn c d) = frn (a * d) (b * c) ∧ frd (frn a b * frd c d) (frd a b * frn c d) = frd (a * d) (b * c) := by
  have p := frd_pos (a := a) hb
  have q := frd_pos (a := c) hd
  have c1 := fr_cross (a := a) hb
  have c2 := fr_cross (a := c) hd
  have hz : frn c d ≠ 0 := fun e => hc ((frn_zero hd).1 e)
  refine fr_same (Int.mul_ne_zero (by omega) hz) (Int.mul_ne_zero hb hc) ?_
  generalize frn a b = x at *
  generalize frd a b = y at *
  generalize frn c d = z at *
  generalize frd c d = w at *
  have k1 : x * w * (b * c) = (x * b) * (c * w) := by grind
  have k2 : a * d * (y * z) = (a * y) * (z * d) := by grind
  rw [k1, k2, c1, c2]
theorem frn_neg {a b : Int} (hb : 0 < b) : frn a b < 0 ↔ a < 0 := by
  have c1 := fr_cross (a := a) (b := b) (by omega)
  have p := frd_pos (a := a) (b := b) (by omega)
  constructor
  · intro h
    have := Int.mul_neg_of_neg_of_pos h hb
    rw [c1] at this
    exact Int.neg_of_mul_neg_of_pos_right this p
  · intro h
    have := Int.mul_neg_of_neg_of_pos h p
    rw [← c1] at this
    exact Int.neg_of_mul_neg_of_pos_right this hb
where
  Int.neg_of_mul_neg_of_pos_right {a b : Int} (h : a * b < 0) (hb : 0 < b) : a < 0 := by
    rcases Int.lt_or_le a 0 with h1 | h1
    · exact h1
    · have := Int.mul_nonneg h1 (Int.le_of_lt hb); omega
open Go.RowKit
class TStr22 (P : Program) (t : TypeId) : Prop where
  und : ∃ fs f0 f1, P.underlying t = some (.struct fs) ∧ fs = #[f0, f1] ∧ f0.offset = 0 ∧ f1.offset = 2 ∧ (P.info? f0.type).map (·.size) = some 2 ∧ (P.info? f1.type).map (·.size) = some 2 ∧
    (∃ d, P.underlying f0.type = some (.struct d)) ∧ ∃ d, P.underlying f1.type = some (.struct d)
  zero : ∃ i z0 z1 z2 z3, P.info? t = some i ∧ i.zero = some (.agg #[z0, z1, z2, z3])
theorem build_run22 {P : Program} {t : TypeId} {a b c d : Value} (ht : TStr22 P t) (w : World) :
    (Instr.build t #[(0, .agg #[a, b]), (1, .agg #[c, d])]).run P w = .ok (.agg #[a, b, c, d]) w := by
  obtain ⟨fs, f0, f1, h1, rfl, h3, h4, h5, h6, _, _⟩ := ht.und
  obtain ⟨i, z0, z1, z2, z3, h7, h8⟩ := ht.zero
  simp [Instr.build, zeroValue, typeInfo, h7, h8, run_underlying h1, run_sizeOf h5, run_sizeOf h6, h3, h4, Instr.fill, Value.cells, Array.zipIdx]
theorem RdC.two {S : Nat → Prop} {w : World} {d1 d2 : Dat} {cs : List Value} (h : RdC S w (.cat d1 d2) cs) (hc : d1.cells + d2.cells = 2) : ∃ x y, cs = [x, y] := by
  have := RdC.length h
  simp only [Dat.cells, hc] at this
  match cs, this with
  | [x, y], _ => exact ⟨x, y, rfl⟩
theorem build22 {P : Program} {t : TypeId} {a b : Value} [ht : TStr22 P t] {d1 d2 d3 d4 : Dat} {os : List Own} {fs : List Fact} {K : Cont} (ha : Knw os fs a (.cat d1 d2)) (hb : Knw os fs b (.cat d3 d4)) (ca : d1.cells + d2.cells = 2) (cb : d3.cells + d4.cells = 2)
    (k : ∀ v, K v os ((v, .cat (.cat d1 d2) (.cat d3 d4)) :: fs)) : BuildK P t [(0, a), (1, b)] os fs K := by
  refine ⟨fun G w hw => ?_⟩
  obtain ⟨c1, a1, rfl⟩ := ha G w hw
  obtain ⟨c2, b1, rfl⟩ := hb G w hw
  obtain ⟨x, y, rfl⟩ := RdC.two a1 ca
  obtain ⟨z, u, rfl⟩ := RdC.two b1 cb
  exact ⟨_, _, fun w' _ => val_run (build_run22 ht w'), k _, hw.put ⟨[x, y, z, u], ⟨[x, y], [z, u], rfl, a1, b1⟩, rfl⟩⟩
theorem field_run22 {P : Program} {t : TypeId} {a b c d : Value} (ht : TStr22 P t) (w : World) :
    (Instr.field t (.agg #[a, b, c, d]) 0).run P w = .ok (.agg #[a, b]) w ∧ (Instr.field t (.agg #[a, b, c, d]) 1).run P w = .ok (.agg #[c, d]) w := by
  obtain ⟨fs, f0, f1, h1, rfl, h3, h4, h5, h6, ⟨d0, h7⟩, ⟨d1, h8⟩⟩ := ht.und
  constructor
  · simp [Instr.field, run_underlying h1, asAgg, part, isAgg, run_underlying h7, run_sizeOf h5, h3]
  · simp [Instr.field, run_underlying h1, asAgg, part, isAgg, run_underlying h8, run_sizeOf h6, h4]
theorem field22 {P : Program} {t : TypeId} {a : Value} [ht : TStr22 P t] {d1 d2 d3 d4 : Dat} {os : List Own} {fs : List Fact} {K : Cont} (ha : (a, .cat (.cat d1 d2) (.cat d3 d4)) ∈ fs) (ca : d1.cells + d2.cells = 2) (cb : d3.cells + d4.cells = 2)
    (k : ∀ v, K v os ((v, .cat d1 d2) :: fs)) : FieldK P t a 0 os fs K := by
  refine ⟨fun G w hw => ?_⟩
  obtain ⟨cs, ⟨c1, c2, rfl, a1, b1⟩, he⟩ := hw.facts _ ha
  obtain ⟨x, y, rfl⟩ := RdC.two a1 ca
  obtain ⟨z, u, rfl⟩ := RdC.two b1 cb
  obtain rfl : a = .agg #[x, y, z, u] := he
  exact ⟨_, _, fun w' _ => val_run (field_run22 ht w').1, k _, hw.put ⟨[x, y], a1, rfl⟩⟩
open Go.RowKit
def fD (p q : Int) : Dat := .cat (zd p) (zd q)
theorem info_fr : (Tryz.prog.info? 59).map (fun i => (i.zero, i.size, i.bytes)) = some (some (.agg #[.bool false, .slice none 0 0, .bool false, .slice none 0 0]), 4, 64) := by kernel_rfl
instance : TStr22 Tryz.prog 59 := ⟨⟨_, _, _, Tryz.underlying59, rfl, rfl, rfl, by kernel_rfl, by kernel_rfl, ⟨_, Tryz.underlying34⟩, ⟨_, Tryz.underlying34⟩⟩, by
  obtain ⟨i, h1, _, _, h4⟩ := info_of info_fr
  exact ⟨i, _, _, _, _, h1, h4⟩⟩
instance : TAgg Tryz.prog 59 4 := ⟨⟨_, Tryz.underlying59⟩, by kernel_rfl⟩
instance : TFld Tryz.prog 59 0 0 := ⟨_, _, Tryz.underlying59, rfl, rfl, 1, by kernel_rfl⟩
instance : TFld Tryz.prog 59 1 2 := ⟨_, _, Tryz.underlying59, rfl, rfl, 1, by kernel_rfl⟩
instance : TEl Tryz.prog 59 4 64 := tel info_fr rfl (by decide)
instance tzFr : TZero Tryz.prog 59 (.cat (I false []) (I false [])) :=
  tzero info_fr fun S w => ⟨[.bool false, .slice none 0 0], [.bool false, .slice none 0 0], rfl, ⟨[.bool false], [.slice none 0 0], rfl, rd_false S w, rd_nil S w 1 _⟩, ⟨[.bool false], [.slice none 0 0], rfl, rd_false S w, rd_nil S w 1 _⟩⟩
theorem load_F (p q : Int) : LoadAs Tryz.prog 59 (fD p q) := (inferInstance : TAgg Tryz.prog 59 4)
theorem r5MulZ (v w : Value) (x y : Int) (a b : Nat) (hx : sz x a) (hy : sz y b) (ha : a ≤ 137438953472) (hb : b ≤ 137438953472) :
    Meets Tryz.prog 62 [v, w] [(v, zd x), (w, zd y)] (fun r os fs => os = [] ∧ fs = [(r, zd (x * y))]) := by
  have h := rMulJ v w (cn x) (cn y) (Lim_lims _) (Nat.le_trans hx.len ha) (Lim_lims _) (Nat.le_trans hy.len hb)
  rw [jv_cn, jv_cn] at h
  exact h
theorem sz_gcd {a b : Int} {k : Nat} (hb : b ≠ 0) (h : sz b k) : sz ((Nat.gcd a.natAbs b.natAbs : Nat) : Int) k := by
  unfold sz at *
  have := Nat.gcd_le_right (m := a.natAbs) (n := b.natAbs) (by omega)
  rw [Int.natAbs_natCast]; omega
theorem fMade_meets (v w : Value) (a b : Int) (k : Nat) (ha : sz a k) (hb : sz b k) (hk : k ≤ 34359738368) (h0 : b ≠ 0) :
    Meets Tryz.prog 65 [v, w] [(v, zd a), (w, zd b)] (fun r os fs => os = [] ∧ fs = [(r, fD (frn a b) (frd a b))]) := by
  have hgz := sz_gcd (a := a) h0 hb
  have hg0 : ((Nat.gcd a.natAbs b.natAbs : Nat) : Int) ≠ 0 := by
    have := Nat.gcd_pos_of_pos_right a.natAbs (show 0 < b.natAbs by omega); omega
  have hsg := fun y => rSign_meets y (cn b).1 (cn b).2 (Lim_lims _) (Nat.le_trans hb.len (by omega))
  have e1 : iv (cn b).1 (cn b).2 = b := jv_cn _
  rw [e1] at hsg
  have hn1 := fun y => rNegZ y a k ha (by omega)
  have hn2 := fun y => rNegZ y b k hb (by omega)
  have key : ∀ a' b' : Int, a'.natAbs = a.natAbs → b'.natAbs = b.natAbs → (∀ y z, Meets Tryz.prog 100 [y, z] [(y, zd a'), (z, zd b')] (fun r os fs => os = [] ∧ fs = [(r, zd (Nat.gcd a.natAbs b.natAbs : Nat))])) ∧
      (∀ y z, Meets Tryz.prog 58 [y, z] [(y, zd a'), (z, zd (Nat.gcd a.natAbs b.natAbs : Nat))] (fun r os fs => os = [] ∧ ∃ q m, r = .tuple #[q, m, .bool true] ∧ fs = [(q, zd (a' / (Nat.gcd a.natAbs b.natAbs : Nat))), (m, zd (a' % (Nat.gcd a.natAbs b.natAbs : Nat)))])) ∧
      (∀ y z, Meets Tryz.prog 58 [y, z] [(y, zd b'), (z, zd (Nat.gcd a.natAbs b.natAbs : Nat))] (fun r os fs => os = [] ∧ ∃ q m, r = .tuple #[q, m, .bool true] ∧ fs = [(q, zd (b' / (Nat.gcd a.natAbs b.natAbs : Nat))), (m, zd (b' % (Nat.gcd a.natAbs b.natAbs : Nat)))])) := fun a' b' e1 e2 => by
    have s1 : sz a' k := by unfold sz at *; rw [e1]; exact ha
    have s2 : sz b' k := by unfold sz at *; rw [e2]; exact hb
    refine ⟨fun y z => ?_, fun y z => rDivModZ y z a' _ k s1 hgz hk hg0, fun y z => rDivModZ y z b' _ k s2 hgz hk hg0⟩
    have := rGcdZ y z a' b' k k s1 s2 (by omega) (by omega)
    rw [e1, e2] at this
    exact this
  refine meets_of_vc Tryz.func65 (by kernel_rfl) rfl (by kernel_rfl) (Nat.le_of_ble_eq_true rfl) ?_
  refine box_rule (Reads.fact (d := zd a) qM) fun p hp => ?_
  refine box_rule (Reads.fact (d := zd b) qM) fun q hq => ?_
  refine alloc_rule (d := .cat (I false []) (I false [])) fun o ho => ?_
  refine load_box (d := zd b) 1 rfl hq rfl (load_I _ _) fun x1 => ?_
  refine call_fn (hsg x1) (Seals.refl _ _) qS ?_
  rintro _ _ _ ⟨rfl, rfl, rfl⟩
  refine cmp_split _ rfl (fun hneg => ?_) (fun hneg => ?_)
  · have hb0 : b < 0 := by
      rcases Int.lt_trichotomy b 0 with h | h | h
      · exact h
      · exact absurd h h0
      · rw [Int.sign_eq_one_of_pos h] at hneg; omega
    obtain ⟨hg, hd1, hd2⟩ := key (-a) (-b) (by omega) (by omega)
    have f1 : frn a b = -a / (Nat.gcd a.natAbs b.natAbs : Nat) := by unfold frn; rw [if_pos hb0]; rfl
    have f2 : frd a b = -b / (Nat.gcd a.natAbs b.natAbs : Nat) := by unfold frd; rw [if_pos hb0]; rfl
    rw [f1, f2]
    clear f1 f2 key
    generalize ((Nat.gcd a.natAbs b.natAbs : Nat) : Int) = G at *
    refine load_box (d := zd a) 2 rfl hp rfl (load_I _ _) fun x2 => ?_
    refine call_fn (hn1 x2) (Seals.refl _ _) qS ?_
    rintro x3 _ _ ⟨rfl, rfl⟩
    refine store_box (d := zd (-a)) 2 rfl hp rfl (by kernel_rfl) (Reads.fact (v := x3) qM) ?_
    refine load_box (d := zd b) 1 rfl hq rfl (load_I _ _) fun x4 => ?_
    refine call_fn (hn2 x4) (Seals.refl _ _) qS ?_
    rintro x5 _ _ ⟨rfl, rfl⟩
    refine store_box (d := zd (-b)) 1 rfl hq rfl (by kernel_rfl) (Reads.fact (v := x5) qM) ?_
    refine load_box (d := zd (-a)) 2 rfl hp rfl (load_I _ _) fun y1 => ?_
    refine load_box (d := zd (-b)) 1 rfl hq rfl (load_I _ _) fun y2 => ?_
    refine call_fn (hg y1 y2) (Seals.refl _ _) qS ?_
    rintro y3 _ _ ⟨rfl, rfl⟩
    refine alloc_rule (d := I false []) fun g hgb => ?_
    refine store_box (d := zd G) 0 rfl hgb rfl (by kernel_rfl) (Reads.fact (v := y3) qM) ?_
    refine load_box (d := zd (-a)) 3 rfl hp rfl (load_I _ _) fun y4 => ?_
    refine load_box (d := zd G) 0 rfl hgb rfl (load_I _ _) fun y5 => ?_
    refine call_fn (hd1 y4 y5) (Seals.refl _ _) qS ?_
    rintro _ _ _ ⟨rfl, u1, u2, rfl, rfl⟩
    refine alloc_rule (d := I false []) fun b1 h1 => ?_
    refine alloc_rule (d := I false []) fun b2 h2 => ?_
    refine store_box (d := zd ((-a) / G)) 1 rfl h1 rfl (by kernel_rfl) (Reads.fact (v := u1) qM) ?_
    refine store_box (d := zd ((-a) % G)) 0 rfl h2 rfl (by kernel_rfl) (Reads.fact (v := u2) qM) ?_
    refine load_box (d := zd (-b)) 4 rfl hq rfl (load_I _ _) fun y6 => ?_
    refine load_box (d := zd G) 2 rfl hgb rfl (load_I _ _) fun y7 => ?_
    refine call_fn (hd2 y6 y7) (Seals.refl _ _) qS ?_
    rintro _ _ _ ⟨rfl, u3, u4, rfl, rfl⟩
    refine alloc_rule (d := I false []) fun b3 h3 => ?_
    refine alloc_rule (d := I false []) fun b4 h4 => ?_
    refine store_box (d := zd ((-b) / G)) 1 rfl h3 rfl (by kernel_rfl) (Reads.fact (v := u3) qM) ?_
    refine store_box (d := zd ((-b) % G)) 0 rfl h4 rfl (by kernel_rfl) (Reads.fact (v := u4) qM) ?_
    refine load_box (d := zd ((-a) / G)) 3 rfl h1 rfl (load_I _ _) fun y8 => ?_
    refine load_box (d := zd ((-b) / G)) 1 rfl h3 rfl (load_I _ _) fun y9 => ?_
    refine build22 (Knw.fact (v := y8) (d := zd ((-a) / G)) qM) (Knw.fact (v := y9) (d := zd ((-b) / G)) qM) rfl rfl fun fr => ?_
    refine store_box (d := fD ((-a) / G) ((-b) / G)) 5 rfl ho rfl (by kernel_rfl) (Reads.fact (v := fr) (d := fD ((-a) / G) ((-b) / G)) qM) ?_
    refine load_box (d := fD ((-a) / G) ((-b) / G)) 5 rfl ho rfl (load_F _ _) fun r => ?_
    refine fin ⟨rfl, rfl⟩ ?_
    repeat (first | exact Seals.sub (fs' := [(r, fD ((-a) / G) ((-b) / G))]) qS | refine Seals.trans (Seals.drop 0 _ _) ?_)
  · have hb0 : ¬ b < 0 := fun h => hneg (by rw [Int.sign_eq_neg_one_of_neg h]; decide)
    obtain ⟨hg, hd1, hd2⟩ := key a b rfl rfl
    have f1 : frn a b = a / (Nat.gcd a.natAbs b.natAbs : Nat) := by unfold frn; rw [if_neg hb0]; rfl
    have f2 : frd a b = b / (Nat.gcd a.natAbs b.natAbs : Nat) := by unfold frd; rw [if_neg hb0]; rfl
    rw [f1, f2]
    clear f1 f2 key
    generalize ((Nat.gcd a.natAbs b.natAbs : Nat) : Int) = G at *
    refine load_box (d := zd a) 2 rfl hp rfl (load_I _ _) fun y1 => ?_
    refine load_box (d := zd b) 1 rfl hq rfl (load_I _ _) fun y2 => ?_
    refine call_fn (hg y1 y2) (Seals.refl _ _) qS ?_
    rintro y3 _ _ ⟨rfl, rfl⟩
    refine alloc_rule (d := I false []) fun g hgb => ?_
    refine store_box (d := zd G) 0 rfl hgb rfl (by kernel_rfl) (Reads.fact (v := y3) qM) ?_
    refine load_box (d := zd a) 3 rfl hp rfl (load_I _ _) fun y4 => ?_
    refine load_box (d := zd G) 0 rfl hgb rfl (load_I _ _) fun y5 => ?_
    refine call_fn (hd1 y4 y5) (Seals.refl _ _) qS ?_
    rintro _ _ _ ⟨rfl, u1, u2, rfl, rfl⟩
    refine alloc_rule (d := I false []) fun b1 h1 => ?_
    refine alloc_rule (d := I false []) fun b2 h2 => ?_
    refine store_box (d := zd (a / G)) 1 rfl h1 rfl (by kernel_rfl) (Reads.fact (v := u1) qM) ?_
    refine store_box (d := zd (a % G)) 0 rfl h2 rfl (by kernel_rfl) (Reads.fact (v := u2) qM) ?_
    refine load_box (d := zd b) 4 rfl hq rfl (load_I _ _) fun y6 => ?_
    refine load_box (d := zd G) 2 rfl hgb rfl (load_I _ _) fun y7 => ?_
    refine call_fn (hd2 y6 y7) (Seals.refl _ _) qS ?_
    rintro _ _ _ ⟨rfl, u3, u4, rfl, rfl⟩
    refine alloc_rule (d := I false []) fun b3 h3 => ?_
    refine alloc_rule (d := I false []) fun b4 h4 => ?_
    refine store_box (d := zd (b / G)) 1 rfl h3 rfl (by kernel_rfl) (Reads.fact (v := u3) qM) ?_
    refine store_box (d := zd (b % G)) 0 rfl h4 rfl (by kernel_rfl) (Reads.fact (v := u4) qM) ?_
    refine load_box (d := zd (a / G)) 3 rfl h1 rfl (load_I _ _) fun y8 => ?_
    refine load_box (d := zd (b / G)) 1 rfl h3 rfl (load_I _ _) fun y9 => ?_
    refine build22 (Knw.fact (v := y8) (d := zd (a / G)) qM) (Knw.fact (v := y9) (d := zd (b / G)) qM) rfl rfl fun fr => ?_
    refine store_box (d := fD (a / G) (b / G)) 5 rfl ho rfl (by kernel_rfl) (Reads.fact (v := fr) (d := fD (a / G) (b / G)) qM) ?_
    refine load_box (d := fD (a / G) (b / G)) 5 rfl ho rfl (load_F _ _) fun r => ?_
    refine fin ⟨rfl, rfl⟩ ?_
    repeat (first | exact Seals.sub (fs' := [(r, fD (a / G) (b / G))]) qS | refine Seals.trans (Seals.drop 0 _ _) ?_)
section
variable {p q r s : Int} {k : Nat}
theorem fTimes_meets (v w : Value) (hp0 : sz p k) (hq0 : sz q k) (hr0 : sz r k) (hs0 : sz s k) (hk : k ≤ 1073741824) (h1 : q ≠ 0) (h2 : s ≠ 0) :
    Meets Tryz.prog 66 [v, w] [(v, fD p q), (w, fD r s)] (fun x os fs => os = [] ∧ fs = [(x, fD (frn (p * r) (q * s)) (frd (p * r) (q * s)))]) := by
  have c1 := fun y z => r5MulZ y z p r k k hp0 hr0 (by omega) (by omega)
  have c2 := fun y z => r5MulZ y z q s k k hq0 hs0 (by omega) (by omega)
  have c3 := fun y z => fMade_meets y z (p * r) (q * s) (k + k) (hp0.mul hr0) (hq0.mul hs0) (by omega) (Int.mul_ne_zero h1 h2)
  generalize frn (p * r) (q * s) = N at *
  generalize frd (p * r) (q * s) = D at *
  refine meets_of_vc Tryz.func66 (by kernel_rfl) rfl (by kernel_rfl) (Nat.le_of_ble_eq_true rfl) ?_
  refine box_rule (Reads.fact (d := fD p q) qM) fun pb hp => ?_
  refine box_rule (Reads.fact (d := fD r s) qM) fun qb hq => ?_
  refine alloc_rule (d := .cat (I false []) (I false [])) fun o ho => ?_
  refine draw_rule [0, 1, 2, 3, 5, 6, 7, 8, 4, 9, 10, 11] [0, 1, 2, 3, 4, 5, 6, 7, 8, 9, 10, 11] (by kernel_rfl) (by kernel_rfl) ?_
  refine field_box 2 rfl hp ?_
  refine load_box_field (d := zd p) 2 rfl (Part.left (Part.refl _)) (load_I _ _) fun y1 => ?_
  refine field_box 1 rfl hq ?_
  refine load_box_field (d := zd r) 1 rfl (Part.left (Part.refl _)) (load_I _ _) fun y2 => ?_
  refine field_box 2 rfl hp ?_
  refine load_box_field (d := zd q) 2 rfl (Part.right (Part.refl _)) (load_I _ _) fun y3 => ?_
  refine field_box 1 rfl hq ?_
  refine load_box_field (d := zd s) 1 rfl (Part.right (Part.refl _)) (load_I _ _) fun y4 => ?_
  refine call_fn (c1 y1 y2) (Seals.refl _ _) qS ?_
  rintro z1 _ _ ⟨rfl, rfl⟩
  refine call_fn (c2 y3 y4) (Seals.refl _ _) qS ?_
  rintro z2 _ _ ⟨rfl, rfl⟩
  refine call_fn (c3 z1 z2) (Seals.refl _ _) qS ?_
  rintro z4 _ _ ⟨rfl, rfl⟩
  refine store_box (d := fD N D) 0 rfl ho rfl (by kernel_rfl) (Reads.fact (v := z4) (d := fD N D) qM) ?_
  refine load_box (d := fD N D) 0 rfl ho rfl (load_F _ _) fun r => ?_
  refine fin ⟨rfl, rfl⟩ ?_
  repeat (first | exact Seals.sub (fs' := [(r, fD N D)]) qS | refine Seals.trans (Seals.drop 0 _ _) ?_)
theorem fOver_meets (v w : Value) (hp0 : sz p k) (hq0 : sz q k) (hr0 : sz r k) (hs0 : sz s k) (hk : k ≤ 1073741824) (h1 : q ≠ 0) (h2 : r ≠ 0) :
    Meets Tryz.prog 68 [v, w] [(v, fD p q), (w, fD r s)] (fun x os fs => os = [] ∧ fs = [(x, fD (frn (p * s) (q * r)) (frd (p * s) (q * r)))]) := by
  have c1 := fun y z => r5MulZ y z p s k k hp0 hs0 (by omega) (by omega)
  have c2 := fun y z => r5MulZ y z q r k k hq0 hr0 (by omega) (by omega)
  have c3 := fun y z => fMade_meets y z (p * s) (q * r) (k + k) (hp0.mul hs0) (hq0.mul hr0) (by omega) (Int.mul_ne_zero h1 h2)
  generalize frn (p * s) (q * r) = N at *
  generalize frd (p * s) (q * r) = D at *
  refine meets_of_vc Tryz.func68 (by kernel_rfl) rfl (by kernel_rfl) (Nat.le_of_ble_eq_true rfl) ?_
  refine box_rule (Reads.fact (d := fD p q) qM) fun pb hp => ?_
  refine box_rule (Reads.fact (d := fD r s) qM) fun qb hq => ?_
  refine alloc_rule (d := .cat (I false []) (I false [])) fun o ho => ?_
  refine draw_rule [0, 1, 2, 3, 5, 6, 7, 8, 4, 9, 10, 11] [0, 1, 2, 3, 4, 5, 6, 7, 8, 9, 10, 11] (by kernel_rfl) (by kernel_rfl) ?_
  refine field_box 2 rfl hp ?_
  refine load_box_field (d := zd p) 2 rfl (Part.left (Part.refl _)) (load_I _ _) fun y1 => ?_
  refine field_box 1 rfl hq ?_
  refine load_box_field (d := zd s) 1 rfl (Part.right (Part.refl _)) (load_I _ _) fun y2 => ?_
  refine field_box 2 rfl hp ?_
  refine load_box_field (d := zd q) 2 rfl (Part.right (Part.refl _)) (load_I _ _) fun y3 => ?_
  refine field_box 1 rfl hq ?_
  refine load_box_field (d := zd r) 1 rfl (Part.left (Part.refl _)) (load_I _ _) fun y4 => ?_
  refine call_fn (c1 y1 y2) (Seals.refl _ _) qS ?_
  rintro z1 _ _ ⟨rfl, rfl⟩
  refine call_fn (c2 y3 y4) (Seals.refl _ _) qS ?_
  rintro z2 _ _ ⟨rfl, rfl⟩
  refine call_fn (c3 z1 z2) (Seals.refl _ _) qS ?_
  rintro z4 _ _ ⟨rfl, rfl⟩
  refine store_box (d := fD N D) 0 rfl ho rfl (by kernel_rfl) (Reads.fact (v := z4) (d := fD N D) qM) ?_
  refine load_box (d := fD N D) 0 rfl ho rfl (load_F _ _) fun r => ?_
  refine fin ⟨rfl, rfl⟩ ?_
  repeat (first | exact Seals.sub (fs' := [(r, fD N D)]) qS | refine Seals.trans (Seals.drop 0 _ _) ?_)
theorem fLess_meets (v w : Value) (hp0 : sz p k) (hq0 : sz q k) (hr0 : sz r k) (hs0 : sz s k) (hk : k ≤ 1073741824) (h1 : q ≠ 0) (h2 : s ≠ 0) :
    Meets Tryz.prog 34 [v, w] [(v, fD p q), (w, fD r s)] (fun x os fs => os = [] ∧ fs = [(x, fD (frn (p * s - r * q) (q * s)) (frd (p * s - r * q) (q * s)))]) := by
  have c1 := fun y z => r5MulZ y z p s k k hp0 hs0 (by omega) (by omega)
  have c2 := fun y z => r5MulZ y z r q k k hr0 hq0 (by omega) (by omega)
  have c3 := fun y z => rSubZ y z (p * s) (r * q) (k + k) (hp0.mul hs0) (hr0.mul hq0) (by omega)
  have c4 := fun y z => r5MulZ y z q s k k hq0 hs0 (by omega) (by omega)
  have c5 := fun y z => fMade_meets y z (p * s - r * q) (q * s) (k + k + 1) (sz_sub (hp0.mul hs0) (hr0.mul hq0)) ((hq0.mul hs0).mono (by omega)) (by omega) (Int.mul_ne_zero h1 h2)
  generalize frn (p * s - r * q) (q * s) = N at *
  generalize frd (p * s - r * q) (q * s) = D at *
  refine meets_of_vc Tryz.func34 (by kernel_rfl) rfl (by kernel_rfl) (Nat.le_of_ble_eq_true rfl) ?_
  refine box_rule (Reads.fact (d := fD p q) qM) fun pb hp => ?_
  refine box_rule (Reads.fact (d := fD r s) qM) fun qb hq => ?_
  refine alloc_rule (d := .cat (I false []) (I false [])) fun o ho => ?_
  refine draw_rule [0, 1, 2, 3, 5, 6, 7, 8, 11, 12, 13, 14, 4, 9, 10, 15, 16, 17] [0, 1, 2, 3, 4, 5, 6, 7, 8, 9, 10, 11, 12, 13, 14, 15, 16, 17] (by kernel_rfl) (by kernel_rfl) ?_
  refine field_box 2 rfl hp ?_
  refine load_box_field (d := zd p) 2 rfl (Part.left (Part.refl _)) (load_I _ _) fun y1 => ?_
  refine field_box 1 rfl hq ?_
  refine load_box_field (d := zd s) 1 rfl (Part.right (Part.refl _)) (load_I _ _) fun y2 => ?_
  refine field_box 1 rfl hq ?_
  refine load_box_field (d := zd r) 1 rfl (Part.left (Part.refl _)) (load_I _ _) fun y3 => ?_
  refine field_box 2 rfl hp ?_
  refine load_box_field (d := zd q) 2 rfl (Part.right (Part.refl _)) (load_I _ _) fun y4 => ?_
  refine field_box 2 rfl hp ?_
  refine load_box_field (d := zd q) 2 rfl (Part.right (Part.refl _)) (load_I _ _) fun y5 => ?_
  refine field_box 1 rfl hq ?_
  refine load_box_field (d := zd s) 1 rfl (Part.right (Part.refl _)) (load_I _ _) fun y6 => ?_
  refine call_fn (c1 y1 y2) (Seals.refl _ _) qS ?_
  rintro z1 _ _ ⟨rfl, rfl⟩
  refine call_fn (c2 y3 y4) (Seals.refl _ _) qS ?_
  rintro z2 _ _ ⟨rfl, rfl⟩
  refine call_fn (c3 z1 z2) (Seals.refl _ _) qS ?_
  rintro z3 _ _ ⟨rfl, rfl⟩
  refine call_fn (c4 y5 y6) (Seals.refl _ _) qS ?_
  rintro z5 _ _ ⟨rfl, rfl⟩
  refine call_fn (c5 z3 z5) (Seals.refl _ _) qS ?_
  rintro z4 _ _ ⟨rfl, rfl⟩
  refine store_box (d := fD N D) 0 rfl ho rfl (by kernel_rfl) (Reads.fact (v := z4) (d := fD N D) qM) ?_
  refine load_box (d := fD N D) 0 rfl ho rfl (load_F _ _) fun r => ?_
  refine fin ⟨rfl, rfl⟩ ?_
  repeat (first | exact Seals.sub (fs' := [(r, fD N D)]) qS | refine Seals.trans (Seals.drop 0 _ _) ?_)
theorem fBelow_meets (v w : Value) (hp0 : sz p k) (hq0 : sz q k) (hr0 : sz r k) (hs0 : sz s k) (hk : k ≤ 1073741823) (h1 : q ≠ 0) (h2 : s ≠ 0) (hz : sz (frn (p * s - r * q) (q * s)) (k + k + 1)) :
    Meets Tryz.prog 33 [v, w] [(v, fD p q), (w, fD r s)] (fun x os fs => os = [] ∧ fs = [] ∧ x = .bool (decide (frn (p * s - r * q) (q * s) < 0))) := by
  have c1 := fun y z => fLess_meets (k := k) y z hp0 hq0 hr0 hs0 (by omega) h1 h2
  generalize frn (p * s - r * q) (q * s) = N at *
  generalize frd (p * s - r * q) (q * s) = D at *
  have hsg := fun y => rSign_meets y (cn N).1 (cn N).2 (Lim_lims _) (Nat.le_trans hz.len (by omega))
  have e1 : iv (cn N).1 (cn N).2 = N := jv_cn _
  rw [e1] at hsg
  refine meets_of_vc Tryz.func33 (by kernel_rfl) rfl (by kernel_rfl) (Nat.le_of_ble_eq_true rfl) ?_
  refine box_rule (Reads.fact (d := fD p q) qM) fun pb hp => ?_
  refine box_rule (Reads.fact (d := fD r s) qM) fun qb hq => ?_
  refine load_box (d := fD p q) 1 rfl hp rfl (load_F _ _) fun y1 => ?_
  refine load_box (d := fD r s) 0 rfl hq rfl (load_F _ _) fun y2 => ?_
  refine call_fn (c1 y1 y2) (Seals.refl _ _) qS ?_
  rintro y3 _ _ ⟨rfl, rfl⟩
  refine field22 (d1 := .one (.bool (cn N).1)) (d2 := U (cn N).2) (d3 := .one (.bool (cn D).1)) (d4 := U (cn D).2) (List.Mem.head _) rfl rfl fun y4 => ?_
  refine call_fn (hsg y4) (Seals.refl _ _) qS ?_
  rintro _ _ _ ⟨rfl, rfl, rfl⟩
  refine cmp_split _ rfl (fun hc => ?_) (fun hc => ?_)
  · have : N < 0 := by
      rcases Int.lt_trichotomy N 0 with h | h | h
      · exact h
      · rw [h] at hc; simp at hc
      · rw [Int.sign_eq_one_of_pos h] at hc; omega
    exact fin ⟨rfl, rfl, by rw [decide_eq_true this]; rfl⟩ (by repeat (first | exact Seals.nil _ _ | refine Seals.trans (Seals.drop 0 _ _) ?_))
  · have : ¬ N < 0 := fun h => hc (by rw [Int.sign_eq_neg_one_of_neg h]; decide)
    exact fin ⟨rfl, rfl, by rw [decide_eq_false this]; rfl⟩ (by repeat (first | exact Seals.nil _ _ | refine Seals.trans (Seals.drop 0 _ _) ?_))
end
theorem fWhole_meets (n : Int) (h1 : -9223372036854775808 ≤ n) (h2 : n < 9223372036854775808) :
    Meets Tryz.prog 35 [.int .i64 n] [] (fun x os fs => os = [] ∧ fs = [(x, fD n 1)]) := by
  refine meets_of_vc Tryz.func35 (by kernel_rfl) rfl (by kernel_rfl) (Nat.le_of_ble_eq_true rfl) ?_
  refine alloc_rule (d := .cat (I false []) (I false [])) fun o ho => ?_
  refine call_fn (rOf_meets n h1 h2) (Seals.refl _ _) qS ?_
  rintro y1 _ _ ⟨rfl, rfl⟩
  refine call_fn (rOf_meets 1 (by decide) (by decide)) (Seals.refl _ _) qS ?_
  rintro y2 _ _ ⟨rfl, rfl⟩
  refine build22 (Knw.fact (v := y1) (d := zd n) qM) (Knw.fact (v := y2) (d := zd 1) qM) rfl rfl fun fr => ?_
  refine store_box (d := fD n 1) 0 rfl ho rfl (by kernel_rfl) (Reads.fact (v := fr) (d := fD n 1) qM) ?_
  refine load_box (d := fD n 1) 0 rfl ho rfl (load_F _ _) fun r => ?_
  exact fin ⟨rfl, rfl⟩ (Seals.trans (Seals.drop 0 _ _) (Seals.sub (fs' := [(r, fD n 1)]) qS))
open Go.RowKit
instance : TSl Tryz.prog 52 59 4 := ⟨Tryz.underlying52, by kernel_rfl⟩
instance : TSl Tryz.prog 51 52 1 := ⟨Tryz.underlying51, by kernel_rfl⟩
instance : TOne Tryz.prog 52 := ⟨⟨_, Tryz.underlying52, trivial⟩, by kernel_rfl⟩
instance : TOne Tryz.prog 51 := ⟨⟨_, Tryz.underlying51, trivial⟩, by kernel_rfl⟩
theorem info_frs : (Tryz.prog.info? 52).map (fun i => (i.zero, i.size, i.bytes)) = some (some (.slice none 0 0), 1, 24) := by kernel_rfl
instance : TEl Tryz.prog 52 1 24 := tel info_frs rfl (by decide)
abbrev FX := Int × Int
def fP (x : FX) : Dat := fD x.1 x.2
def f0 : FX := (0, 0)
def FL (l : List FX) : Dat := LD 4 fP f0 l
def fr2 (a b : Int) : FX := (frn a b, frd a b)
theorem load_FL (l : List FX) : LoadAs Tryz.prog 52 (FL l) := (inferInstance : TOne Tryz.prog 52)
theorem frn_sz {a b : Int} {k : Nat} (h : sz a k) : sz (frn a b) k := by
  unfold frn
  refine Nat.lt_of_le_of_lt (Int.natAbs_ediv_le_natAbs _ _) ?_
  unfold sz at h
  split <;> omega
theorem frd_sz {a b : Int} {k : Nat} (h : sz b k) : sz (frd a b) k := by
  unfold frd
  refine Nat.lt_of_le_of_lt (Int.natAbs_ediv_le_natAbs _ _) ?_
  unfold sz at h
  split <;> omega
section
variable {a b c d : Int} {k : Nat}
theorem tTimes (v w : Value) (ha : sz a k) (hb : sz b k) (hc : sz c k) (hd : sz d k) (hk : k ≤ 1073741824) (h1 : b ≠ 0) (h2 : d ≠ 0) :
    Meets Tryz.prog 66 [v, w] [(v, fP (fr2 a b)), (w, fP (fr2 c d))] (fun x os fs => os = [] ∧ fs = [(x, fP (fr2 (a * c) (b * d)))]) := by
  have h := fTimes_meets (k := k) v w (frn_sz (b := b) ha) (frd_sz (a := a) hb) (frn_sz (b := d) hc) (frd_sz (a := c) hd) hk (by have := frd_pos (a := a) h1; omega) (by have := frd_pos (a := c) h2; omega)
  obtain ⟨e1, e2⟩ := fr_times (a := a) (c := c) h1 h2
  rw [e1, e2] at h
  exact h
theorem tOver (v w : Value) (ha : sz a k) (hb : sz b k) (hc : sz c k) (hd : sz d k) (hk : k ≤ 1073741824) (h1 : b ≠ 0) (h2 : d ≠ 0) (h3 : c ≠ 0) :
    Meets Tryz.prog 68 [v, w] [(v, fP (fr2 a b)), (w, fP (fr2 c d))] (fun x os fs => os = [] ∧ fs = [(x, fP (fr2 (a * d) (b * c)))]) := by
  have h := fOver_meets (k := k) v w (frn_sz (b := b) ha) (frd_sz (a := a) hb) (frn_sz (b := d) hc) (frd_sz (a := c) hd) hk (by have := frd_pos (a := a) h1; omega) (fun e => h3 ((frn_zero h2).1 e))
  obtain ⟨e1, e2⟩ := fr_over (a := a) (c := c) h1 h2 h3
  rw [e1, e2] at h
  exact h
theorem tLess (v w : Value) (ha : sz a k) (hb : sz b k) (hc : sz c k) (hd : sz d k) (hk : k ≤ 1073741824) (h1 : b ≠ 0) (h2 : d ≠ 0) :
    Meets Tryz.prog 34 [v, w] [(v, fP (fr2 a b)), (w, fP (fr2 c d))] (fun x os fs => os = [] ∧ fs = [(x, fP (fr2 (a * d - c * b) (b * d)))]) := by
  have h := fLess_meets (k := k) v w (frn_sz (b := b) ha) (frd_sz (a := a) hb) (frn_sz (b := d) hc) (frd_sz (a := c) hd) hk (by have := frd_pos (a := a) h1; omega) (by have := frd_pos (a := c) h2; omega)
  obtain ⟨e1, e2⟩ := fr_less (a := a) (c := c) h1 h2
  rw [e1, e2] at h
  exact h
theorem tBelow (v w : Value) (ha : sz a k) (hb : sz b k) (hc : sz c k) (hd : sz d k) (hk : k ≤ 1073741823) (h1 : 0 < b) (h2 : 0 < d) :
    Meets Tryz.prog 33 [v, w] [(v, fP (fr2 a b)), (w, fP (fr2 c d))] (fun x os fs => os = [] ∧ fs = [] ∧ x = .bool (decide (a * d - c * b < 0))) := by
  obtain ⟨e1, e2⟩ := fr_less (a := a) (c := c) (show b ≠ 0 by omega) (show d ≠ 0 by omega)
  have h := fBelow_meets (k := k) v w (frn_sz (b := b) ha) (frd_sz (a := a) hb) (frn_sz (b := d) hc) (frd_sz (a := c) hd) hk (by have := frd_pos (a := a) (b := b) (by omega); omega) (by have := frd_pos (a := c) (b := d) (by omega); omega) (by
    rw [e1]; exact frn_sz (sz_sub (ha.mul hd) (hc.mul hb)))
  rw [e1] at h
  rw [decide_eq_decide.2 (frn_neg (Int.mul_pos h1 h2))] at h
  exact h
end
theorem fr2_same {a b c d : Int} (hb : b ≠ 0) (hd : d ≠ 0) (e : a * d = c * b) : fr2 a b = fr2 c d := by
  obtain ⟨e1, e2⟩ := fr_same hb hd e
  unfold fr2; rw [e1, e2]
def mF (G : Mx) (i j : Nat) : FX := fr2 (mi G j i j) (dG G (j + 1))
def nF (G : Mx) (j : Nat) : FX := fr2 (dG G (j + 1)) (dG G j)
def rF (G : Mx) (t i j : Nat) : FX := fr2 (mi G t i j) (dG G t)
def mrow (G : Mx) (i n : Nat) : List FX := (List.range n).map fun j => mF G i j
def nrow (G : Mx) (n : Nat) : List FX := (List.range n).map fun j => nF G j
def rrow (G : Mx) (i n : Nat) : List FX := (List.range n).map fun l => rF G l i l
def mlist (G : Mx) (n : Nat) : List (List FX) := (List.range n).map fun i => mrow G i i
def rlist (G : Mx) (n : Nat) : List (List FX) := (List.range n).map fun i => rrow G i (i + 1)
theorem mrow_get {G : Mx} {i n j : Nat} (h : j < n) : (mrow G i n).getD j f0 = mF G i j := by
  unfold mrow; rw [List.getD_eq_getElem?_getD, List.getElem?_map, List.getElem?_range h]; rfl
theorem nrow_get {G : Mx} {n j : Nat} (h : j < n) : (nrow G n).getD j f0 = nF G j := by
  unfold nrow; rw [List.getD_eq_getElem?_getD, List.getElem?_map, List.getElem?_range h]; rfl
theorem rrow_get {G : Mx} {i n j : Nat} (h : j < n) : (rrow G i n).getD j f0 = rF G j i j := by
  unfold rrow; rw [List.getD_eq_getElem?_getD, List.getElem?_map, List.getElem?_range h]; rfl
theorem mlist_get {G : Mx} {n i : Nat} (h : i < n) : (mlist G n).getD i [] = mrow G i i := by
  unfold mlist; rw [List.getD_eq_getElem?_getD, List.getElem?_map, List.getElem?_range h]; rfl
theorem mrow_len (G : Mx) (i n : Nat) : (mrow G i n).length = n := by unfold mrow; simp
theorem nrow_len (G : Mx) (n : Nat) : (nrow G n).length = n := by unfold nrow; simp
theorem rrow_len (G : Mx) (i n : Nat) : (rrow G i n).length = n := by unfold rrow; simp
theorem mlist_len (G : Mx) (n : Nat) : (mlist G n).length = n := by unfold mlist; simp
theorem rlist_len (G : Mx) (n : Nat) : (rlist G n).length = n := by unfold rlist; simp
theorem mrow_snoc (G : Mx) (i n : Nat) : mrow G i n ++ [mF G i n] = mrow G i (n + 1) := by unfold mrow; rw [List.range_succ, List.map_append]; rfl
theorem nrow_snoc (G : Mx) (n : Nat) : nrow G n ++ [nF G n] = nrow G (n + 1) := by unfold nrow; rw [List.range_succ, List.map_append]; rfl
theorem rrow_snoc (G : Mx) (i n : Nat) : rrow G i n ++ [rF G n i n] = rrow G i (n + 1) := by unfold rrow; rw [List.range_succ, List.map_append]; rfl
theorem mlist_snoc (G : Mx) (n : Nat) : mlist G n ++ [mrow G n n] = mlist G (n + 1) := by unfold mlist; rw [List.range_succ, List.map_append]; rfl
theorem rlist_snoc (G : Mx) (n : Nat) : rlist G n ++ [rrow G n (n + 1)] = rlist G (n + 1) := by unfold rlist; rw [List.range_succ, List.map_append]; rfl
section
variable {G : Mx} {i j l : Nat}
theorem step_eq (hs : ∀ i j, G i j = G j i) (h0 : dG G l ≠ 0) (h1 : dG G (l + 1) ≠ 0) :
    fr2 (mi G l i j * (dG G l * dG G (l + 1)) - mi G l i l * mi G l j l * dG G l) (dG G l * (dG G l * dG G (l + 1))) = rF G (l + 1) i j := by
  refine fr2_same (Int.mul_ne_zero h0 (Int.mul_ne_zero h0 h1)) h1 ?_
  have st := mi_step (G := G) (k := l) h0 i j
  rw [mi_symm hs l l j] at st
  generalize mi G (l + 1) i j = X at *
  generalize mi G l i j = a at *
  generalize mi G l i l = b at *
  generalize mi G l j l = c at *
  generalize dG G l = d at *
  generalize dG G (l + 1) = e at *
  grind
theorem over_eq (h0 : dG G j ≠ 0) (h1 : dG G (j + 1) ≠ 0) : fr2 (mi G j i j * dG G j) (dG G j * dG G (j + 1)) = mF G i j :=
  fr2_same (Int.mul_ne_zero h0 h1) h1 (by grind)
end
theorem rDot_meets (v w : Value) (a b : Row) (k : Nat) (ha : Fit k a) (hb : Fit k b) (hk : k + k + 2 ≤ 137438953472) (lm : a.length ≤ 1073741824) :
    Meets Tryz.prog 23 [v, w] [(v, V a), (w, V b)] (fun r os fs => os = [] ∧ ∃ q, r = .tuple #[q, .int .i64 (if a.length = b.length then 0 else 1)] ∧ fs = [(q, zd (ldt a b))]) := by
  have hs : ∀ i, i ≤ a.length → sz (ip i (rv a) (rv b)) (k + k + 1) := fun i hi => ip_sz (fun c _ => rv_sz ha c) (fun c _ => rv_sz hb c) (by omega)
  refine meets_of_vc Tryz.func23 (by kernel_rfl) rfl (by kernel_rfl) (Nat.le_of_ble_eq_true rfl) ?_
  refine alloc_rule (d := I false []) fun o ho => ?_
  refine len_fact (v := v) qM fun _ => ?_
  refine len_fact (v := w) qM fun _ => ?_
  refine cmp_split _ rfl (fun hne => ?_) (fun heq => ?_)
  · have hne' : a.length ≠ b.length := by omega
    rw [if_neg hne', show ldt a b = 0 from if_neg hne']
    refine build0 (da := .one (.bool false)) (db := U (lims 0)) (fun S w => ⟨[.bool false], [.slice none 0 0], rfl, rd_false S w, by rw [lims_zero]; exact rd_nil S w 1 _⟩) fun zz => ?_
    refine store_box (d := zd 0) 0 rfl ho rfl (by kernel_rfl) ?_ ?_; exact Reads.fact (d := zd 0) qM
    refine load_box (d := zd 0) 0 rfl ho rfl (load_I _ _) fun r => ?_
    exact fin ⟨rfl, r, rfl, rfl⟩ (Seals.trans (Seals.drop 0 _ _) (Seals.sub (fs' := [(r, zd 0)]) qS))
  have hl : a.length = b.length := by omega
  rw [if_pos hl, show ldt a b = ip a.length (rv a) (rv b) from if_pos hl]
  refine build0 (da := .one (.bool false)) (db := U (lims 0)) (fun S w => ⟨[.bool false], [.slice none 0 0], rfl, rd_false S w, by rw [lims_zero]; exact rd_nil S w 1 _⟩) fun zz => ?_
  refine alloc_rule (d := I false []) fun s hs' => ?_
  refine store_box (d := zd 0) 0 rfl hs' rfl (by kernel_rfl) ?_ ?_; exact Reads.fact (d := zd 0) qM
  refine loop_rule (X := Nat) (fun i => ([(0, v), (1, w), (4, o), (6, s), (7, .int .i64 (i : Nat))], [own1 s 2 1 (fun _ => zd (ip i (rv a) (rv b))), own1 o 2 1 (fun _ => I false [])], [(v, V a), (w, V b)]))
    (fun i => i ≤ a.length) (fun i => a.length - i) rfl ?_ ?_
  · exact again 0 (Nat.zero_le _) trivial qF (Seals.trans (Seals.box0 rfl) (Seals.sub (fs' := [(v, V a), (w, V b)]) qS))
  · rintro i hi
    refine len_fact (v := v) qM fun _ => ?_
    refine cmp_split _ rfl (fun hc => ?_) (fun hc => ?_)
    · have hia : i < a.length := by omega
      have f1 := ha.get i
      have f2 := hb.get i
      refine draw_rule [0, 1, 2, 3, 4, 5, 6, 7, 8, 9, 10, 11] [0, 1, 2, 3, 4, 5, 6, 7, 8, 9, 10, 11] (by kernel_rfl) (by kernel_rfl) ?_
      refine load_box (d := zd (ip i (rv a) (rv b))) 0 rfl hs' rfl (load_I _ _) fun x2 => ?_
      refine index_fact (v := v) qM i rfl hia fun a1 => ?_
      refine load_fact (d := J (a.getD i z0)) qM (load_J _) fun x3 => ?_
      refine index_fact (v := w) qM i rfl (by omega) fun a2 => ?_
      refine load_fact (d := J (b.getD i z0)) qM (load_J _) fun x4 => ?_
      refine call_fn (rMulJ x3 x4 (a.getD i z0) (b.getD i z0) f1.1 (by omega) f2.1 (by omega)) (Seals.refl _ _) qS ?_
      rintro x5 _ _ ⟨rfl, rfl⟩
      refine call_fn (rAddZ x2 x5 _ _ (k + k + 1) (hs i hi) (((rv_sz ha i).mul (rv_sz hb i)).mono (by omega)) (by omega)) (Seals.refl _ _) qS ?_
      rintro x6 _ _ ⟨rfl, rfl⟩
      refine store_box (d := zd (ip (i + 1) (rv a) (rv b))) 0 rfl hs' rfl (by kernel_rfl) ?_ ?_; exact Reads.fact qM
      refine ar rfl qI ?_
      exact again (i + 1) (by omega) (by simp only; omega) qF (Seals.trans (Seals.box0 rfl) (Seals.sub (fs' := [(v, V a), (w, V b)]) qS))
    · have hia : i = a.length := by omega
      subst hia
      refine load_box (d := zd (ip a.length (rv a) (rv b))) 0 rfl hs' rfl (load_I _ _) fun x2 => ?_
      refine call_fn (rNormZ x2 _ (k + k + 1) (hs _ (Nat.le_refl _)) (by omega)) (Seals.refl _ _) qS ?_
      rintro x3 _ _ ⟨rfl, rfl⟩
      refine store_box (d := zd (ip a.length (rv a) (rv b))) 1 rfl ho rfl (by kernel_rfl) ?_ ?_; exact Reads.fact (v := x3) qM
      refine load_box (d := zd (ip a.length (rv a) (rv b))) 1 rfl ho rfl (load_I _ _) fun r => ?_
      exact fin ⟨rfl, r, rfl, rfl⟩ (Seals.trans (Seals.drop 0 _ _) (Seals.trans (Seals.drop 0 _ _) (Seals.sub (fs' := [(r, zd (ip a.length (rv a) (rv b)))]) qS)))
theorem at_call {K : Cont} {os : List Own} {fs : List Fact} (pm pi : Nat) {vm vi : Value} {Lm : List (List FX)} {Li : List FX} (hm : nthOwn os pm = some (ownL 1 FL [] vm Lm)) (hi : nthOwn os pi = some (ownL 4 fP f0 vi Li)) (sm : isSl vm) (si : isSl vi) (i j l : Nat) (x : FX)
    (h : (j = i ∧ l < Li.length ∧ Li.getD l f0 = x) ∨ (j ≠ i ∧ j < Lm.length ∧ l < (Lm.getD j []).length ∧ (Lm.getD j []).getD l f0 = x)) (kk : ∀ r, K r os ((r, fP x) :: fs)) :
    CallK Tryz.prog false (.func (.func 67) #[] #[]) [vm, vi, .int .i64 (i : Nat), .int .i64 (j : Nat), .int .i64 (l : Nat)] os fs K := by
  refine call_inline Tryz.func67 (by kernel_rfl) rfl (by kernel_rfl) (Nat.le_of_ble_eq_true rfl) ?_
  refine alloc_rule (d := .cat (I false []) (I false [])) fun o ho => ?_
  refine cmp_split _ rfl (fun hc => ?_) (fun hc => ?_)
  · obtain ⟨_, h2, h3⟩ := h.resolve_right fun h => h.1 (by omega)
    refine index_elem (v := vi) (e := fun i => fP (Li.getD i f0)) (n := Li.length) (pi + 1) hi si l rfl h2 ?_
    refine load_elem' (e := fun i => fP (Li.getD i f0)) (n := Li.length) (d := fP x) (pi + 1) hi l h2 (by rw [← h3]) (load_F _ _) fun y1 => ?_
    refine store_box (d := fP x) 0 rfl ho rfl (by kernel_rfl) (Reads.fact (v := y1) (d := fP x) (List.Mem.head _)) ?_
    refine load_box (d := fP x) 0 rfl ho rfl (load_F _ _) fun r => ?_
    exact fin (kk r) (Seals.trans (Seals.drop 0 _ _) (Seals.sub (fun F hF => by
      rcases List.mem_cons.1 hF with rfl | hF
      · exact List.Mem.head _
      · repeat (first | exact hF | apply List.Mem.tail))))
  · obtain ⟨_, h2, h3, h4⟩ := h.resolve_left fun h => hc (by omega)
    refine index_elem (v := vm) (e := fun i => FL (Lm.getD i [])) (n := Lm.length) (pm + 1) hm sm j rfl h2 ?_
    refine load_elem' (e := fun i => FL (Lm.getD i [])) (n := Lm.length) (d := FL (Lm.getD j [])) (pm + 1) hm j h2 rfl (load_FL _) fun y0 => ?_
    refine index_fact (v := y0) (n := (Lm.getD j []).length) (List.Mem.head _) l rfl h3 fun y2 => ?_
    refine load_fact (d := fP x) (by rw [← h4]; exact List.Mem.head _) (load_F _ _) fun y1 => ?_
    refine store_box (d := fP x) 0 rfl ho rfl (by kernel_rfl) (Reads.fact (v := y1) (d := fP x) (List.Mem.head _)) ?_
    refine load_box (d := fP x) 0 rfl ho rfl (load_F _ _) fun r => ?_
    exact fin (kk r) (Seals.trans (Seals.drop 0 _ _) (Seals.sub (fun F hF => by
      rcases List.mem_cons.1 hF with rfl | hF
      · exact List.Mem.head _
      · repeat (first | exact hF | apply List.Mem.tail))))
open Go.RowKit
structure StZ (m : List Row) (G : Mx) (k E a : Nat) : Prop where
  hk : k < m.length
  hn : m.length ≤ 1048576
  hf : Fits a m
  ha : a + a + 2 ≤ 137438953472
  hl : ∀ i, i < m.length → (m.getD i []).length = (m.getD 0 []).length
  lc : (m.getD 0 []).length ≤ 1048576
  hG : G = gr (m.getD 0 []).length (rvm m)
  he : ∀ t i j, t ≤ k + 1 → sz (mi G t i j) E
  hd : ∀ t, t ≤ k + 1 → sz (dG G t) E
  hE : E ≤ 268435456
section
variable {m : List Row} {G : Mx} {k E a : Nat} {i j l : Nat}
theorem StZ.symm (z : StZ m G k E a) : ∀ i j, G i j = G j i := by rw [z.hG]; exact gr_symm _ _
theorem StZ.dot (z : StZ m G k E a) (x y : Value) (i j : Nat) (hi : i ≤ k) (hj : j ≤ k) : Meets Tryz.prog 23 [x, y] [(x, V (m.getD i [])), (y, V (m.getD j []))] (fun r os fs => os = [] ∧ ∃ q, r = .tuple #[q, .int .i64 0] ∧ fs = [(q, zd (mi G 0 i j))]) := by
  have h1 := z.hk
  have e1 := z.hl i (by omega)
  have e2 := z.hl j (by omega)
  have h := rDot_meets x y (m.getD i []) (m.getD j []) a (z.hf.get i) (z.hf.get j) z.ha (by have := z.lc; omega)
  rw [if_pos (by rw [e1, e2]), show ldt (m.getD i []) (m.getD j []) = mi G 0 i j by unfold ldt; rw [if_pos (by rw [e1, e2]), mi_none, z.hG, e1]; rfl] at h
  exact h
theorem StZ.made (z : StZ m G k E a) (i j : Nat) (x y : Value) : Meets Tryz.prog 65 [x, y] [(x, zd (mi G 0 i j)), (y, zd 1)] (fun r os fs => os = [] ∧ fs = [(r, fP (rF G 0 i j))]) :=
  fMade_meets x y (mi G 0 i j) 1 (E + 1) ((z.he 0 i j (Nat.zero_le _)).mono (by omega)) ((sz_num 1 (by decide)).mono (by omega)) (by have := z.hE; omega) (by decide)
theorem StZ.times (z : StZ m G k E a) (i j l : Nat) (_ : i ≤ k) (_ : j ≤ i) (_ : l < j) (h0 : dG G l ≠ 0) (h1 : dG G (l + 1) ≠ 0) (x y : Value) :
    Meets Tryz.prog 66 [x, y] [(x, fP (rF G l i l)), (y, fP (mF G j l))] (fun r os fs => os = [] ∧ fs = [(r, fP (fr2 (mi G l i l * mi G l j l) (dG G l * dG G (l + 1))))]) :=
  tTimes x y (z.he l i l (by omega)) (z.hd l (by omega)) (z.he l j l (by omega)) (z.hd (l + 1) (by omega)) (by have := z.hE; omega) h0 h1
theorem StZ.less (z : StZ m G k E a) (i j l : Nat) (_ : i ≤ k) (_ : j ≤ i) (_ : l < j) (h0 : dG G l ≠ 0) (h1 : dG G (l + 1) ≠ 0) (x y : Value) :
    Meets Tryz.prog 34 [x, y] [(x, fP (rF G l i j)), (y, fP (fr2 (mi G l i l * mi G l j l) (dG G l * dG G (l + 1))))] (fun r os fs => os = [] ∧ fs = [(r, fP (rF G (l + 1) i j))]) := by
  have h := tLess (k := E + E) x y ((z.he l i j (by omega)).mono (by omega)) ((z.hd l (by omega)).mono (by omega)) ((z.he l i l (by omega)).mul (z.he l j l (by omega))) ((z.hd l (by omega)).mul (z.hd (l + 1) (by omega))) (by have := z.hE; omega) h0 (Int.mul_ne_zero h0 h1)
  rw [step_eq z.symm h0 h1] at h
  exact h
theorem StZ.over (z : StZ m G k E a) (i j : Nat) (_ : i ≤ k) (_ : j < i) (h0 : dG G j ≠ 0) (h1 : dG G (j + 1) ≠ 0) (x y : Value) :
    Meets Tryz.prog 68 [x, y] [(x, fP (rF G j i j)), (y, fP (nF G j))] (fun r os fs => os = [] ∧ fs = [(r, fP (mF G i j))]) := by
  have h := tOver (k := E) x y (z.he j i j (by omega)) (z.hd j (by omega)) (z.hd (j + 1) (by omega)) (z.hd j (by omega)) (by have := z.hE; omega) h0 h0 h1
  rw [over_eq h0 h1] at h
  exact h
theorem StZ.sgn (z : StZ m G k E a) (l : Nat) (_ : l ≤ k) (y : Value) : Meets Tryz.prog 69 [y] [(y, zd (rF G l l l).1)] (fun r os fs => os = [] ∧ fs = [] ∧ r = .int .i64 (rF G l l l).1.sign) := by
  have hz : sz (rF G l l l).1 E := frn_sz (z.he l l l (by omega))
  have h := rSign_meets y (cn (rF G l l l).1).1 (cn (rF G l l l).1).2 (Lim_lims _) (Nat.le_trans hz.len (by have := z.hE; omega))
  have e1 : iv (cn (rF G l l l).1).1 (cn (rF G l l l).1).2 = (rF G l l l).1 := jv_cn _
  rw [e1] at h
  exact h
end
theorem straightA {K : Cont} {os : List Own} {fs : List Fact} {v : Value} {m : List Row} {G : Mx} {k E a : Nat} (z : StZ m G k E a) (hv : (v, W m) ∈ fs)
    (k1 : (∀ t, t ≤ k + 1 → dG G t ≠ 0) → ∀ qm qn, K (.tuple #[qm, qn, .bool true]) os ((qm, LD 1 FL [] (mlist G (k + 1))) :: (qn, FL (nrow G (k + 1))) :: fs))
    (k2 : (∃ t, t ≤ k + 1 ∧ dG G t = 0) → K (.tuple #[.slice none 0 0, .slice none 0 0, .bool false]) os fs) :
    CallK Tryz.prog false (.func (.func 29) #[] #[]) [v, .int .i64 (k : Nat)] os fs K := by
  have hdot := z.dot
  have hmade := z.made
  have htimes := z.times
  have hless := z.less
  have hover := z.over
  have hsgn := z.sgn
  have hkm := z.hk
  have hnm := z.hn
  clear z
  refine call_inline Tryz.func29 (by kernel_rfl) rfl (by kernel_rfl) (Nat.le_of_ble_eq_true rfl) ?_
  refine empty_L FL [] (by decide) fun mv0 hmv0 => ?_
  refine empty_L fP f0 (by decide) fun nv0 hnv0 => ?_
  refine empty_L FL [] (by decide) fun rv0 hrv0 => ?_
  refine loop_rule (X := Nat × Value × Value × Value) (fun x => ([(0, v), (1, .int .i64 (k : Nat)), (7, x.2.1), (8, x.2.2.1), (9, x.2.2.2), (10, .int .i64 (x.1 : Nat))],
      ownL 1 FL [] x.2.2.2 (rlist G x.1) :: ownL 4 fP f0 x.2.2.1 (nrow G x.1) :: ownL 1 FL [] x.2.1 (mlist G x.1) :: os, fs))
    (fun x => x.1 ≤ k + 1 ∧ isSl x.2.1 ∧ isSl x.2.2.1 ∧ isSl x.2.2.2 ∧ ∀ t, t ≤ x.1 → dG G t ≠ 0) (fun x => k + 1 - x.1) rfl ?_ ?_
  · exact again (0, mv0, nv0, rv0) ⟨Nat.zero_le _, hmv0, hnv0, hrv0, fun t ht => by
      have : t = 0 := by simp only at ht; omega
      rw [this, dG_zero]; decide⟩ trivial qF (Seals.sub qD)
  rintro ⟨i, mv, nv, rv'⟩ ⟨hi, hmv, hnv, hrv, hd⟩
  simp only at hi hmv hnv hrv hd ⊢
  refine cmp_split _ rfl (fun hc => ?_) (fun hc => ?_)
  · have hik : i ≤ k := by omega
    refine empty_L fP f0 (by decide) fun miv0 hmiv0 => ?_
    refine empty_L fP f0 (by decide) fun riv0 hriv0 => ?_
    refine loop_rule (X := Nat × Value × Value × Value) (fun x => ([(0, v), (1, .int .i64 (k : Nat)), (7, mv), (8, x.2.2.2), (9, rv'), (10, .int .i64 (i : Nat)), (11, x.2.1), (12, x.2.2.1), (13, .int .i64 (x.1 : Nat))],
        ownL 4 fP f0 x.2.2.1 (rrow G i x.1) :: ownL 4 fP f0 x.2.1 (mrow G i (x.1 - (x.1 - i))) :: ownL 1 FL [] rv' (rlist G i) :: ownL 4 fP f0 x.2.2.2 (nrow G (i + (x.1 - i))) :: ownL 1 FL [] mv (mlist G i) :: os, fs))
      (fun x => x.1 ≤ i + 1 ∧ isSl x.2.1 ∧ isSl x.2.2.1 ∧ isSl x.2.2.2 ∧ (i < x.1 → dG G (i + 1) ≠ 0)) (fun x => i + 1 - x.1) rfl ?_ ?_
    · refine again (0, miv0, riv0, nv) ⟨Nat.zero_le _, hmiv0, hriv0, hnv, fun h => absurd h (Nat.not_lt_zero _)⟩ trivial qF ?_
      simp only [Nat.zero_sub, Nat.add_zero]
      exact Seals.sub qD
    rintro ⟨j, miv, riv, nv⟩ ⟨hj, hmi, hri, hnv, hdi⟩
    simp only at hj hmi hri hnv hdi ⊢
    refine cmp_split _ rfl (fun hc2 => ?_) (fun hc2 => ?_)
    · have hji : j ≤ i := by omega
      rw [show j - (j - i) = j by omega, show i + (j - i) = i by omega]
      have hdj : ∀ t, t ≤ j → dG G t ≠ 0 := fun t ht => hd t (by omega)
      refine draw_join (X := Value) (fun z => ([(0, v), (1, .int .i64 (k : Nat)), (7, mv), (8, nv), (9, rv'), (10, .int .i64 (i : Nat)), (11, miv), (12, riv), (13, .int .i64 (j : Nat)), (14, z)],
        own1 z 2 1 (fun _ => zd (mi G 0 i j)) :: ownL 4 fP f0 riv (rrow G i j) :: ownL 4 fP f0 miv (mrow G i j) :: ownL 1 FL [] rv' (rlist G i) :: ownL 4 fP f0 nv (nrow G i) :: ownL 1 FL [] mv (mlist G i) :: os, fs)) isBox ?_ ?_
      ·
        refine draw_ord [0, 1, 2, 3, 4, 5, 6, 7, 8, 9, 10, 12, 13, 11, 14] (by kernel_rfl) ?_
        refine ord_split 8 12 (by kernel_rfl) (by kernel_rfl) (by kernel_rfl) ?_ ?_
        · refine ord_go [0, 1, 2, 3, 4, 5, 6, 7, 8, 9, 10, 11, 12, 13, 14] (by kernel_rfl) (by kernel_rfl) ?_
          refine index_fact (v := v) (by first | exact hv | exact .tail _ hv | exact .tail _ (.tail _ hv) | exact .tail _ (.tail _ (.tail _ hv)) | exact .tail _ (.tail _ (.tail _ (.tail _ hv)))) i rfl (by omega) fun a1 => ?_
          refine load_fact (d := V (m.getD i [])) (List.Mem.head _) (load_V _) fun x1 => ?_
          refine index_fact (v := v) (by first | exact hv | exact .tail _ hv | exact .tail _ (.tail _ hv) | exact .tail _ (.tail _ (.tail _ hv)) | exact .tail _ (.tail _ (.tail _ (.tail _ hv)))) j rfl (by omega) fun a1 => ?_
          refine load_fact (d := V (m.getD j [])) (List.Mem.head _) (load_V _) fun x2 => ?_
          refine call_fn (hdot x1 x2 i j (by omega) (by omega)) (Seals.refl _ _) qS ?_
          rintro _ _ _ ⟨rfl, q0, rfl, rfl⟩
          refine alloc_rule (d := I false []) fun xb hxb => ?_
          refine store_box (d := zd (mi G 0 i j)) 0 rfl hxb rfl (by kernel_rfl) (Reads.fact (v := q0) qM) ?_
          exact again xb hxb trivial qF (Seals.trans (Seals.box0 rfl) (Seals.sub qD))
        · refine ord_go [0, 1, 2, 3, 4, 5, 6, 7, 12, 8, 9, 10, 11, 13, 14] (by kernel_rfl) (by kernel_rfl) ?_
          refine index_fact (v := v) (by first | exact hv | exact .tail _ hv | exact .tail _ (.tail _ hv) | exact .tail _ (.tail _ (.tail _ hv)) | exact .tail _ (.tail _ (.tail _ (.tail _ hv)))) i rfl (by omega) fun a1 => ?_
          refine load_fact (d := V (m.getD i [])) (List.Mem.head _) (load_V _) fun x1 => ?_
          refine index_fact (v := v) (by first | exact hv | exact .tail _ hv | exact .tail _ (.tail _ hv) | exact .tail _ (.tail _ (.tail _ hv)) | exact .tail _ (.tail _ (.tail _ (.tail _ hv)))) j rfl (by omega) fun a1 => ?_
          refine load_fact (d := V (m.getD j [])) (List.Mem.head _) (load_V _) fun x2 => ?_
          refine alloc_rule (d := I false []) fun xb hxb => ?_
          refine call_fn (hdot x1 x2 i j (by omega) (by omega)) (Seals.refl _ _) qS ?_
          rintro _ _ _ ⟨rfl, q0, rfl, rfl⟩
          refine store_box (d := zd (mi G 0 i j)) 0 rfl hxb rfl (by kernel_rfl) (Reads.fact (v := q0) qM) ?_
          exact again xb hxb trivial qF (Seals.trans (Seals.box0 rfl) (Seals.sub qD))
      rintro xb hxb
      refine draw_join (X := Value) (fun z => ([(0, v), (1, .int .i64 (k : Nat)), (7, mv), (8, nv), (9, rv'), (10, .int .i64 (i : Nat)), (11, miv), (12, riv), (13, .int .i64 (j : Nat)), (14, xb), (16, z)],
        own1 z 4 1 (fun _ => fP (rF G 0 i j)) :: own1 xb 2 1 (fun _ => zd (mi G 0 i j)) :: ownL 4 fP f0 riv (rrow G i j) :: ownL 4 fP f0 miv (mrow G i j) :: ownL 1 FL [] rv' (rlist G i) :: ownL 4 fP f0 nv (nrow G i) :: ownL 1 FL [] mv (mlist G i) :: os, fs)) isBox ?_ ?_
      ·
        refine draw_ord [0, 1, 2, 3, 4] (by kernel_rfl) ?_
        refine ord_split 1 3 (by kernel_rfl) (by kernel_rfl) (by kernel_rfl) ?_ ?_
        · refine ord_split 2 3 (by kernel_rfl) (by kernel_rfl) (by kernel_rfl) ?_ ?_
          · refine ord_go [0, 1, 2, 3, 4] (by kernel_rfl) (by kernel_rfl) ?_
            refine load_box (d := zd (mi G 0 i j)) 0 rfl hxb rfl (load_I _ _) fun y1 => ?_
            refine call_fn (rOf_meets 1 (by decide) (by decide)) (Seals.refl _ _) qS ?_
            rintro y2 _ _ ⟨rfl, rfl⟩
            refine call_fn (hmade i j y1 y2) (Seals.refl _ _) qS ?_
            rintro y3 _ _ ⟨rfl, rfl⟩
            refine alloc_rule (d := .cat (I false []) (I false [])) fun fb hfb => ?_
            refine store_box (d := fP (rF G 0 i j)) 0 rfl hfb rfl (by kernel_rfl) (Reads.fact (v := y3) qM) ?_
            exact again fb hfb trivial qF (Seals.trans (Seals.box0 rfl) (Seals.sub qD))
          · refine ord_go [0, 1, 3, 2, 4] (by kernel_rfl) (by kernel_rfl) ?_
            refine load_box (d := zd (mi G 0 i j)) 0 rfl hxb rfl (load_I _ _) fun y1 => ?_
            refine call_fn (rOf_meets 1 (by decide) (by decide)) (Seals.refl _ _) qS ?_
            rintro y2 _ _ ⟨rfl, rfl⟩
            refine alloc_rule (d := .cat (I false []) (I false [])) fun fb hfb => ?_
            refine call_fn (hmade i j y1 y2) (Seals.refl _ _) qS ?_
            rintro y3 _ _ ⟨rfl, rfl⟩
            refine store_box (d := fP (rF G 0 i j)) 0 rfl hfb rfl (by kernel_rfl) (Reads.fact (v := y3) qM) ?_
            exact again fb hfb trivial qF (Seals.trans (Seals.box0 rfl) (Seals.sub qD))
        · refine ord_go [0, 3, 1, 2, 4] (by kernel_rfl) (by kernel_rfl) ?_
          refine load_box (d := zd (mi G 0 i j)) 0 rfl hxb rfl (load_I _ _) fun y1 => ?_
          refine alloc_rule (d := .cat (I false []) (I false [])) fun fb hfb => ?_
          refine call_fn (rOf_meets 1 (by decide) (by decide)) (Seals.refl _ _) qS ?_
          rintro y2 _ _ ⟨rfl, rfl⟩
          refine call_fn (hmade i j y1 y2) (Seals.refl _ _) qS ?_
          rintro y3 _ _ ⟨rfl, rfl⟩
          refine store_box (d := fP (rF G 0 i j)) 0 rfl hfb rfl (by kernel_rfl) (Reads.fact (v := y3) qM) ?_
          exact again fb hfb trivial qF (Seals.trans (Seals.box0 rfl) (Seals.sub qD))
      rintro fb hfb
      refine loop_rule (X := Nat) (fun l => ([(0, v), (1, .int .i64 (k : Nat)), (7, mv), (8, nv), (9, rv'), (10, .int .i64 (i : Nat)), (11, miv), (12, riv), (13, .int .i64 (j : Nat)), (14, xb), (16, fb), (17, .int .i64 (l : Nat))],
          own1 fb 4 1 (fun _ => fP (rF G l i j)) :: own1 xb 2 1 (fun _ => zd (mi G 0 i j)) :: ownL 4 fP f0 riv (rrow G i j) :: ownL 4 fP f0 miv (mrow G i j) :: ownL 1 FL [] rv' (rlist G i) :: ownL 4 fP f0 nv (nrow G i) :: ownL 1 FL [] mv (mlist G i) :: os, fs))
        (fun l => l ≤ j) (fun l => j - l) rfl ?_ ?_
      · exact again 0 (Nat.zero_le _) trivial qF (Seals.sub qD)
      rintro l hl
      refine cmp_split _ rfl (fun hc3 => ?_) (fun hc3 => ?_)
      · have hlj : l < j := by omega
        have hat : (j = i ∧ l < (mrow G i j).length ∧ (mrow G i j).getD l f0 = mF G j l) ∨ (j ≠ i ∧ j < (mlist G i).length ∧ l < ((mlist G i).getD j []).length ∧ ((mlist G i).getD j []).getD l f0 = mF G j l) := by
          by_cases e : j = i
          · exact .inl ⟨e, by rw [mrow_len]; omega, by rw [mrow_get hlj, e]⟩
          · have hlt : j < i := by omega
            exact .inr ⟨e, by rw [mlist_len]; exact hlt, by rw [mlist_get hlt, mrow_len]; exact hlj, by rw [mlist_get hlt, mrow_get hlj]⟩
        have htimes := htimes i j l hik hji hlj (hdj l (by omega)) (hdj (l + 1) (by omega))
        have hless := hless i j l hik hji hlj (hdj l (by omega)) (hdj (l + 1) (by omega))
        refine draw_ord [0, 1, 2, 3, 4, 5, 6, 7, 8, 9, 10, 11, 12, 13] (by kernel_rfl) ?_
        refine ord_split 0 10 (by kernel_rfl) (by kernel_rfl) (by kernel_rfl) ?_ ?_
        · refine ord_split 4 10 (by kernel_rfl) (by kernel_rfl) (by kernel_rfl) ?_ ?_
          · refine ordE_go [] [] [] [10] [0, 1, 2, 3, 4, 5, 6, 7, 8, 9, 10, 11, 12, 13] (by kernel_rfl) (by kernel_rfl) (by kernel_rfl) ?_
            refine load_box (d := fP (rF G l i j)) 0 rfl hfb rfl (load_F _ _) fun y0 => ?_
            refine index_elem (v := riv) (e := fun t => fP ((rrow G i j).getD t f0)) (n := (rrow G i j).length) 2 rfl hri l rfl (by rw [rrow_len]; omega) ?_
            refine load_elem' (e := fun t => fP ((rrow G i j).getD t f0)) (n := (rrow G i j).length) (d := fP (rF G l i l)) 2 rfl l (by rw [rrow_len]; omega) (by rw [rrow_get hlj]) (load_F _ _) fun y4 => ?_
            refine at_call 6 3 rfl rfl hmv hmi i j l (mF G j l) hat fun y5 => ?_
            refine call_fn (htimes y4 y5) (Seals.refl _ _) qS ?_
            rintro y6 _ _ ⟨rfl, rfl⟩
            refine call_fn (hless y0 y6) (Seals.refl _ _) qS ?_
            rintro y7 _ _ ⟨rfl, rfl⟩
            refine store_box (d := fP (rF G (l + 1) i j)) 0 rfl hfb rfl (by kernel_rfl) (Reads.fact (v := y7) qM) ?_
            refine ar rfl qI ?_
            exact again (l + 1) (by omega) (by simp only; omega) qF (Seals.trans (Seals.box0 rfl) (Seals.sub qD))
          · refine ord_split 3 10 (by kernel_rfl) (by kernel_rfl) (by kernel_rfl) ?_ ?_
            · refine ordE_go [] [] [] [10] [0, 1, 2, 3, 5, 6, 7, 8, 9, 10, 4, 11, 12, 13] (by kernel_rfl) (by kernel_rfl) (by kernel_rfl) ?_
              refine load_box (d := fP (rF G l i j)) 0 rfl hfb rfl (load_F _ _) fun y0 => ?_
              refine index_elem (v := riv) (e := fun t => fP ((rrow G i j).getD t f0)) (n := (rrow G i j).length) 2 rfl hri l rfl (by rw [rrow_len]; omega) ?_
              refine at_call 6 3 rfl rfl hmv hmi i j l (mF G j l) hat fun y5 => ?_
              refine load_elem' (e := fun t => fP ((rrow G i j).getD t f0)) (n := (rrow G i j).length) (d := fP (rF G l i l)) 2 rfl l (by rw [rrow_len]; omega) (by rw [rrow_get hlj]) (load_F _ _) fun y4 => ?_
              refine call_fn (htimes y4 y5) (Seals.refl _ _) qS ?_
              rintro y6 _ _ ⟨rfl, rfl⟩
              refine call_fn (hless y0 y6) (Seals.refl _ _) qS ?_
              rintro y7 _ _ ⟨rfl, rfl⟩
              refine store_box (d := fP (rF G (l + 1) i j)) 0 rfl hfb rfl (by kernel_rfl) (Reads.fact (v := y7) qM) ?_
              refine ar rfl qI ?_
              exact again (l + 1) (by omega) (by simp only; omega) qF (Seals.trans (Seals.box0 rfl) (Seals.sub qD))
            · refine ordE_go [] [] [] [10] [0, 1, 2, 5, 6, 7, 8, 9, 10, 3, 4, 11, 12, 13] (by kernel_rfl) (by kernel_rfl) (by kernel_rfl) ?_
              refine load_box (d := fP (rF G l i j)) 0 rfl hfb rfl (load_F _ _) fun y0 => ?_
              refine at_call 6 3 rfl rfl hmv hmi i j l (mF G j l) hat fun y5 => ?_
              refine index_elem (v := riv) (e := fun t => fP ((rrow G i j).getD t f0)) (n := (rrow G i j).length) 2 rfl hri l rfl (by rw [rrow_len]; omega) ?_
              refine load_elem' (e := fun t => fP ((rrow G i j).getD t f0)) (n := (rrow G i j).length) (d := fP (rF G l i l)) 2 rfl l (by rw [rrow_len]; omega) (by rw [rrow_get hlj]) (load_F _ _) fun y4 => ?_
              refine call_fn (htimes y4 y5) (Seals.refl _ _) qS ?_
              rintro y6 _ _ ⟨rfl, rfl⟩
              refine call_fn (hless y0 y6) (Seals.refl _ _) qS ?_
              rintro y7 _ _ ⟨rfl, rfl⟩
              refine store_box (d := fP (rF G (l + 1) i j)) 0 rfl hfb rfl (by kernel_rfl) (Reads.fact (v := y7) qM) ?_
              refine ar rfl qI ?_
              exact again (l + 1) (by omega) (by simp only; omega) qF (Seals.trans (Seals.box0 rfl) (Seals.sub qD))
        · refine ord_split 4 10 (by kernel_rfl) (by kernel_rfl) (by kernel_rfl) ?_ ?_
          · refine ordE_go [] [] [] [10] [1, 2, 3, 4, 5, 6, 7, 8, 9, 10, 0, 11, 12, 13] (by kernel_rfl) (by kernel_rfl) (by kernel_rfl) ?_
            refine index_elem (v := riv) (e := fun t => fP ((rrow G i j).getD t f0)) (n := (rrow G i j).length) 2 rfl hri l rfl (by rw [rrow_len]; omega) ?_
            refine load_elem' (e := fun t => fP ((rrow G i j).getD t f0)) (n := (rrow G i j).length) (d := fP (rF G l i l)) 2 rfl l (by rw [rrow_len]; omega) (by rw [rrow_get hlj]) (load_F _ _) fun y4 => ?_
            refine at_call 6 3 rfl rfl hmv hmi i j l (mF G j l) hat fun y5 => ?_
            refine load_box (d := fP (rF G l i j)) 0 rfl hfb rfl (load_F _ _) fun y0 => ?_
            refine call_fn (htimes y4 y5) (Seals.refl _ _) qS ?_
            rintro y6 _ _ ⟨rfl, rfl⟩
            refine call_fn (hless y0 y6) (Seals.refl _ _) qS ?_
            rintro y7 _ _ ⟨rfl, rfl⟩
            refine store_box (d := fP (rF G (l + 1) i j)) 0 rfl hfb rfl (by kernel_rfl) (Reads.fact (v := y7) qM) ?_
            refine ar rfl qI ?_
            exact again (l + 1) (by omega) (by simp only; omega) qF (Seals.trans (Seals.box0 rfl) (Seals.sub qD))
          · refine ord_split 3 10 (by kernel_rfl) (by kernel_rfl) (by kernel_rfl) ?_ ?_
            · refine ordE_go [] [] [] [10] [1, 2, 3, 5, 6, 7, 8, 9, 10, 0, 4, 11, 12, 13] (by kernel_rfl) (by kernel_rfl) (by kernel_rfl) ?_
              refine index_elem (v := riv) (e := fun t => fP ((rrow G i j).getD t f0)) (n := (rrow G i j).length) 2 rfl hri l rfl (by rw [rrow_len]; omega) ?_
              refine at_call 6 3 rfl rfl hmv hmi i j l (mF G j l) hat fun y5 => ?_
              refine load_box (d := fP (rF G l i j)) 0 rfl hfb rfl (load_F _ _) fun y0 => ?_
              refine load_elem' (e := fun t => fP ((rrow G i j).getD t f0)) (n := (rrow G i j).length) (d := fP (rF G l i l)) 2 rfl l (by rw [rrow_len]; omega) (by rw [rrow_get hlj]) (load_F _ _) fun y4 => ?_
              refine call_fn (htimes y4 y5) (Seals.refl _ _) qS ?_
              rintro y6 _ _ ⟨rfl, rfl⟩
              refine call_fn (hless y0 y6) (Seals.refl _ _) qS ?_
              rintro y7 _ _ ⟨rfl, rfl⟩
              refine store_box (d := fP (rF G (l + 1) i j)) 0 rfl hfb rfl (by kernel_rfl) (Reads.fact (v := y7) qM) ?_
              refine ar rfl qI ?_
              exact again (l + 1) (by omega) (by simp only; omega) qF (Seals.trans (Seals.box0 rfl) (Seals.sub qD))
            · refine ordE_go [] [] [] [10] [1, 2, 5, 6, 7, 8, 9, 10, 0, 3, 4, 11, 12, 13] (by kernel_rfl) (by kernel_rfl) (by kernel_rfl) ?_
              refine at_call 6 3 rfl rfl hmv hmi i j l (mF G j l) hat fun y5 => ?_
              refine load_box (d := fP (rF G l i j)) 0 rfl hfb rfl (load_F _ _) fun y0 => ?_
              refine index_elem (v := riv) (e := fun t => fP ((rrow G i j).getD t f0)) (n := (rrow G i j).length) 2 rfl hri l rfl (by rw [rrow_len]; omega) ?_
              refine load_elem' (e := fun t => fP ((rrow G i j).getD t f0)) (n := (rrow G i j).length) (d := fP (rF G l i l)) 2 rfl l (by rw [rrow_len]; omega) (by rw [rrow_get hlj]) (load_F _ _) fun y4 => ?_
              refine call_fn (htimes y4 y5) (Seals.refl _ _) qS ?_
              rintro y6 _ _ ⟨rfl, rfl⟩
              refine call_fn (hless y0 y6) (Seals.refl _ _) qS ?_
              rintro y7 _ _ ⟨rfl, rfl⟩
              refine store_box (d := fP (rF G (l + 1) i j)) 0 rfl hfb rfl (by kernel_rfl) (Reads.fact (v := y7) qM) ?_
              refine ar rfl qI ?_
              exact again (l + 1) (by omega) (by simp only; omega) qF (Seals.trans (Seals.box0 rfl) (Seals.sub qD))
      · have hlj : l = j := by omega
        subst hlj
        refine load_box (d := fP (rF G l i l)) 0 rfl hfb rfl (load_F _ _) fun y8 => ?_
        refine lit_L (size := 4) fP f0 (rF G l i l) (by decide) (Reads.fact (v := y8) (d := fP (rF G l i l)) (List.Mem.head _)) rfl fun l1 => ?_
        refine append_L (m := [rF G l i l]) 2 rfl hri (Knw.fact (List.Mem.head _)) (by rw [rrow_len]; simp only [List.length_cons, List.length_nil]; omega) (by rw [rrow_len]; simp only [List.length_cons, List.length_nil]; omega) fun ri2 hri2 => ?_
        refine cmp_split _ rfl (fun hc4 => ?_) (fun hc4 => ?_)
        · have hli : l < i := by omega
          have hover := hover i l hik hli (hd l (by omega)) (hd (l + 1) (by omega))
          refine draw_rule [0, 1, 2, 3, 4, 5, 6, 7, 8, 9] [0, 1, 2, 3, 4, 5, 6, 7, 8, 9] (by kernel_rfl) (by kernel_rfl) ?_
          refine load_box (d := fP (rF G l i l)) 0 rfl hfb rfl (load_F _ _) fun y9 => ?_
          refine index_elem (v := nv) (e := fun t => fP ((nrow G i).getD t f0)) (n := (nrow G i).length) 5 rfl hnv l rfl (by rw [nrow_len]; exact hli) ?_
          refine load_elem' (e := fun t => fP ((nrow G i).getD t f0)) (n := (nrow G i).length) (d := fP (nF G l)) 5 rfl l (by rw [nrow_len]; exact hli) (by rw [nrow_get hli]) (load_F _ _) fun y10 => ?_
          refine call_fn (hover y9 y10) (Seals.refl _ _) qS ?_
          rintro y11 _ _ ⟨rfl, rfl⟩
          refine lit_L (size := 4) fP f0 (mF G i l) (by decide) (Reads.fact (v := y11) (d := fP (mF G i l)) (List.Mem.head _)) rfl fun l2 => ?_
          refine append_L (m := [mF G i l]) 3 rfl hmi (Knw.fact (List.Mem.head _)) (by rw [mrow_len]; simp only [List.length_cons, List.length_nil]; omega) (by rw [mrow_len]; simp only [List.length_cons, List.length_nil]; omega) fun mi2 hmi2 => ?_
          refine ar rfl qI ?_
          refine again (l + 1, mi2, ri2, nv) ⟨by simp only; omega, hmi2, hri2, hnv, fun h => by simp only at h; omega⟩ (by simp only; omega) qF ?_
          simp only [rrow_snoc, mrow_snoc]
          rw [show l + 1 - (l + 1 - i) = l + 1 by omega, show i + (l + 1 - i) = i by omega]
          exact Seals.trans (Seals.drop 0 _ _) (Seals.trans (Seals.drop 0 _ _) (Seals.sub qD))
        · have hli : l = i := by omega
          subst hli
          refine field_box 0 rfl hfb ?_
          refine load_box_field (d := zd (rF G l l l).1) 0 rfl (Part.left (Part.refl _)) (load_I _ _) fun y9 => ?_
          refine call_fn (hsgn l hik y9) (Seals.refl _ _) qS ?_
          rintro _ _ _ ⟨rfl, rfl, rfl⟩
          have hz0 : (rF G l l l).1 = 0 ↔ dG G (l + 1) = 0 := by
            rw [dG_succ]; exact frn_zero (hd l (Nat.le_refl _))
          refine cmp_split _ rfl (fun hc5 => ?_) (fun hc5 => ?_)
          · have h0 : dG G (l + 1) = 0 := hz0.1 (Int.sign_eq_zero_iff_zero.1 hc5)
            refine fin (k2 ⟨l + 1, by omega, h0⟩) ?_
            exact Seals.trans (Seals.drop 0 _ _) (Seals.trans (Seals.drop 0 _ _) (Seals.trans (Seals.drop 0 _ _) (Seals.trans (Seals.drop 0 _ _) (Seals.trans (Seals.drop 0 _ _) (Seals.trans (Seals.drop 0 _ _) (Seals.trans (Seals.drop 0 _ _) (Seals.sub qD)))))))
          · have h0 : dG G (l + 1) ≠ 0 := fun e => hc5 (by rw [hz0.2 e]; rfl)
            have e9 : rF G l l l = nF G l := by unfold rF nF; rw [dG_succ]
            refine load_box (d := fP (rF G l l l)) 0 rfl hfb rfl (load_F _ _) fun y10 => ?_
            refine lit_L (size := 4) fP f0 (nF G l) (by decide) (by rw [← e9]; exact Reads.fact (v := y10) (d := fP (rF G l l l)) (List.Mem.head _)) rfl fun l2 => ?_
            refine append_L (m := [nF G l]) 5 rfl hnv (Knw.fact (List.Mem.head _)) (by rw [nrow_len]; simp only [List.length_cons, List.length_nil]; omega) (by rw [nrow_len]; simp only [List.length_cons, List.length_nil]; omega) fun nv2 hnv2 => ?_
            refine ar rfl qI ?_
            refine again (l + 1, miv, ri2, nv2) ⟨by simp only; omega, hmi, hri2, hnv2, fun _ => h0⟩ (by simp only; omega) qF ?_
            simp only [rrow_snoc, nrow_snoc]
            rw [show l + 1 - (l + 1 - l) = l by omega, show l + (l + 1 - l) = l + 1 by omega]
            exact Seals.trans (Seals.drop 0 _ _) (Seals.trans (Seals.drop 0 _ _) (Seals.sub qD))
    · have hji : j = i + 1 := by omega
      subst hji
      rw [show i + 1 - (i + 1 - i) = i by omega, show i + (i + 1 - i) = i + 1 by omega]
      have h0 := hdi (Nat.lt_succ_self i)
      refine BuildSliceK.pre (Seals.L 1 rfl hmi) ?_
      refine lit_L (size := 1) FL [] (mrow G i i) (by decide) (Reads.fact (v := miv) (d := FL (mrow G i i)) (List.Mem.head _)) rfl fun l1 => ?_
      refine append_L (m := [mrow G i i]) 3 rfl hmv (Knw.fact (List.Mem.head _)) (by rw [mlist_len]; simp only [List.length_cons, List.length_nil]; omega) (by rw [mlist_len]; simp only [List.length_cons, List.length_nil]; omega) fun mv2 hmv2 => ?_
      refine BuildSliceK.pre (Seals.L 0 rfl hri) ?_
      refine lit_L (size := 1) FL [] (rrow G i (i + 1)) (by decide) (Reads.fact (v := riv) (d := FL (rrow G i (i + 1))) (List.Mem.head _)) rfl fun l2 => ?_
      refine append_L (m := [rrow G i (i + 1)]) 0 rfl hrv (Knw.fact (List.Mem.head _)) (by rw [rlist_len]; simp only [List.length_cons, List.length_nil]; omega) (by rw [rlist_len]; simp only [List.length_cons, List.length_nil]; omega) fun rv2 hrv2 => ?_
      refine ar rfl qI ?_
      refine again (i + 1, mv2, nv, rv2) ⟨by simp only; omega, hmv2, hnv, hrv2, fun t ht => by
        by_cases e : t = i + 1
        · rw [e]; exact h0
        · exact hd t (by simp only at ht; omega)⟩ (by simp only; omega) qF ?_
      simp only [mlist_snoc, rlist_snoc]
      exact Seals.sub qD
  · have hik : i = k + 1 := by omega
    subst hik
    refine fin (k1 (fun t ht => hd t ht) mv nv) ?_
    refine Seals.trans (Seals.drop 0 _ _) (Seals.trans (Seals.L 0 rfl hnv) (Seals.trans (Seals.L 0 rfl hmv) (Seals.sub (fun F hF => ?_))))
    rcases List.mem_cons.1 hF with rfl | hF
    · exact List.Mem.head _
    rcases List.mem_cons.1 hF with rfl | hF
    · exact List.Mem.tail _ (List.Mem.head _)
    · exact List.Mem.tail _ (List.Mem.tail _ hF)
theorem straightB {K : Cont} {os : List Own} {fs : List Fact} {v : Value} {m : List Row} {G : Mx} {k E a : Nat} (z : StZ m G k E a) (sv : isSl v)
    (k1 : (∀ t, t ≤ k + 1 → dG G t ≠ 0) → ∀ qm qn, K (.tuple #[qm, qn, .bool true]) (ownL 1 V [] v m :: os) ((qm, LD 1 FL [] (mlist G (k + 1))) :: (qn, FL (nrow G (k + 1))) :: fs))
    (k2 : (∃ t, t ≤ k + 1 ∧ dG G t = 0) → K (.tuple #[.slice none 0 0, .slice none 0 0, .bool false]) (ownL 1 V [] v m :: os) fs) :
    CallK Tryz.prog false (.func (.func 29) #[] #[]) [v, .int .i64 (k : Nat)] (ownL 1 V [] v m :: os) fs K := by
  have hdot := z.dot
  have hmade := z.made
  have htimes := z.times
  have hless := z.less
  have hover := z.over
  have hsgn := z.sgn
  have hkm := z.hk
  have hnm := z.hn
  clear z
  refine call_inline Tryz.func29 (by kernel_rfl) rfl (by kernel_rfl) (Nat.le_of_ble_eq_true rfl) ?_
  refine empty_L FL [] (by decide) fun mv0 hmv0 => ?_
  refine empty_L fP f0 (by decide) fun nv0 hnv0 => ?_
  refine empty_L FL [] (by decide) fun rv0 hrv0 => ?_
  refine loop_rule (X := Nat × Value × Value × Value) (fun x => ([(0, v), (1, .int .i64 (k : Nat)), (7, x.2.1), (8, x.2.2.1), (9, x.2.2.2), (10, .int .i64 (x.1 : Nat))],
      ownL 1 FL [] x.2.2.2 (rlist G x.1) :: ownL 4 fP f0 x.2.2.1 (nrow G x.1) :: ownL 1 FL [] x.2.1 (mlist G x.1) :: ownL 1 V [] v m :: os, fs))
    (fun x => x.1 ≤ k + 1 ∧ isSl x.2.1 ∧ isSl x.2.2.1 ∧ isSl x.2.2.2 ∧ ∀ t, t ≤ x.1 → dG G t ≠ 0) (fun x => k + 1 - x.1) rfl ?_ ?_
  · exact again (0, mv0, nv0, rv0) ⟨Nat.zero_le _, hmv0, hnv0, hrv0, fun t ht => by
      have : t = 0 := by simp only at ht; omega
      rw [this, dG_zero]; decide⟩ trivial qF (Seals.sub qD)
  rintro ⟨i, mv, nv, rv'⟩ ⟨hi, hmv, hnv, hrv, hd⟩
  simp only at hi hmv hnv hrv hd ⊢
  refine cmp_split _ rfl (fun hc => ?_) (fun hc => ?_)
  · have hik : i ≤ k := by omega
    refine empty_L fP f0 (by decide) fun miv0 hmiv0 => ?_
    refine empty_L fP f0 (by decide) fun riv0 hriv0 => ?_
    refine loop_rule (X := Nat × Value × Value × Value) (fun x => ([(0, v), (1, .int .i64 (k : Nat)), (7, mv), (8, x.2.2.2), (9, rv'), (10, .int .i64 (i : Nat)), (11, x.2.1), (12, x.2.2.1), (13, .int .i64 (x.1 : Nat))],
        ownL 4 fP f0 x.2.2.1 (rrow G i x.1) :: ownL 4 fP f0 x.2.1 (mrow G i (x.1 - (x.1 - i))) :: ownL 1 FL [] rv' (rlist G i) :: ownL 4 fP f0 x.2.2.2 (nrow G (i + (x.1 - i))) :: ownL 1 FL [] mv (mlist G i) :: ownL 1 V [] v m :: os, fs))
      (fun x => x.1 ≤ i + 1 ∧ isSl x.2.1 ∧ isSl x.2.2.1 ∧ isSl x.2.2.2 ∧ (i < x.1 → dG G (i + 1) ≠ 0)) (fun x => i + 1 - x.1) rfl ?_ ?_
    · refine again (0, miv0, riv0, nv) ⟨Nat.zero_le _, hmiv0, hriv0, hnv, fun h => absurd h (Nat.not_lt_zero _)⟩ trivial qF ?_
      simp only [Nat.zero_sub, Nat.add_zero]
      exact Seals.sub qD
    rintro ⟨j, miv, riv, nv⟩ ⟨hj, hmi, hri, hnv, hdi⟩
    simp only at hj hmi hri hnv hdi ⊢
    refine cmp_split _ rfl (fun hc2 => ?_) (fun hc2 => ?_)
    · have hji : j ≤ i := by omega
      rw [show j - (j - i) = j by omega, show i + (j - i) = i by omega]
      have hdj : ∀ t, t ≤ j → dG G t ≠ 0 := fun t ht => hd t (by omega)
      refine draw_join (X := Value) (fun z => ([(0, v), (1, .int .i64 (k : Nat)), (7, mv), (8, nv), (9, rv'), (10, .int .i64 (i : Nat)), (11, miv), (12, riv), (13, .int .i64 (j : Nat)), (14, z)],
        own1 z 2 1 (fun _ => zd (mi G 0 i j)) :: ownL 4 fP f0 riv (rrow G i j) :: ownL 4 fP f0 miv (mrow G i j) :: ownL 1 FL [] rv' (rlist G i) :: ownL 4 fP f0 nv (nrow G i) :: ownL 1 FL [] mv (mlist G i) :: ownL 1 V [] v m :: os, fs)) isBox ?_ ?_
      ·
        refine draw_ord [0, 1, 2, 3, 4, 5, 6, 7, 8, 9, 10, 12, 13, 11, 14] (by kernel_rfl) ?_
        refine ord_split 8 12 (by kernel_rfl) (by kernel_rfl) (by kernel_rfl) ?_ ?_
        · refine ord_go [0, 1, 2, 3, 4, 5, 6, 7, 8, 9, 10, 11, 12, 13, 14] (by kernel_rfl) (by kernel_rfl) ?_
          refine index_elem (v := v) (e := fun i => V (m.getD i [])) (n := m.length) 5 rfl sv i rfl (by omega) ?_
          refine load_elem' (e := fun i => V (m.getD i [])) (n := m.length) (d := V (m.getD i [])) 5 rfl i (by omega) rfl (load_V _) fun x1 => ?_
          refine index_elem (v := v) (e := fun i => V (m.getD i [])) (n := m.length) 5 rfl sv j rfl (by omega) ?_
          refine load_elem' (e := fun i => V (m.getD i [])) (n := m.length) (d := V (m.getD j [])) 5 rfl j (by omega) rfl (load_V _) fun x2 => ?_
          refine call_fn (hdot x1 x2 i j (by omega) (by omega)) (Seals.refl _ _) qS ?_
          rintro _ _ _ ⟨rfl, q0, rfl, rfl⟩
          refine alloc_rule (d := I false []) fun xb hxb => ?_
          refine store_box (d := zd (mi G 0 i j)) 0 rfl hxb rfl (by kernel_rfl) (Reads.fact (v := q0) qM) ?_
          exact again xb hxb trivial qF (Seals.trans (Seals.box0 rfl) (Seals.sub qD))
        · refine ord_go [0, 1, 2, 3, 4, 5, 6, 7, 12, 8, 9, 10, 11, 13, 14] (by kernel_rfl) (by kernel_rfl) ?_
          refine index_elem (v := v) (e := fun i => V (m.getD i [])) (n := m.length) 5 rfl sv i rfl (by omega) ?_
          refine load_elem' (e := fun i => V (m.getD i [])) (n := m.length) (d := V (m.getD i [])) 5 rfl i (by omega) rfl (load_V _) fun x1 => ?_
          refine index_elem (v := v) (e := fun i => V (m.getD i [])) (n := m.length) 5 rfl sv j rfl (by omega) ?_
          refine load_elem' (e := fun i => V (m.getD i [])) (n := m.length) (d := V (m.getD j [])) 5 rfl j (by omega) rfl (load_V _) fun x2 => ?_
          refine alloc_rule (d := I false []) fun xb hxb => ?_
          refine call_fn (hdot x1 x2 i j (by omega) (by omega)) (Seals.refl _ _) qS ?_
          rintro _ _ _ ⟨rfl, q0, rfl, rfl⟩
          refine store_box (d := zd (mi G 0 i j)) 0 rfl hxb rfl (by kernel_rfl) (Reads.fact (v := q0) qM) ?_
          exact again xb hxb trivial qF (Seals.trans (Seals.box0 rfl) (Seals.sub qD))
      rintro xb hxb
      refine draw_join (X := Value) (fun z => ([(0, v), (1, .int .i64 (k : Nat)), (7, mv), (8, nv), (9, rv'), (10, .int .i64 (i : Nat)), (11, miv), (12, riv), (13, .int .i64 (j : Nat)), (14, xb), (16, z)],
        own1 z 4 1 (fun _ => fP (rF G 0 i j)) :: own1 xb 2 1 (fun _ => zd (mi G 0 i j)) :: ownL 4 fP f0 riv (rrow G i j) :: ownL 4 fP f0 miv (mrow G i j) :: ownL 1 FL [] rv' (rlist G i) :: ownL 4 fP f0 nv (nrow G i) :: ownL 1 FL [] mv (mlist G i) :: ownL 1 V [] v m :: os, fs)) isBox ?_ ?_
      ·
        refine draw_ord [0, 1, 2, 3, 4] (by kernel_rfl) ?_
        refine ord_split 1 3 (by kernel_rfl) (by kernel_rfl) (by kernel_rfl) ?_ ?_
        · refine ord_split 2 3 (by kernel_rfl) (by kernel_rfl) (by kernel_rfl) ?_ ?_
          · refine ord_go [0, 1, 2, 3, 4] (by kernel_rfl) (by kernel_rfl) ?_
            refine load_box (d := zd (mi G 0 i j)) 0 rfl hxb rfl (load_I _ _) fun y1 => ?_
            refine call_fn (rOf_meets 1 (by decide) (by decide)) (Seals.refl _ _) qS ?_
            rintro y2 _ _ ⟨rfl, rfl⟩
            refine call_fn (hmade i j y1 y2) (Seals.refl _ _) qS ?_
            rintro y3 _ _ ⟨rfl, rfl⟩
            refine alloc_rule (d := .cat (I false []) (I false [])) fun fb hfb => ?_
            refine store_box (d := fP (rF G 0 i j)) 0 rfl hfb rfl (by kernel_rfl) (Reads.fact (v := y3) qM) ?_
            exact again fb hfb trivial qF (Seals.trans (Seals.box0 rfl) (Seals.sub qD))
          · refine ord_go [0, 1, 3, 2, 4] (by kernel_rfl) (by kernel_rfl) ?_
            refine load_box (d := zd (mi G 0 i j)) 0 rfl hxb rfl (load_I _ _) fun y1 => ?_
            refine call_fn (rOf_meets 1 (by decide) (by decide)) (Seals.refl _ _) qS ?_
            rintro y2 _ _ ⟨rfl, rfl⟩
            refine alloc_rule (d := .cat (I false []) (I false [])) fun fb hfb => ?_
            refine call_fn (hmade i j y1 y2) (Seals.refl _ _) qS ?_
            rintro y3 _ _ ⟨rfl, rfl⟩
            refine store_box (d := fP (rF G 0 i j)) 0 rfl hfb rfl (by kernel_rfl) (Reads.fact (v := y3) qM) ?_
            exact again fb hfb trivial qF (Seals.trans (Seals.box0 rfl) (Seals.sub qD))
        · refine ord_go [0, 3, 1, 2, 4] (by kernel_rfl) (by kernel_rfl) ?_
          refine load_box (d := zd (mi G 0 i j)) 0 rfl hxb rfl (load_I _ _) fun y1 => ?_
          refine alloc_rule (d := .cat (I false []) (I false [])) fun fb hfb => ?_
          refine call_fn (rOf_meets 1 (by decide) (by decide)) (Seals.refl _ _) qS ?_
          rintro y2 _ _ ⟨rfl, rfl⟩
          refine call_fn (hmade i j y1 y2) (Seals.refl _ _) qS ?_
          rintro y3 _ _ ⟨rfl, rfl⟩
          refine store_box (d := fP (rF G 0 i j)) 0 rfl hfb rfl (by kernel_rfl) (Reads.fact (v := y3) qM) ?_
          exact again fb hfb trivial qF (Seals.trans (Seals.box0 rfl) (Seals.sub qD))
      rintro fb hfb
      refine loop_rule (X := Nat) (fun l => ([(0, v), (1, .int .i64 (k : Nat)), (7, mv), (8, nv), (9, rv'), (10, .int .i64 (i : Nat)), (11, miv), (12, riv), (13, .int .i64 (j : Nat)), (14, xb), (16, fb), (17, .int .i64 (l : Nat))],
          own1 fb 4 1 (fun _ => fP (rF G l i j)) :: own1 xb 2 1 (fun _ => zd (mi G 0 i j)) :: ownL 4 fP f0 riv (rrow G i j) :: ownL 4 fP f0 miv (mrow G i j) :: ownL 1 FL [] rv' (rlist G i) :: ownL 4 fP f0 nv (nrow G i) :: ownL 1 FL [] mv (mlist G i) :: ownL 1 V [] v m :: os, fs))
        (fun l => l ≤ j) (fun l => j - l) rfl ?_ ?_
      · exact again 0 (Nat.zero_le _) trivial qF (Seals.sub qD)
      rintro l hl
      refine cmp_split _ rfl (fun hc3 => ?_) (fun hc3 => ?_)
      · have hlj : l < j := by omega
        have hat : (j = i ∧ l < (mrow G i j).length ∧ (mrow G i j).getD l f0 = mF G j l) ∨ (j ≠ i ∧ j < (mlist G i).length ∧ l < ((mlist G i).getD j []).length ∧ ((mlist G i).getD j []).getD l f0 = mF G j l) := by
          by_cases e : j = i
          · exact .inl ⟨e, by rw [mrow_len]; omega, by rw [mrow_get hlj, e]⟩
          · have hlt : j < i := by omega
            exact .inr ⟨e, by rw [mlist_len]; exact hlt, by rw [mlist_get hlt, mrow_len]; exact hlj, by rw [mlist_get hlt, mrow_get hlj]⟩
        have htimes := htimes i j l hik hji hlj (hdj l (by omega)) (hdj (l + 1) (by omega))
        have hless := hless i j l hik hji hlj (hdj l (by omega)) (hdj (l + 1) (by omega))
        refine draw_ord [0, 1, 2, 3, 4, 5, 6, 7, 8, 9, 10, 11, 12, 13] (by kernel_rfl) ?_
        refine ord_split 0 10 (by kernel_rfl) (by kernel_rfl) (by kernel_rfl) ?_ ?_
        · refine ord_split 4 10 (by kernel_rfl) (by kernel_rfl) (by kernel_rfl) ?_ ?_
          · refine ordE_go [] [] [] [10] [0, 1, 2, 3, 4, 5, 6, 7, 8, 9, 10, 11, 12, 13] (by kernel_rfl) (by kernel_rfl) (by kernel_rfl) ?_
            refine load_box (d := fP (rF G l i j)) 0 rfl hfb rfl (load_F _ _) fun y0 => ?_
            refine index_elem (v := riv) (e := fun t => fP ((rrow G i j).getD t f0)) (n := (rrow G i j).length) 2 rfl hri l rfl (by rw [rrow_len]; omega) ?_
            refine load_elem' (e := fun t => fP ((rrow G i j).getD t f0)) (n := (rrow G i j).length) (d := fP (rF G l i l)) 2 rfl l (by rw [rrow_len]; omega) (by rw [rrow_get hlj]) (load_F _ _) fun y4 => ?_
            refine at_call 6 3 rfl rfl hmv hmi i j l (mF G j l) hat fun y5 => ?_
            refine call_fn (htimes y4 y5) (Seals.refl _ _) qS ?_
            rintro y6 _ _ ⟨rfl, rfl⟩
            refine call_fn (hless y0 y6) (Seals.refl _ _) qS ?_
            rintro y7 _ _ ⟨rfl, rfl⟩
            refine store_box (d := fP (rF G (l + 1) i j)) 0 rfl hfb rfl (by kernel_rfl) (Reads.fact (v := y7) qM) ?_
            refine ar rfl qI ?_
            exact again (l + 1) (by omega) (by simp only; omega) qF (Seals.trans (Seals.box0 rfl) (Seals.sub qD))
          · refine ord_split 3 10 (by kernel_rfl) (by kernel_rfl) (by kernel_rfl) ?_ ?_
            · refine ordE_go [] [] [] [10] [0, 1, 2, 3, 5, 6, 7, 8, 9, 10, 4, 11, 12, 13] (by kernel_rfl) (by kernel_rfl) (by kernel_rfl) ?_
              refine load_box (d := fP (rF G l i j)) 0 rfl hfb rfl (load_F _ _) fun y0 => ?_
              refine index_elem (v := riv) (e := fun t => fP ((rrow G i j).getD t f0)) (n := (rrow G i j).length) 2 rfl hri l rfl (by rw [rrow_len]; omega) ?_
              refine at_call 6 3 rfl rfl hmv hmi i j l (mF G j l) hat fun y5 => ?_
              refine load_elem' (e := fun t => fP ((rrow G i j).getD t f0)) (n := (rrow G i j).length) (d := fP (rF G l i l)) 2 rfl l (by rw [rrow_len]; omega) (by rw [rrow_get hlj]) (load_F _ _) fun y4 => ?_
              refine call_fn (htimes y4 y5) (Seals.refl _ _) qS ?_
              rintro y6 _ _ ⟨rfl, rfl⟩
              refine call_fn (hless y0 y6) (Seals.refl _ _) qS ?_
              rintro y7 _ _ ⟨rfl, rfl⟩
              refine store_box (d := fP (rF G (l + 1) i j)) 0 rfl hfb rfl (by kernel_rfl) (Reads.fact (v := y7) qM) ?_
              refine ar rfl qI ?_
              exact again (l + 1) (by omega) (by simp only; omega) qF (Seals.trans (Seals.box0 rfl) (Seals.sub qD))
            · refine ordE_go [] [] [] [10] [0, 1, 2, 5, 6, 7, 8, 9, 10, 3, 4, 11, 12, 13] (by kernel_rfl) (by kernel_rfl) (by kernel_rfl) ?_
              refine load_box (d := fP (rF G l i j)) 0 rfl hfb rfl (load_F _ _) fun y0 => ?_
              refine at_call 6 3 rfl rfl hmv hmi i j l (mF G j l) hat fun y5 => ?_
              refine index_elem (v := riv) (e := fun t => fP ((rrow G i j).getD t f0)) (n := (rrow G i j).length) 2 rfl hri l rfl (by rw [rrow_len]; omega) ?_
              refine load_elem' (e := fun t => fP ((rrow G i j).getD t f0)) (n := (rrow G i j).length) (d := fP (rF G l i l)) 2 rfl l (by rw [rrow_len]; omega) (by rw [rrow_get hlj]) (load_F _ _) fun y4 => ?_
              refine call_fn (htimes y4 y5) (Seals.refl _ _) qS ?_
              rintro y6 _ _ ⟨rfl, rfl⟩
              refine call_fn (hless y0 y6) (Seals.refl _ _) qS ?_
              rintro y7 _ _ ⟨rfl, rfl⟩
              refine store_box (d := fP (rF G (l + 1) i j)) 0 rfl hfb rfl (by kernel_rfl) (Reads.fact (v := y7) qM) ?_
              refine ar rfl qI ?_
              exact again (l + 1) (by omega) (by simp only; omega) qF (Seals.trans (Seals.box0 rfl) (Seals.sub qD))
        · refine ord_split 4 10 (by kernel_rfl) (by kernel_rfl) (by kernel_rfl) ?_ ?_
          · refine ordE_go [] [] [] [10] [1, 2, 3, 4, 5, 6, 7, 8, 9, 10, 0, 11, 12, 13] (by kernel_rfl) (by kernel_rfl) (by kernel_rfl) ?_
            refine index_elem (v := riv) (e := fun t => fP ((rrow G i j).getD t f0)) (n := (rrow G i j).length) 2 rfl hri l rfl (by rw [rrow_len]; omega) ?_
            refine load_elem' (e := fun t => fP ((rrow G i j).getD t f0)) (n := (rrow G i j).length) (d := fP (rF G l i l)) 2 rfl l (by rw [rrow_len]; omega) (by rw [rrow_get hlj]) (load_F _ _) fun y4 => ?_
            refine at_call 6 3 rfl rfl hmv hmi i j l (mF G j l) hat fun y5 => ?_
            refine load_box (d := fP (rF G l i j)) 0 rfl hfb rfl (load_F _ _) fun y0 => ?_
            refine call_fn (htimes y4 y5) (Seals.refl _ _) qS ?_
            rintro y6 _ _ ⟨rfl, rfl⟩
            refine call_fn (hless y0 y6) (Seals.refl _ _) qS ?_
            rintro y7 _ _ ⟨rfl, rfl⟩
            refine store_box (d := fP (rF G (l + 1) i j)) 0 rfl hfb rfl (by kernel_rfl) (Reads.fact (v := y7) qM) ?_
            refine ar rfl qI ?_
            exact again (l + 1) (by omega) (by simp only; omega) qF (Seals.trans (Seals.box0 rfl) (Seals.sub qD))
          · refine ord_split 3 10 (by kernel_rfl) (by kernel_rfl) (by kernel_rfl) ?_ ?_
            · refine ordE_go [] [] [] [10] [1, 2, 3, 5, 6, 7, 8, 9, 10, 0, 4, 11, 12, 13] (by kernel_rfl) (by kernel_rfl) (by kernel_rfl) ?_
              refine index_elem (v := riv) (e := fun t => fP ((rrow G i j).getD t f0)) (n := (rrow G i j).length) 2 rfl hri l rfl (by rw [rrow_len]; omega) ?_
              refine at_call 6 3 rfl rfl hmv hmi i j l (mF G j l) hat fun y5 => ?_
              refine load_box (d := fP (rF G l i j)) 0 rfl hfb rfl (load_F _ _) fun y0 => ?_
              refine load_elem' (e := fun t => fP ((rrow G i j).getD t f0)) (n := (rrow G i j).length) (d := fP (rF G l i l)) 2 rfl l (by rw [rrow_len]; omega) (by rw [rrow_get hlj]) (load_F _ _) fun y4 => ?_
              refine call_fn (htimes y4 y5) (Seals.refl _ _) qS ?_
              rintro y6 _ _ ⟨rfl, rfl⟩
              refine call_fn (hless y0 y6) (Seals.refl _ _) qS ?_
              rintro y7 _ _ ⟨rfl, rfl⟩
              refine store_box (d := fP (rF G (l + 1) i j)) 0 rfl hfb rfl (by kernel_rfl) (Reads.fact (v := y7) qM) ?_
              refine ar rfl qI ?_
              exact again (l + 1) (by omega) (by simp only; omega) qF (Seals.trans (Seals.box0 rfl) (Seals.sub qD))
            · refine ordE_go [] [] [] [10] [1, 2, 5, 6, 7, 8, 9, 10, 0, 3, 4, 11, 12, 13] (by kernel_rfl) (by kernel_rfl) (by kernel_rfl) ?_
              refine at_call 6 3 rfl rfl hmv hmi i j l (mF G j l) hat fun y5 => ?_
              refine load_box (d := fP (rF G l i j)) 0 rfl hfb rfl (load_F _ _) fun y0 => ?_
              refine index_elem (v := riv) (e := fun t => fP ((rrow G i j).getD t f0)) (n := (rrow G i j).length) 2 rfl hri l rfl (by rw [rrow_len]; omega) ?_
              refine load_elem' (e := fun t => fP ((rrow G i j).getD t f0)) (n := (rrow G i j).length) (d := fP (rF G l i l)) 2 rfl l (by rw [rrow_len]; omega) (by rw [rrow_get hlj]) (load_F _ _) fun y4 => ?_
              refine call_fn (htimes y4 y5) (Seals.refl _ _) qS ?_
              rintro y6 _ _ ⟨rfl, rfl⟩
              refine call_fn (hless y0 y6) (Seals.refl _ _) qS ?_
              rintro y7 _ _ ⟨rfl, rfl⟩
              refine store_box (d := fP (rF G (l + 1) i j)) 0 rfl hfb rfl (by kernel_rfl) (Reads.fact (v := y7) qM) ?_
              refine ar rfl qI ?_
              exact again (l + 1) (by omega) (by simp only; omega) qF (Seals.trans (Seals.box0 rfl) (Seals.sub qD))
      · have hlj : l = j := by omega
        subst hlj
        refine load_box (d := fP (rF G l i l)) 0 rfl hfb rfl (load_F _ _) fun y8 => ?_
        refine lit_L (size := 4) fP f0 (rF G l i l) (by decide) (Reads.fact (v := y8) (d := fP (rF G l i l)) (List.Mem.head _)) rfl fun l1 => ?_
        refine append_L (m := [rF G l i l]) 2 rfl hri (Knw.fact (List.Mem.head _)) (by rw [rrow_len]; simp only [List.length_cons, List.length_nil]; omega) (by rw [rrow_len]; simp only [List.length_cons, List.length_nil]; omega) fun ri2 hri2 => ?_
        refine cmp_split _ rfl (fun hc4 => ?_) (fun hc4 => ?_)
        · have hli : l < i := by omega
          have hover := hover i l hik hli (hd l (by omega)) (hd (l + 1) (by omega))
          refine draw_rule [0, 1, 2, 3, 4, 5, 6, 7, 8, 9] [0, 1, 2, 3, 4, 5, 6, 7, 8, 9] (by kernel_rfl) (by kernel_rfl) ?_
          refine load_box (d := fP (rF G l i l)) 0 rfl hfb rfl (load_F _ _) fun y9 => ?_
          refine index_elem (v := nv) (e := fun t => fP ((nrow G i).getD t f0)) (n := (nrow G i).length) 5 rfl hnv l rfl (by rw [nrow_len]; exact hli) ?_
          refine load_elem' (e := fun t => fP ((nrow G i).getD t f0)) (n := (nrow G i).length) (d := fP (nF G l)) 5 rfl l (by rw [nrow_len]; exact hli) (by rw [nrow_get hli]) (load_F _ _) fun y10 => ?_
          refine call_fn (hover y9 y10) (Seals.refl _ _) qS ?_
          rintro y11 _ _ ⟨rfl, rfl⟩
          refine lit_L (size := 4) fP f0 (mF G i l) (by decide) (Reads.fact (v := y11) (d := fP (mF G i l)) (List.Mem.head _)) rfl fun l2 => ?_
          refine append_L (m := [mF G i l]) 3 rfl hmi (Knw.fact (List.Mem.head _)) (by rw [mrow_len]; simp only [List.length_cons, List.length_nil]; omega) (by rw [mrow_len]; simp only [List.length_cons, List.length_nil]; omega) fun mi2 hmi2 => ?_
          refine ar rfl qI ?_
          refine again (l + 1, mi2, ri2, nv) ⟨by simp only; omega, hmi2, hri2, hnv, fun h => by simp only at h; omega⟩ (by simp only; omega) qF ?_
          simp only [rrow_snoc, mrow_snoc]
          rw [show l + 1 - (l + 1 - i) = l + 1 by omega, show i + (l + 1 - i) = i by omega]
          exact Seals.trans (Seals.drop 0 _ _) (Seals.trans (Seals.drop 0 _ _) (Seals.sub qD))
        · have hli : l = i := by omega
          subst hli
          refine field_box 0 rfl hfb ?_
          refine load_box_field (d := zd (rF G l l l).1) 0 rfl (Part.left (Part.refl _)) (load_I _ _) fun y9 => ?_
          refine call_fn (hsgn l hik y9) (Seals.refl _ _) qS ?_
          rintro _ _ _ ⟨rfl, rfl, rfl⟩
          have hz0 : (rF G l l l).1 = 0 ↔ dG G (l + 1) = 0 := by
            rw [dG_succ]; exact frn_zero (hd l (Nat.le_refl _))
          refine cmp_split _ rfl (fun hc5 => ?_) (fun hc5 => ?_)
          · have h0 : dG G (l + 1) = 0 := hz0.1 (Int.sign_eq_zero_iff_zero.1 hc5)
            refine fin (k2 ⟨l + 1, by omega, h0⟩) ?_
            exact Seals.trans (Seals.drop 0 _ _) (Seals.trans (Seals.drop 0 _ _) (Seals.trans (Seals.drop 0 _ _) (Seals.trans (Seals.drop 0 _ _) (Seals.trans (Seals.drop 0 _ _) (Seals.trans (Seals.drop 0 _ _) (Seals.trans (Seals.drop 0 _ _) (Seals.sub qD)))))))
          · have h0 : dG G (l + 1) ≠ 0 := fun e => hc5 (by rw [hz0.2 e]; rfl)
            have e9 : rF G l l l = nF G l := by unfold rF nF; rw [dG_succ]
            refine load_box (d := fP (rF G l l l)) 0 rfl hfb rfl (load_F _ _) fun y10 => ?_
            refine lit_L (size := 4) fP f0 (nF G l) (by decide) (by rw [← e9]; exact Reads.fact (v := y10) (d := fP (rF G l l l)) (List.Mem.head _)) rfl fun l2 => ?_
            refine append_L (m := [nF G l]) 5 rfl hnv (Knw.fact (List.Mem.head _)) (by rw [nrow_len]; simp only [List.length_cons, List.length_nil]; omega) (by rw [nrow_len]; simp only [List.length_cons, List.length_nil]; omega) fun nv2 hnv2 => ?_
            refine ar rfl qI ?_
            refine again (l + 1, miv, ri2, nv2) ⟨by simp only; omega, hmi, hri2, hnv2, fun _ => h0⟩ (by simp only; omega) qF ?_
            simp only [rrow_snoc, nrow_snoc]
            rw [show l + 1 - (l + 1 - l) = l by omega, show l + (l + 1 - l) = l + 1 by omega]
            exact Seals.trans (Seals.drop 0 _ _) (Seals.trans (Seals.drop 0 _ _) (Seals.sub qD))
    · have hji : j = i + 1 := by omega
      subst hji
      rw [show i + 1 - (i + 1 - i) = i by omega, show i + (i + 1 - i) = i + 1 by omega]
      have h0 := hdi (Nat.lt_succ_self i)
      refine BuildSliceK.pre (Seals.L 1 rfl hmi) ?_
      refine lit_L (size := 1) FL [] (mrow G i i) (by decide) (Reads.fact (v := miv) (d := FL (mrow G i i)) (List.Mem.head _)) rfl fun l1 => ?_
      refine append_L (m := [mrow G i i]) 3 rfl hmv (Knw.fact (List.Mem.head _)) (by rw [mlist_len]; simp only [List.length_cons, List.length_nil]; omega) (by rw [mlist_len]; simp only [List.length_cons, List.length_nil]; omega) fun mv2 hmv2 => ?_
      refine BuildSliceK.pre (Seals.L 0 rfl hri) ?_
      refine lit_L (size := 1) FL [] (rrow G i (i + 1)) (by decide) (Reads.fact (v := riv) (d := FL (rrow G i (i + 1))) (List.Mem.head _)) rfl fun l2 => ?_
      refine append_L (m := [rrow G i (i + 1)]) 0 rfl hrv (Knw.fact (List.Mem.head _)) (by rw [rlist_len]; simp only [List.length_cons, List.length_nil]; omega) (by rw [rlist_len]; simp only [List.length_cons, List.length_nil]; omega) fun rv2 hrv2 => ?_
      refine ar rfl qI ?_
      refine again (i + 1, mv2, nv, rv2) ⟨by simp only; omega, hmv2, hnv, hrv2, fun t ht => by
        by_cases e : t = i + 1
        · rw [e]; exact h0
        · exact hd t (by simp only at ht; omega)⟩ (by simp only; omega) qF ?_
      simp only [mlist_snoc, rlist_snoc]
      exact Seals.sub qD
  · have hik : i = k + 1 := by omega
    subst hik
    refine fin (k1 (fun t ht => hd t ht) mv nv) ?_
    refine Seals.trans (Seals.drop 0 _ _) (Seals.trans (Seals.L 0 rfl hnv) (Seals.trans (Seals.L 0 rfl hmv) (Seals.sub (fun F hF => ?_))))
    rcases List.mem_cons.1 hF with rfl | hF
    · exact List.Mem.head _
    rcases List.mem_cons.1 hF with rfl | hF
    · exact List.Mem.tail _ (List.Mem.head _)
    · exact List.Mem.tail _ (List.Mem.tail _ hF)
open Go.RowKit
theorem rFloor_meets (v w : Value) (x y : Int) (k : Nat) (hx : sz x k) (hy : sz y k) (hk : k ≤ 34359738368) (h0 : 0 < y) :
    Meets Tryz.prog 71 [v, w] [(v, zd x), (w, zd y)] (fun r os fs => os = [] ∧ fs = [(r, zd (x / y))]) := by
  have hsg := fun z => rSign_meets z (cn y).1 (cn y).2 (Lim_lims _) (Nat.le_trans hy.len (by omega))
  have e1 : iv (cn y).1 (cn y).2 = y := jv_cn _
  rw [e1] at hsg
  refine meets_of_vc Tryz.func71 (by kernel_rfl) rfl (by kernel_rfl) (Nat.le_of_ble_eq_true rfl) ?_
  refine box_rule (Reads.fact (d := zd x) qM) fun p hp => ?_
  refine box_rule (Reads.fact (d := zd y) qM) fun q hq => ?_
  refine alloc_rule (d := I false []) fun o ho => ?_
  refine load_box (d := zd y) 1 rfl hq rfl (load_I _ _) fun x1 => ?_
  refine call_fn (hsg x1) (Seals.refl _ _) qS ?_
  rintro _ _ _ ⟨rfl, rfl, rfl⟩
  refine cmp_false rfl (by rw [Int.sign_eq_one_of_pos h0]; decide) ?_
  refine load_box (d := zd x) 2 rfl hp rfl (load_I _ _) fun y1 => ?_
  refine load_box (d := zd y) 1 rfl hq rfl (load_I _ _) fun y2 => ?_
  refine call_fn (rDivModZ y1 y2 x y k hx hy hk (by omega)) (Seals.refl _ _) qS ?_
  rintro _ _ _ ⟨rfl, u1, u2, rfl, rfl⟩
  refine alloc_rule (d := I false []) fun b1 h1 => ?_
  refine alloc_rule (d := I false []) fun b2 h2 => ?_
  refine store_box (d := zd (x / y)) 1 rfl h1 rfl (by kernel_rfl) (Reads.fact (v := u1) qM) ?_
  refine store_box (d := zd (x % y)) 0 rfl h2 rfl (by kernel_rfl) (Reads.fact (v := u2) qM) ?_
  refine load_box (d := zd (x / y)) 1 rfl h1 rfl (load_I _ _) fun y3 => ?_
  refine store_box (d := zd (x / y)) 2 rfl ho rfl (by kernel_rfl) (Reads.fact (v := y3) qM) ?_
  refine load_box (d := zd (x / y)) 2 rfl ho rfl (load_I _ _) fun r => ?_
  refine fin ⟨rfl, rfl⟩ ?_
  repeat (first | exact Seals.sub (fs' := [(r, zd (x / y))]) qS | refine Seals.trans (Seals.drop 0 _ _) ?_)
theorem sz_add {x y : Int} {k : Nat} (hx : sz x k) (hy : sz y k) : sz (x + y) (k + 1) := by
  have := sz_sub hx hy.neg
  rwa [show x - -y = x + y by omega] at this
theorem rRound_meets (v w : Value) (x y : Int) (k : Nat) (hx : sz x k) (hy : sz y k) (hk : k ≤ 1073741824) (h0 : 0 < y) :
    Meets Tryz.prog 31 [v, w] [(v, zd x), (w, zd y)] (fun r os fs => os = [] ∧ ∃ q, r = .tuple #[q, .bool true] ∧ fs = [(q, zd (rnd x y))]) := by
  have hsg := fun z => rSign_meets z (cn y).1 (cn y).2 (Lim_lims _) (Nat.le_trans hy.len (by omega))
  have e1 : iv (cn y).1 (cn y).2 = y := jv_cn _
  rw [e1] at hsg
  have c1 := fun a b => rAddZ a b x x k hx hx (by omega)
  have c2 := fun a b => rAddZ a b (x + x) y (k + 1) (sz_add hx hx) (hy.mono (by omega)) (by omega)
  have c3 := fun a b => rAddZ a b y y k hy hy (by omega)
  have c4 := fun a b => rFloor_meets a b (x + x + y) (y + y) (k + 2) (sz_add (sz_add hx hx) (hy.mono (by omega))) ((sz_add hy hy).mono (by omega)) (by omega) (by omega)
  have e2 : (x + x + y) / (y + y) = rnd x y := by unfold rnd; rw [show x + x + y = 2 * x + y by omega, show y + y = 2 * y by omega]
  rw [e2] at c4
  refine meets_of_vc Tryz.func31 (by kernel_rfl) rfl (by kernel_rfl) (Nat.le_of_ble_eq_true rfl) ?_
  refine box_rule (Reads.fact (d := zd x) qM) fun p hp => ?_
  refine box_rule (Reads.fact (d := zd y) qM) fun q hq => ?_
  refine alloc_rule (d := I false []) fun o ho => ?_
  refine load_box (d := zd y) 1 rfl hq rfl (load_I _ _) fun x1 => ?_
  refine call_fn (hsg x1) (Seals.refl _ _) qS ?_
  rintro _ _ _ ⟨rfl, rfl, rfl⟩
  refine cmp_false rfl (by rw [Int.sign_eq_one_of_pos h0]; decide) ?_
  refine draw_rule [0, 1, 3, 5, 6, 2, 4, 7, 8, 9, 10] [0, 1, 2, 3, 4, 5, 6, 7, 8, 9, 10] (by kernel_rfl) (by kernel_rfl) ?_
  refine load_box (d := zd x) 2 rfl hp rfl (load_I _ _) fun y1 => ?_
  refine load_box (d := zd x) 2 rfl hp rfl (load_I _ _) fun y2 => ?_
  refine load_box (d := zd y) 1 rfl hq rfl (load_I _ _) fun y3 => ?_
  refine load_box (d := zd y) 1 rfl hq rfl (load_I _ _) fun y4 => ?_
  refine load_box (d := zd y) 1 rfl hq rfl (load_I _ _) fun y5 => ?_
  refine call_fn (c1 y1 y2) (Seals.refl _ _) qS ?_
  rintro z1 _ _ ⟨rfl, rfl⟩
  refine call_fn (c2 z1 y3) (Seals.refl _ _) qS ?_
  rintro z2 _ _ ⟨rfl, rfl⟩
  refine call_fn (c3 y4 y5) (Seals.refl _ _) qS ?_
  rintro z3 _ _ ⟨rfl, rfl⟩
  refine call_fn (c4 z2 z3) (Seals.refl _ _) qS ?_
  rintro z4 _ _ ⟨rfl, rfl⟩
  refine store_box (d := zd (rnd x y)) 0 rfl ho rfl (by kernel_rfl) (Reads.fact (v := z4) qM) ?_
  refine load_box (d := zd (rnd x y)) 0 rfl ho rfl (load_I _ _) fun r => ?_
  refine fin ⟨rfl, r, rfl, rfl⟩ ?_
  repeat (first | exact Seals.sub (fs' := [(r, zd (rnd x y))]) qS | refine Seals.trans (Seals.drop 0 _ _) ?_)
def tkn (a b : Row) (q : Int) : Row := (List.range a.length).map fun i => cn (rv a i - q * rv b i)
theorem rTaken_meets (v w u : Value) (a b : Row) (q : Bool × List Nat) (k e : Nat) (ha : Fit k a) (hb : Fit k b) (hq : Lim q.2) (lq : q.2.length ≤ e) (hl : a.length ≤ b.length) (hk : k + e + 2 ≤ 137438953472) (lm : a.length ≤ 1073741824) :
    Meets Tryz.prog 30 [v, w, u] [(v, V a), (w, V b), (u, J q)] (fun r os fs => os = [] ∧ fs = [(r, V (tkn a b (jv q)))]) := by
  refine meets_of_vc Tryz.func30 (by kernel_rfl) rfl (by kernel_rfl) (Nat.le_of_ble_eq_true rfl) ?_
  refine box_rule (Reads.fact (d := J q) qM) fun p hp => ?_
  refine empty_L J z0 (by decide) fun o ho => ?_
  refine loop_rule (X := Nat × Value) (fun x => ([(0, v), (1, w), (5, p), (7, x.2), (8, .int .i64 (x.1 : Nat))], [ownL 2 J z0 x.2 ((List.range x.1).map fun i => cn (rv a i - jv q * rv b i)), own1 p 2 1 (fun _ => J q)], [(v, V a), (w, V b)]))
    (fun x => x.1 ≤ a.length ∧ isSl x.2) (fun x => a.length - x.1) rfl ?_ ?_
  · exact again (0, o) ⟨Nat.zero_le _, ho⟩ trivial qF (Seals.sub (fs' := [(v, V a), (w, V b)]) qS)
  · rintro ⟨i, o⟩ ⟨hi, ho⟩
    simp only at hi ho ⊢
    refine len_fact (v := v) qM fun _ => ?_
    refine cmp_split _ rfl (fun hc => ?_) (fun hc => ?_)
    · have hia : i < a.length := by omega
      have f1 := ha.get i
      have f2 := hb.get i
      have g1 : sz (jv q * rv b i) (e + k) := (sz_jv hq lq).mul (rv_sz hb i)
      have hsub := fun y z => rZSub_meets y z (a.getD i z0).1 (decide (jv q * rv b i < 0)) (a.getD i z0).2 (lims (jv q * rv b i).natAbs) f1.1 (Lim_lims _) (by omega) (Nat.le_trans g1.len (by omega))
      simp only [iv_zd] at hsub
      refine draw_rule [0, 1, 2, 3, 4, 5, 6, 7, 8, 9, 10, 11, 12, 13, 14] [0, 1, 2, 3, 4, 5, 6, 7, 8, 9, 10, 11, 12, 13, 14] (by kernel_rfl) (by kernel_rfl) ?_
      refine index_fact (v := v) qM i rfl hia fun a1 => ?_
      refine load_fact (d := J (a.getD i z0)) qM (load_J _) fun x1 => ?_
      refine load_box (d := J q) 1 rfl hp rfl (load_J _) fun x2 => ?_
      refine index_fact (v := w) qM i rfl (by omega) fun a2 => ?_
      refine load_fact (d := J (b.getD i z0)) qM (load_J _) fun x3 => ?_
      refine call_fn (rMulJ x2 x3 q (b.getD i z0) hq (by omega) f2.1 (by omega)) (Seals.refl _ _) qS ?_
      rintro x4 _ _ ⟨rfl, rfl⟩
      refine call_fn (hsub x1 x4) (Seals.refl _ _) qS ?_
      rintro x5 _ _ ⟨rfl, rfl⟩
      refine lit_L (size := 2) J z0 (cn (rv a i - jv q * rv b i)) (by decide) (Reads.fact (v := x5) (d := zd (rv a i - jv q * rv b i)) (List.Mem.head _)) rfl fun l1 => ?_
      refine append_L 0 rfl ho (Knw.fact (List.Mem.head _)) (by simp; omega) (by simp; omega) fun o2 ho2 => ?_
      refine ar rfl qI ?_
      refine again (i + 1, o2) ⟨by simp only; omega, ho2⟩ (by simp only; omega) qF ?_
      simp only [range_snoc_map]
      exact Seals.sub (fs' := [(v, V a), (w, V b)]) qS
    · have hia : i = a.length := by omega
      subst hia
      exact fin ⟨rfl, rfl⟩ (Seals.trans (Seals.L 0 rfl ho) (Seals.trans (Seals.drop 0 _ _) (Seals.cons ((Knw.fact (List.Mem.head _)).cast rfl) (Seals.nil _ _))))
theorem fr34 : fD 3 4 = fP (fr2 3 4) := by unfold fr2 fP; rw [show frn 3 4 = 3 by decide, show frd 3 4 = 4 by decide]
theorem fr12 : fD 1 2 = fP (fr2 1 2) := by unfold fr2 fP; rw [show frn 1 2 = 1 by decide, show frd 1 2 = 2 by decide]
theorem fr01 : fD 0 1 = fP (fr2 0 1) := by unfold fr2 fP; rw [show frn 0 1 = 0 by decide, show frd 0 1 = 1 by decide]
theorem farD {G : Mx} {k : Nat} (h0 : 0 < dG G k) :
    dG G (k + 1) * (4 * (dG G k * dG G k) * dG G (k - 1)) - (3 * (dG G k * dG G k) - mi G (k - 1) k (k - 1) * mi G (k - 1) k (k - 1) * 4) * dG G k * dG G k < 0 ↔ ¬ 3 * (dG G k * dG G k) ≤ 4 * (dG G (k + 1) * dG G (k - 1) + mi G (k - 1) k (k - 1) * mi G (k - 1) k (k - 1)) := by
  have hp := Int.mul_pos h0 h0
  generalize mi G (k - 1) k (k - 1) = l at *
  generalize dG G (k + 1) = a at *
  generalize dG G (k - 1) = b at *
  generalize dG G k = d at *
  have e : a * (4 * (d * d) * b) - (3 * (d * d) - l * l * 4) * d * d = (d * d) * (4 * (a * b + l * l) - 3 * (d * d)) := by grind
  rw [e]
  constructor
  · intro h hle
    have := Int.mul_nonneg (Int.le_of_lt hp) (show 0 ≤ 4 * (a * b + l * l) - 3 * (d * d) by omega)
    omega
  · intro h
    exact Int.mul_neg_of_pos_of_neg hp (by omega)
theorem rFar_meets (vm vn : Value) {G : Mx} (k n E : Nat) (hk : 1 ≤ k) (hn : k < n) (hnn : n ≤ 1048576) (he : ∀ t i j, t ≤ k + 1 → sz (mi G t i j) E) (hd : ∀ t, t ≤ k + 1 → sz (dG G t) E) (hE : E ≤ 67108864) (hp : ∀ t, t ≤ k + 1 → 0 < dG G t) :
    Meets Tryz.prog 32 [vm, vn, .int .i64 (k : Nat)] [(vm, LD 1 FL [] (mlist G n)), (vn, FL (nrow G n))] (fun r os fs => os = [] ∧ fs = [] ∧ r = .bool (decide (3 * (dG G k * dG G k) ≤ 4 * (dG G (k + 1) * dG G (k - 1) + mi G (k - 1) k (k - 1) * mi G (k - 1) k (k - 1))))) := by
  have d0 := hp k (by omega)
  have d1 := hp (k + 1) (by omega)
  have dm1 := hp (k - 1) (by omega)
  have z0 := hd k (by omega)
  have z1 := hd (k + 1) (by omega)
  have zm := hd (k - 1) (by omega)
  have zl := he (k - 1) k (k - 1) (by omega)
  have em : mF G k (k - 1) = fr2 (mi G (k - 1) k (k - 1)) (dG G k) := by unfold mF; rw [show k - 1 + 1 = k by omega]
  have en : nF G (k - 1) = fr2 (dG G k) (dG G (k - 1)) := by unfold nF; rw [show k - 1 + 1 = k by omega]
  have z34 : sz (3 : Int) (E + E) ∧ sz (4 : Int) (E + E) := by
    have h1 : 1 ≤ E := by
      rcases Nat.eq_zero_or_pos E with h | h
      · subst h; unfold sz at z0; simp at z0; omega
      · exact h
    exact ⟨(sz_num 3 (by decide)).mono (by omega), (sz_num 4 (by decide)).mono (by omega)⟩
  have c1 := fun x y => tTimes (k := E) x y zl z0 zl z0 (by omega) (show dG G k ≠ 0 by omega) (show dG G k ≠ 0 by omega)
  have c2 := fun x y => tLess (k := E + E) x y (a := 3) (b := 4) z34.1 z34.2 (zl.mul zl) (z0.mul z0) (by omega) (by decide) (by have := Int.mul_pos d0 d0; omega)
  rw [← fr34] at c2
  rw [← em] at c1
  have hA : sz (3 * (dG G k * dG G k) - mi G (k - 1) k (k - 1) * mi G (k - 1) k (k - 1) * 4) (E + E + (E + E) + 1) := sz_sub (z34.1.mul (z0.mul z0)) ((zl.mul zl).mul z34.2)
  have hB : sz (4 * (dG G k * dG G k)) (E + E + (E + E) + 1) := (z34.2.mul (z0.mul z0)).mono (by omega)
  have pB : 4 * (dG G k * dG G k) > 0 := by have := Int.mul_pos d0 d0; omega
  have c3 := fun x y => tTimes (k := E + E + (E + E) + 1) x y hA hB (z0.mono (by omega)) (zm.mono (by omega)) (by omega) (by omega) (show dG G (k - 1) ≠ 0 by omega)
  have c4 := fun x y => tBelow (k := E + E + (E + E) + 1 + (E + E + (E + E) + 1)) x y (z1.mono (by omega)) (z0.mono (by omega)) ((hA.mul z0).mono (by omega)) ((hB.mul zm).mono (by omega)) (by omega) d0 (Int.mul_pos pB dm1)
  rw [decide_eq_decide.2 (farD d0)] at c4
  rw [← en] at c3
  refine meets_of_vc Tryz.func32 (by kernel_rfl) rfl (by kernel_rfl) (Nat.le_of_ble_eq_true rfl) ?_
  refine index_fact (v := vm) qM k rfl (by rw [mlist_len]; exact hn) fun a1 => ?_
  refine load_fact (d := FL (mrow G k k)) (by rw [← mlist_get hn]; exact List.Mem.head _) (load_FL _) fun a2 => ?_
  refine ar rfl qI ?_
  refine index_fact (v := a2) (n := (mrow G k k).length) (el := fun i => fP ((mrow G k k).getD i f0)) (List.Mem.head _) (k - 1) (by omega) (by rw [mrow_len]; omega) fun a3 => ?_
  refine load_fact (d := fP (mF G k (k - 1))) (by rw [← mrow_get (show k - 1 < k by omega)]; exact List.Mem.head _) (load_F _ _) fun x => ?_
  refine alloc_rule (d := .cat (I false []) (I false [])) fun xb hxb => ?_
  refine store_box (d := fP (mF G k (k - 1))) 0 rfl hxb rfl (by kernel_rfl) (Reads.fact (v := x) (d := fP (mF G k (k - 1))) (List.Mem.head _)) ?_
  refine draw_rule [0, 1, 2, 3, 7, 8, 11, 12, 13, 14, 15, 4, 5, 6, 9, 10, 16, 17, 18, 19] [0, 1, 2, 3, 4, 5, 6, 7, 8, 9, 10, 11, 12, 13, 14, 15, 16, 17, 18, 19] (by kernel_rfl) (by kernel_rfl) ?_
  refine index_fact (v := vn) (n := (nrow G n).length) (el := fun i => fP ((nrow G n).getD i f0)) qM k rfl (by rw [nrow_len]; exact hn) fun b1 => ?_
  refine load_fact (d := fP (nF G k)) (by rw [← nrow_get hn]; exact List.Mem.head _) (load_F _ _) fun y1 => ?_
  refine load_box (d := fP (mF G k (k - 1))) 0 rfl hxb rfl (load_F _ _) fun y2 => ?_
  refine load_box (d := fP (mF G k (k - 1))) 0 rfl hxb rfl (load_F _ _) fun y3 => ?_
  refine ar rfl qI ?_
  refine index_fact (v := vn) (n := (nrow G n).length) (el := fun i => fP ((nrow G n).getD i f0)) qM (k - 1) (by omega) (by rw [nrow_len]; omega) fun b2 => ?_
  refine load_fact (d := fP (nF G (k - 1))) (by rw [← nrow_get (show k - 1 < n by omega)]; exact List.Mem.head _) (load_F _ _) fun y4 => ?_
  refine call_fn (rOf_meets 3 (by decide) (by decide)) (Seals.refl _ _) qS ?_
  rintro w1 _ _ ⟨rfl, rfl⟩
  refine call_fn (rOf_meets 4 (by decide) (by decide)) (Seals.refl _ _) qS ?_
  rintro w2 _ _ ⟨rfl, rfl⟩
  refine build22 (Knw.fact (v := w1) (d := zd 3) qM) (Knw.fact (v := w2) (d := zd 4) qM) rfl rfl fun w3 => ?_
  refine call_fn (c1 y2 y3) (Seals.refl _ _) qS ?_
  rintro u1 _ _ ⟨rfl, rfl⟩
  refine call_fn (c2 w3 u1) (Seals.refl _ _) qS ?_
  rintro u2 _ _ ⟨rfl, rfl⟩
  refine call_fn (c3 u2 y4) (Seals.refl _ _) qS ?_
  rintro u3 _ _ ⟨rfl, rfl⟩
  refine call_fn (c4 y1 u3) (Seals.refl _ _) qS ?_
  rintro _ _ _ ⟨rfl, rfl, rfl⟩
  by_cases hfar : 3 * (dG G k * dG G k) ≤ 4 * (dG G (k + 1) * dG G (k - 1) + mi G (k - 1) k (k - 1) * mi G (k - 1) k (k - 1))
  · rw [decide_eq_false (fun h => h hfar), decide_eq_true hfar]
    refine fin ⟨rfl, rfl, rfl⟩ ?_
    repeat (first | exact Seals.nil _ _ | refine Seals.trans (Seals.drop 0 _ _) ?_)
  · rw [decide_eq_true hfar, decide_eq_false hfar]
    refine fin ⟨rfl, rfl, rfl⟩ ?_
    repeat (first | exact Seals.nil _ _ | refine Seals.trans (Seals.drop 0 _ _) ?_)
open Go.RowKit
def tG (M : List (List Int)) : Mx := gr (M.getD 0 []).length (mx M)
def tbv (M : List (List Int)) (v : List Int) : Nat → Int := fun i => ip (M.getD 0 []).length (mx M i) (fun c => v.getD c 0)
def tnum (M : List (List Int)) (v : List Int) (c : Nat) : Int := det M.length (cw (tG M) c (tbv M v))
def tpart (M : List (List Int)) (v : List Int) (i : Nat) : Int := ip i (fun i => tnum M v i / det M.length (tG M)) (tbv M v) - ip (M.getD 0 []).length (fun c => v.getD c 0) (fun c => v.getD c 0)
def tok (M : List (List Int)) (v : List Int) : Prop := (∀ i, i < M.length → tnum M v i % det M.length (tG M) = 0) ∧ tpart M v M.length = 0
instance (M : List (List Int)) (v : List Int) : Decidable (tok M v) := inferInstanceAs (Decidable (_ ∧ _))
def tins (M : List (List Int)) (v : List Int) : List Int × Int :=
  if ¬ (right M ∧ v.length = (M.getD 0 []).length) then ([], 1)
  else if det M.length (tG M) = 0 then ([], 8)
  else if tok M v then ((List.range M.length).map fun i => tnum M v i / det M.length (tG M), 0)
  else ([], 8)
theorem gmx_cn (M : List (List Int)) : gmx (M.map (·.map cn)) = tG M := by
  unfold gmx tG
  rw [rvm_cn, get_cn, List.length_map]
theorem lbv_cn (M : List (List Int)) (v : List Int) : lbv (M.map (·.map cn)) (v.map cn) = tbv M v := by
  funext i
  unfold lbv tbv
  rw [get_cn M 0, List.length_map, rv_cn]
  show ip _ (rvm (M.map (·.map cn)) i) _ = _
  rw [rvm_cn]
theorem linD_cn (M : List (List Int)) : linD (M.map (·.map cn)) = det M.length (tG M) := by
  unfold linD
  rw [gmx_cn, List.length_map]
theorem lnum_cn (M : List (List Int)) (v : List Int) (c : Nat) : lnum (M.map (·.map cn)) (v.map cn) c = tnum M v c := by
  unfold lnum tnum
  rw [gmx_cn, lbv_cn, List.length_map]
theorem lok_cn (M : List (List Int)) (v : List Int) : lok (M.map (·.map cn)) (v.map cn) ↔ tok M v := by
  unfold lok tok lpart tpart
  simp only [lnum_cn, linD_cn, lbv_cn, rv_cn, get_cn M 0, List.length_map]
theorem lins_cn (M : List (List Int)) (v : List Int) : lins (M.map (·.map cn)) (v.map cn) = tins M v := by
  unfold lins tins
  simp only [lnum_cn, linD_cn, get_cn M 0, List.length_map, right_cn, lok_cn]
theorem lvol_cn (M : List (List Int)) : lvol (M.map (·.map cn)) = if right M then det M.length (tG M) else 0 := by
  unfold lvol
  simp only [right_cn, gmx_cn, List.length_map]
theorem lred_cn {M R1 R2 : List (List Int)} {f : Nat} (hr : right M) (hd : det M.length (tG M) ≠ 0) (h : (lrun (M.getD 0 []).length M.length f (mx M) one 1).map (fun R => (matL M.length (M.getD 0 []).length R.1, matL M.length M.length R.2)) = some (R1, R2)) :
    lred (M.map (·.map cn)) = (R1, R2, 0) := by
  have hC : ((M.map (·.map cn)).getD 0 []).length = (M.getD 0 []).length := by rw [get_cn, List.length_map]
  unfold lred
  rw [if_pos ((right_cn M).2 hr), linD_cn, if_neg hd]
  obtain ⟨R, e1, e2⟩ := Option.map_eq_some_iff.1 h
  have hi : Ind ((M.map (·.map cn)).getD 0 []).length (M.map (·.map cn)).length (rvm (M.map (·.map cn))) := (ind_iff _).2 (by rw [linD_cn]; exact hd)
  have e3 : lrd (M.map (·.map cn)) = R := by
    unfold lrd
    rw [rvm_cn, hC, List.length_map]
    rw [rvm_cn, hC, List.length_map] at hi
    exact lrr_eq hi e1
  rw [e3, hC, List.length_map]
  simp only [Prod.mk.injEq] at e2
  rw [e2.1, e2.2]
theorem sameT (v w : Value) (x y : List (List Int)) (h : x = y) : Meets Tryz.prog 12 [v, w] [(v, wd x), (w, wd y)] (fun r os fs => os = [] ∧ fs = [] ∧ r = .bool true) := by
  have := same4W v w x y
  rw [decide_eq_true h] at this
  exact this
theorem exallT (v w : Value) (x y : List Int) (h : x = y) : Meets Tryz.prog 25 [v, w] [(v, vd x), (w, vd y)] (fun r os fs => os = [] ∧ fs = [] ∧ r = .bool true) := by
  have := exactAllW v w x y
  rw [decide_eq_true h] at this
  exact this
theorem exT (v w : Value) (x y : Int) (h : x = y) : Meets Tryz.prog 24 [v, w] [(v, zd x), (w, zd y)] (fun r os fs => os = [] ∧ fs = [] ∧ r = .bool true) := by
  have := exactW v w x y
  rw [decide_eq_true h] at this
  exact this
theorem sh_fits {M : List (List Int)} (h : ∀ r, r ∈ M → ∀ x, x ∈ r → x.natAbs < 18446744073709551616) : Fits 1 (M.map (·.map cn)) := szM.fits fun r hr x hx => by
  have := h r hr x hx
  unfold sz; simpa using this
theorem sh_red (v : Value) : Meets Tryz.prog 10 [v] [(v, wd [[1, 1], [0, 1]])] (fun r os fs => os = [] ∧ ∃ q w, r = .tuple #[q, w, .int .i64 0] ∧ fs = [(q, wd [[-1, 0], [0, 1]]), (w, wd [[-1, 1], [0, 1]])]) := by
  have h := lReduceT v (([[1, 1], [0, 1]] : List (List Int)).map (·.map cn)) 1 (sh_fits (by decide)) (by decide) (by decide) (by decide) (by decide)
  rw [lred_cn (f := 10) (R1 := [[-1, 0], [0, 1]]) (R2 := [[-1, 1], [0, 1]]) (by decide) (by decide +kernel) (by decide +kernel)] at h
  exact h
theorem sh_vol (v : Value) : Meets Tryz.prog 18 [v] [(v, wd [[1, 1], [0, 1]])] (fun r os fs => os = [] ∧ ∃ q, r = .tuple #[q, .int .i64 0] ∧ fs = [(q, zd 1)]) := by
  have h := lVolume_meets v (([[1, 1], [0, 1]] : List (List Int)).map (·.map cn)) 1 (sh_fits (by decide)) (by decide) (by decide) (by decide) (by decide)
  rw [if_pos ((right_cn _).2 (by decide)), lvol_cn, if_pos (by decide), show det ([[1, 1], [0, 1]] : List (List Int)).length (tG [[1, 1], [0, 1]]) = 1 by decide +kernel] at h
  exact h
theorem sh_ins1 (v w : Value) : Meets Tryz.prog 20 [v, w] [(v, wd [[2, 0], [0, 2]]), (w, vd [4, -2])] (fun r os fs => os = [] ∧ ∃ q, r = .tuple #[q, .int .i64 0] ∧ fs = [(q, vd [2, -1])]) := by
  have h := lInside_meets v w (([[2, 0], [0, 2]] : List (List Int)).map (·.map cn)) (([4, -2] : List Int).map cn) 1 (sh_fits (by decide)) (Fit_cn fun x hx => by unfold sz; revert x; decide) (by decide) (by decide) (by decide) (by decide)
  rw [lins_cn, show tins [[2, 0], [0, 2]] [4, -2] = ([2, -1], 0) by decide +kernel] at h
  exact h
theorem sh_ins2 (v w : Value) : Meets Tryz.prog 20 [v, w] [(v, wd [[2, 0], [0, 2]]), (w, vd [1, 0])] (fun r os fs => os = [] ∧ ∃ q, r = .tuple #[q, .int .i64 8] ∧ fs = [(q, vd [])]) := by
  have h := lInside_meets v w (([[2, 0], [0, 2]] : List (List Int)).map (·.map cn)) (([1, 0] : List Int).map cn) 1 (sh_fits (by decide)) (Fit_cn fun x hx => by unfold sz; revert x; decide) (by decide) (by decide) (by decide) (by decide)
  rw [lins_cn, show tins [[2, 0], [0, 2]] [1, 0] = ([], 8) by decide +kernel] at h
  exact h
theorem sh_rdd (v : Value) (M : List (List Int)) (b : Bool) (hr : right M) (hl : M.length ≤ 4) (hc : (M.getD 0 []).length ≤ 5) (hz : ∀ r, r ∈ M → ∀ x, x ∈ r → x.natAbs < 18446744073709551616) (hZ : lD 1 M.length + lK 1 M.length + 2 ≤ 268435456) (hb : b = true ↔ lrdc (M.getD 0 []).length M.length (mx M)) :
    Meets Tryz.prog 11 [v] [(v, wd M)] (fun r os fs => os = [] ∧ fs = [] ∧ r = .tuple #[.bool b, .int .i64 0]) := by
  have hC : ((M.map (·.map cn)).getD 0 []).length = (M.getD 0 []).length := by rw [get_cn, List.length_map]
  have h := lReduced_meets v (M.map (·.map cn)) 1 (sh_fits hz) (by decide) (by rw [List.length_map]; omega) (by rw [hC]; omega) (by rw [List.length_map]; exact hZ)
  refine h.mono ?_
  rintro r os fs ⟨h1, h2, p, h3, h4⟩
  rw [if_pos ((right_cn M).2 hr)] at h4
  rw [hC, List.length_map, rvm_cn, right_cn] at h3
  have : p = b := by
    cases p <;> cases b <;> simp_all
  exact ⟨h1, h2, by rw [h4, this]⟩
theorem sh_one {P : Nat → Prop} (h : P 1) : ∀ k, 1 ≤ k → k < 2 → P k := fun k h1 h2 => by
  obtain rfl : k = 1 := by omega
  exact h
instance (m : Nat) (b : Mx) (k j : Nat) : Decidable (lsm m b k j) := inferInstanceAs (Decidable (_ ≤ _))
theorem sh_yes : lrdc 2 2 (mx [[-1, 0], [0, 1]]) :=
  ⟨fun t ht => by
    have : t = 0 ∨ t = 1 ∨ t = 2 := by omega
    rcases this with rfl | rfl | rfl <;> decide +kernel, sh_one ⟨by decide +kernel, by decide +kernel⟩⟩
theorem sh_no : ¬ lrdc 2 2 (mx [[1, 1], [0, 1]]) := fun h => absurd (h.2 1 (by decide) (by decide)).2 (by decide +kernel)
theorem shown4_meets : Meets Tryz.prog 5 [] [] (fun r os fs => os = [] ∧ fs = [] ∧ r = .bool true) := by
  have h1 := fun v => sh_rdd v [[-1, 0], [0, 1]] true (by decide) (by decide) (by decide) (by decide) (by decide) ⟨fun _ => sh_yes, fun _ => rfl⟩
  have h2 := fun v => sh_rdd v [[1, 1], [0, 1]] false (by decide) (by decide) (by decide) (by decide) (by decide) ⟨fun h => absurd h (by decide), fun h => absurd h sh_no⟩
  refine meets_of_vc Tryz.func5 (by kernel_rfl) rfl (by kernel_rfl) (Nat.le_of_ble_eq_true rfl) ?_
  refine lit_IL [1, 1, 0, 1] rfl rfl (by decide) fun s1 => ?_
  refine call_fn (of4W s1 2 2 [1, 1, 0, 1] [[1, 1], [0, 1]] rfl rfl (by decide) (by decide) (by decide) (by decide)) (Seals.refl _ _) qS ?_
  rintro m1 _ _ ⟨rfl, rfl⟩
  refine call_fn (sh_red m1) (Seals.refl _ _) qS ?_
  rintro _ _ _ ⟨rfl, r, u, rfl, rfl⟩
  refine lit_IL [1, 1, 0, 1] rfl rfl (by decide) fun s2 => ?_
  refine call_fn (of4W s2 2 2 [1, 1, 0, 1] [[1, 1], [0, 1]] rfl rfl (by decide) (by decide) (by decide) (by decide)) (Seals.refl _ _) qS ?_
  rintro m2 _ _ ⟨rfl, rfl⟩
  refine call_fn (sh_vol m2) (Seals.refl _ _) qS ?_
  rintro _ _ _ ⟨rfl, vq, rfl, rfl⟩
  refine alloc_rule (d := I false []) fun vb hvb => ?_
  refine store_box (d := zd 1) 0 rfl hvb rfl (by kernel_rfl) ?_ ?_; exact Reads.fact qM
  refine lit_IL [2, 0, 0, 2] rfl rfl (by decide) fun s3 => ?_
  refine call_fn (of4W s3 2 2 [2, 0, 0, 2] [[2, 0], [0, 2]] rfl rfl (by decide) (by decide) (by decide) (by decide)) (Seals.refl _ _) qS ?_
  rintro m3 _ _ ⟨rfl, rfl⟩
  refine lit_IL [4, -2] rfl rfl (by decide) fun s4 => ?_
  refine call_fn (of4W s4 1 2 [4, -2] [[4, -2]] rfl rfl (by decide) (by decide) (by decide) (by decide)) (Seals.refl _ _) qS ?_
  rintro m4 _ _ ⟨rfl, rfl⟩
  refine index_fact (n := 1) qM 0 rfl (by decide) fun i1 => ?_
  refine load_fact (d := vd [4, -2]) qM (load_V _) fun w1 => ?_
  refine call_fn (sh_ins1 m3 w1) (Seals.refl _ _) qS ?_
  rintro _ _ _ ⟨rfl, c, rfl, rfl⟩
  refine lit_IL [2, 0, 0, 2] rfl rfl (by decide) fun s5 => ?_
  refine call_fn (of4W s5 2 2 [2, 0, 0, 2] [[2, 0], [0, 2]] rfl rfl (by decide) (by decide) (by decide) (by decide)) (Seals.refl _ _) qS ?_
  rintro m5 _ _ ⟨rfl, rfl⟩
  refine lit_IL [1, 0] rfl rfl (by decide) fun s6 => ?_
  refine call_fn (of4W s6 1 2 [1, 0] [[1, 0]] rfl rfl (by decide) (by decide) (by decide) (by decide)) (Seals.refl _ _) qS ?_
  rintro m6 _ _ ⟨rfl, rfl⟩
  refine index_fact (n := 1) qM 0 rfl (by decide) fun i2 => ?_
  refine load_fact (d := vd [1, 0]) qM (load_V _) fun w2 => ?_
  refine call_fn (sh_ins2 m5 w2) (Seals.refl _ _) qS ?_
  rintro _ _ _ ⟨rfl, c2, rfl, rfl⟩
  refine call_fn (h1 r) (Seals.refl _ _) qS ?_
  rintro _ _ _ ⟨rfl, rfl, rfl⟩
  refine lit_IL [1, 1, 0, 1] rfl rfl (by decide) fun s7 => ?_
  refine call_fn (of4W s7 2 2 [1, 1, 0, 1] [[1, 1], [0, 1]] rfl rfl (by decide) (by decide) (by decide) (by decide)) (Seals.refl _ _) qS ?_
  rintro m7 _ _ ⟨rfl, rfl⟩
  refine call_fn (h2 m7) (Seals.refl _ _) qS ?_
  rintro _ _ _ ⟨rfl, rfl, rfl⟩
  refine draw_rule [0, 1, 2, 3, 4, 5, 6, 7, 8, 9, 10, 11, 12, 13, 14, 15, 16, 17, 18, 19, 20, 21, 22, 23] [0, 1, 2, 3, 4, 5, 6, 7, 8, 9, 10, 11, 12, 13, 14, 15, 16, 17, 18, 19, 20, 21, 22, 23] (by kernel_rfl) (by kernel_rfl) ?_
  refine lit_IL [-1, 0, 0, 1] rfl rfl (by decide) fun s8 => ?_
  refine call_fn (of4W s8 2 2 [-1, 0, 0, 1] [[-1, 0], [0, 1]] rfl rfl (by decide) (by decide) (by decide) (by decide)) (Seals.refl _ _) qS ?_
  rintro m8 _ _ ⟨rfl, rfl⟩
  refine call_fn (sameT r m8 _ _ rfl) (Seals.refl _ _) qS ?_
  rintro _ _ _ ⟨rfl, rfl, rfl⟩
  refine lit_IL [-1, 1, 0, 1] rfl rfl (by decide) fun s9 => ?_
  refine call_fn (of4W s9 2 2 [-1, 1, 0, 1] [[-1, 1], [0, 1]] rfl rfl (by decide) (by decide) (by decide) (by decide)) (Seals.refl _ _) qS ?_
  rintro m9 _ _ ⟨rfl, rfl⟩
  refine call_fn (sameT u m9 _ _ rfl) (Seals.refl _ _) qS ?_
  rintro _ _ _ ⟨rfl, rfl, rfl⟩
  refine load_box (d := zd 1) 0 rfl hvb rfl (load_I _ _) fun y1 => ?_
  refine call_fn (rOf_meets 1 (by decide) (by decide)) (Seals.refl _ _) qS ?_
  rintro y2 _ _ ⟨rfl, rfl⟩
  refine call_fn (exT y1 y2 _ _ rfl) (Seals.refl _ _) qS ?_
  rintro _ _ _ ⟨rfl, rfl, rfl⟩
  refine lit_IL [2, -1] rfl rfl (by decide) fun s10 => ?_
  refine call_fn (of4W s10 1 2 [2, -1] [[2, -1]] rfl rfl (by decide) (by decide) (by decide) (by decide)) (Seals.refl _ _) qS ?_
  rintro m10 _ _ ⟨rfl, rfl⟩
  refine index_fact (n := 1) qM 0 rfl (by decide) fun i3 => ?_
  refine load_fact (d := vd [2, -1]) qM (load_V _) fun w3 => ?_
  refine call_fn (exallT c w3 _ _ rfl) (Seals.refl _ _) qS ?_
  rintro _ _ _ ⟨rfl, rfl, rfl⟩
  refine cmp_true rfl (by decide) ?_
  refine cmp_true rfl (by decide) ?_
  refine cmp_true rfl (by decide) ?_
  refine cmp_true rfl (by decide) ?_
  refine cmp_true rfl (by decide) ?_
  refine cmp_true rfl (by decide) ?_
  exact fin ⟨rfl, rfl, rfl⟩ (Seals.trans (Seals.drop 0 _ _) (Seals.nil _ _))
open Go.RowKit
theorem little4_meets (v : Value) (a : List Row) :
    Meets Tryz.prog 6 [v] [(v, W a)] (fun r os fs => os = [] ∧ fs = [] ∧ r = .bool (decide (small 4 5 1 a))) := by
  refine meets_of_vc Tryz.func6 (by kernel_rfl) rfl (by kernel_rfl) (Nat.le_of_ble_eq_true rfl) ?_
  refine call_fn (rowsFits_meets v a 4 5 1) (Seals.refl _ _) qS ?_
  rintro _ _ _ ⟨rfl, rfl, rfl⟩
  exact fin ⟨rfl, rfl, rfl⟩ (Seals.nil _ _)
noncomputable def M1 (a : List Row) : List (List Int) := matL a.length (a.getD 0 []).length (lrd a).1
noncomputable def M2 (a : List Row) : List (List Int) := matL a.length a.length (lrd a).2
theorem M1_at (a : List Row) {i c : Nat} (hi : i < a.length) (hc : c < (a.getD 0 []).length) : mx (M1 a) i c = (lrd a).1 i c := matL_at _ hi hc
theorem matL_len0 {R C : Nat} (x : Mx) (hR : 0 < R) : ((matL R C x).getD 0 []).length = C := by rw [matL_row x hR]; simp
theorem matL_right {R C : Nat} (x : Mx) (hR : 0 < R) (hC : 0 < C) : right (matL R C x) := by
  refine ⟨by rw [matL_len]; exact hR, fun r hr => ?_⟩
  rw [matL_len0 x hR]
  unfold matL at hr
  obtain ⟨i, _, rfl⟩ := List.mem_map.1 hr
  simp [hC]
theorem matL_szM {R C e : Nat} {x : Mx} (h : ∀ i c, i < R → c < C → sz (x i c) e) : szM e (matL R C x) := fun r hr y hy => by
  unfold matL at hr
  obtain ⟨i, hi, rfl⟩ := List.mem_map.1 hr
  obtain ⟨c, hc, rfl⟩ := List.mem_map.1 hy
  exact h i c (List.mem_range.1 hi) (List.mem_range.1 hc)
structure Rdd (a : List Row) (k : Nat) : Prop where
  lb : LB (rvm a) (a.getD 0 []).length a.length (lD k a.length) (lK k a.length) (lrd a).1 (lrd a).2
  rd : Rdc (a.getD 0 []).length (lrd a).1 a.length
  dn : dm (a.getD 0 []).length (lrd a).1 a.length = dm (a.getD 0 []).length (rvm a) a.length
section
variable {a : List Row} {k : Nat}
theorem Rdd.same (_ : Rdd a k) : ∀ i c, i < a.length → c < (a.getD 0 []).length → mx (M1 a) i c = (lrd a).1 i c := fun _ _ hi hc => M1_at a hi hc
theorem Rdd.ind (h : Rdd a k) : Ind (a.getD 0 []).length a.length (mx (M1 a)) := h.lb.ind.same h.same
theorem Rdd.len (_ : Rdd a k) : (M1 a).length = a.length := matL_len _ _ _
theorem Rdd.right (_ : Rdd a k) (hr : right a) : right (M1 a) := matL_right _ hr.1 (hr.get hr.1).1
theorem Rdd.fits (h : Rdd a k) : Fits (lK k a.length) ((M1 a).map (·.map cn)) := (matL_szM fun i c hi hc => h.lb.bz i c hi hc).fits
end
theorem lred_ok {a : List Row} (hr : right a) (hI : Ind (a.getD 0 []).length a.length (rvm a)) : lred a = (M1 a, M2 a, 0) := by
  unfold lred
  rw [if_pos hr, if_neg ((ind_iff a).1 hI)]; rfl
theorem lred_bad {a : List Row} (h : ¬ (right a ∧ Ind (a.getD 0 []).length a.length (rvm a))) : (lred a).1 = [] ∧ (lred a).2.1 = [] ∧ (lred a).2.2 = if right a then 8 else 1 := by
  unfold lred
  by_cases hr : right a
  · have h0 : linD a = 0 := Classical.byContradiction fun hne => h ⟨hr, (ind_iff a).2 hne⟩
    rw [if_pos hr, if_pos h0, if_pos hr]; exact ⟨rfl, rfl, rfl⟩
  · rw [if_neg hr, if_neg hr]; exact ⟨rfl, rfl, rfl⟩
theorem lZ_small {n : Nat} (h : n ≤ 4) : lZ 1 n ≤ 268435456 ∧ lZ (lK 1 n) n ≤ 268435456 ∧ lD (lK 1 n) n + lK (lK 1 n) n + 2 ≤ 268435456 ∧ lD 1 n + lK 1 n + 2 ≤ 268435456 ∧ lK 1 n ≤ 73 := by
  have : n = 0 ∨ n = 1 ∨ n = 2 ∨ n = 3 ∨ n = 4 := by omega
  rcases this with rfl | rfl | rfl | rfl | rfl <;> decide
open Go.RowKit
def RO (n C : Nat) (B : Mx) : List Row := (matL n C B).map (·.map cn)
section
variable {n C : Nat} {B : Mx}
theorem RO_len (n C : Nat) (B : Mx) : (RO n C B).length = n := by unfold RO; rw [List.length_map, matL_len]
theorem RO_row {i : Nat} (hi : i < n) : (RO n C B).getD i [] = (List.range C).map fun c => cn (B i c) := by
  unfold RO; rw [get_cn, matL_row B hi, List.map_map]; rfl
theorem RO_col {i : Nat} (hi : i < n) : ((RO n C B).getD i []).length = C := by rw [RO_row hi]; simp
theorem RO_rv {i c : Nat} (hi : i < n) (hc : c < C) : rvm (RO n C B) i c = B i c := by
  show jv (((RO n C B).getD i []).getD c z0) = _
  rw [RO_row hi, List.getD_eq_getElem?_getD, List.getElem?_map, List.getElem?_range hc]
  exact jv_cn _
theorem RO_fits {e : Nat} (h : ∀ i c, i < n → c < C → sz (B i c) e) : Fits e (RO n C B) := (matL_szM h).fits
theorem RO_right (hn : 0 < n) (hC : 0 < C) : right (RO n C B) := (right_cn _).2 (matL_right _ hn hC)
theorem tkn_RO {k j : Nat} (hk : k < n) (hj : j < n) (q : Int) : tkn ((RO n C B).getD k []) ((RO n C B).getD j []) q = (RO n C (redq B k j q)).getD k [] := by
  unfold tkn
  rw [RO_col hk, RO_row (B := redq B k j q) hk]
  refine List.map_congr_left fun c hc => ?_
  have hc' := List.mem_range.1 hc
  have e1 : rv ((RO n C B).getD k []) c = B k c := RO_rv hk hc'
  have e2 : rv ((RO n C B).getD j []) c = B j c := RO_rv hj hc'
  rw [e1, e2]
  unfold redq; rw [if_pos rfl]
theorem RO_red_other {k j i : Nat} {q : Int} (hi : i < n) (h : i ≠ k) : (RO n C (redq B k j q)).getD i [] = (RO n C B).getD i [] := by
  rw [RO_row hi, RO_row hi]
  refine List.map_congr_left fun c _ => ?_
  unfold redq; rw [if_neg h]
end
theorem StZ.of {m : List Row} {k a : Nat} (hf : Fits a m) (hr : right m) (ln : m.length ≤ 1024) (lc : (m.getD 0 []).length ≤ 1048576) (hk : k < m.length) (ha : a + a + 2 ≤ 137438953472) (hE : (a + a + 2) * (m.length + 2) + 1 ≤ 67108864) :
    StZ m (gr (m.getD 0 []).length (rvm m)) k ((a + a + 2) * (m.length + 2) + 1) a := by
  have hg : ∀ i j, sz (gr (m.getD 0 []).length (rvm m) i j) (a + a + 1) := gmx_sz hf lc
  refine ⟨hk, by omega, hf, ha, fun i hi => (hr.get hi).2, lc, rfl, fun t i j ht => ?_, fun t ht => ?_, by omega⟩
  · refine (det_sz (t + 1) (by omega) (k := a + a + 1) fun x y _ _ => hg _ _).mono ?_
    have : (a + a + 1 + 1) * (t + 1) ≤ (a + a + 2) * (m.length + 2) := Nat.mul_le_mul (by omega) (by omega)
    omega
  · refine (det_sz t (by omega) (k := a + a + 1) fun x y _ _ => hg _ _).mono ?_
    have : (a + a + 1 + 1) * t ≤ (a + a + 2) * (m.length + 2) := Nat.mul_le_mul (by omega) (by omega)
    omega
theorem lsm_iff {l d : Int} : ((l.natAbs : Int) * 2 ≤ d) ↔ ¬ (1 * d - l * 2 < 0) ∧ ¬ (l * (1 * 2) - (0 * 2 - 1 * 1) * d < 0) := by omega
theorem rReduced_meets (v : Value) (a : List Row) (k0 : Nat) (hf : Fits k0 a) (ln : a.length ≤ 1024) (lc : (a.getD 0 []).length ≤ 1048576) (hE : (k0 + k0 + 2) * (a.length + 2) + 1 ≤ 16777216) :
    Meets Tryz.prog 9 [v] [(v, W a)] (fun r os fs => os = [] ∧ fs = [] ∧ ∃ p : Bool, (p = true ↔ right a ∧ lrdc (a.getD 0 []).length a.length (rvm a)) ∧ r = .tuple #[.bool p, .int .i64 (if right a then 0 else 1)]) := by
  refine meets_of_vc Tryz.func9 (by kernel_rfl) rfl (by kernel_rfl) (Nat.le_of_ble_eq_true rfl) ?_
  refine call_fn (rRight_meets v a) (Seals.refl _ _) qS ?_
  rintro _ _ _ ⟨rfl, rfl, rfl⟩
  by_cases hr : right a
  case neg =>
    rw [decide_eq_false hr, if_neg hr]
    exact fin ⟨rfl, rfl, false, ⟨fun h => by simp at h, fun h => absurd h.1 hr⟩, rfl⟩ (Seals.nil _ _)
  rw [decide_eq_true hr, if_pos hr]
  have hn1 := hr.1
  have hk0 : k0 + k0 + 2 ≤ 16777216 := by
    have : (k0 + k0 + 2) * 1 ≤ (k0 + k0 + 2) * (a.length + 2) := Nat.mul_le_mul_left _ (by omega)
    omega
  have z := StZ.of (k := a.length - 1) hf hr ln lc (by omega) (by omega) (by omega)
  have hlm : ∀ i j, lm (a.getD 0 []).length (rvm a) i j = mi (gr (a.getD 0 []).length (rvm a)) j i j := fun _ _ => rfl
  have hdm : ∀ t, dm (a.getD 0 []).length (rvm a) t = dG (gr (a.getD 0 []).length (rvm a)) t := fun _ => rfl
  have hvol : dm (a.getD 0 []).length (rvm a) a.length ≠ 0 → Ind (a.getD 0 []).length a.length (rvm a) := ind_of_vol
  have hfl : ∀ k, farL (a.getD 0 []).length (rvm a) k ↔ 3 * (dG (gr (a.getD 0 []).length (rvm a)) k * dG (gr (a.getD 0 []).length (rvm a)) k) ≤ 4 * (dG (gr (a.getD 0 []).length (rvm a)) (k + 1) * dG (gr (a.getD 0 []).length (rvm a)) (k - 1) + mi (gr (a.getD 0 []).length (rvm a)) (k - 1) k (k - 1) * mi (gr (a.getD 0 []).length (rvm a)) (k - 1) k (k - 1)) := fun _ => Iff.rfl
  generalize hC : (a.getD 0 []).length = C at *
  generalize hG : gr C (rvm a) = G at *
  generalize hEE : (k0 + k0 + 2) * (a.length + 2) + 1 = E at *
  refine len_fact (v := v) qM fun _ => ?_
  refine ar (n := ((a.length - 1 : Nat) : Int)) (congrArg some (by omega)) ⟨by omega, by omega⟩ ?_
  refine straightA z (List.Mem.head _) (fun hne qm qn => ?_) (fun hz => ?_)
  rotate_left
  · refine fin ⟨rfl, rfl, false, ⟨fun h => by simp at h, fun h => ?_⟩, rfl⟩ (Seals.nil _ _)
    obtain ⟨t, ht, h0⟩ := hz
    have := h.2.1 t (by omega)
    rw [hdm, h0] at this; omega
  have hI : Ind C a.length (rvm a) := hvol (by rw [hdm]; exact hne _ (by omega))
  have hp : ∀ t, t ≤ a.length → 0 < dG G t := fun t ht => by rw [← hdm]; exact hI t ht
  have he := z.he
  have hd := z.hd
  refine call_fn (rOf_meets 1 (by decide) (by decide)) (Seals.refl _ _) qS ?_
  rintro w1 _ _ ⟨rfl, rfl⟩
  refine call_fn (rOf_meets 2 (by decide) (by decide)) (Seals.refl _ _) qS ?_
  rintro w2 _ _ ⟨rfl, rfl⟩
  refine build22 (Knw.fact (v := w1) (d := zd 1) qM) (Knw.fact (v := w2) (d := zd 2) qM) rfl rfl fun w3 => ?_
  refine alloc_rule (d := .cat (I false []) (I false [])) fun hb hhb => ?_
  refine store_box (d := fD 1 2) 0 rfl hhb rfl (by kernel_rfl) (Reads.fact (v := w3) (d := fD 1 2) (List.Mem.head _)) ?_
  rw [show a.length - 1 + 1 = a.length by omega]
  refine loop_rule (X := Nat) (fun k => ([(0, v), (4, qm), (5, qn), (7, hb), (8, .int .i64 (k : Nat))], [own1 hb 4 1 (fun _ => fP (fr2 1 2))], [(qm, LD 1 FL [] (mlist G a.length)), (qn, FL (nrow G a.length)), (v, W a)]))
    (fun k => 1 ≤ k ∧ k ≤ a.length ∧ ∀ t, 1 ≤ t → t < k → (∀ j, j < t → lsm C (rvm a) t j) ∧ farL C (rvm a) t) (fun k => a.length - k) rfl ?_ ?_
  · exact again 1 ⟨Nat.le_refl _, hn1, fun t h1 h2 => by omega⟩ trivial qF (Seals.trans (Seals.box0 fr12) (Seals.sub qS))
  · rintro k ⟨hk1, hk2, hb'⟩
    refine len_fact (v := v) qM fun _ => ?_
    refine cmp_split _ rfl (fun hc => ?_) (fun hc => ?_)
    · have hkn : k < a.length := by omega
      refine loop_rule (X := Nat) (fun j => ([(0, v), (4, qm), (5, qn), (7, hb), (8, .int .i64 (k : Nat)), (9, .int .i64 (j : Nat))], [own1 hb 4 1 (fun _ => fP (fr2 1 2))], [(qm, LD 1 FL [] (mlist G a.length)), (qn, FL (nrow G a.length)), (v, W a)]))
        (fun j => j ≤ k ∧ ∀ t, t < j → lsm C (rvm a) k t) (fun j => k - j) rfl ?_ ?_
      · exact again 0 ⟨Nat.zero_le _, fun t h => by omega⟩ trivial qF (Seals.sub qS)
      · rintro j ⟨hj, hjs⟩
        refine cmp_split _ rfl (fun hlt => ?_) (fun hlt => ?_)
        · have hjk : j < k := by omega
          have g1 := he j k j (by omega)
          have g2 := hd (j + 1) (by omega)
          have p2 := hp (j + 1) (by omega)
          have hls : lsm C (rvm a) k j ↔ ¬ (1 * dG G (j + 1) - mi G j k j * 2 < 0) ∧ ¬ (mi G j k j * (1 * 2) - (0 * 2 - 1 * 1) * dG G (j + 1) < 0) := by
            unfold lsm
            rw [hlm, hdm]
            exact lsm_iff
          have u1 : sz (1 : Int) (E + 1) := (sz_num 1 (by decide)).mono (by omega)
          have u2 : sz (2 : Int) (E + 1) := (sz_num 2 (by decide)).mono (by omega)
          have u0 : sz (0 : Int) (E + 1) := (sz_num 0 (by decide)).mono (by omega)
          have b1 := fun x y => tBelow (k := E + 1) x y u1 u2 (g1.mono (by omega)) (g2.mono (by omega)) (by omega) (by decide) p2
          have l1 := fun x y => tLess (k := E + 1) (a := 0) (b := 1) (c := 1) (d := 2) x y u0 u1 u1 u2 (by omega) (by decide) (by decide)
          have b2 := fun x y => tBelow (k := E + 1 + 1) (c := 0 * 2 - 1 * 1) (d := 1 * 2) x y (g1.mono (by omega)) (g2.mono (by omega)) ((sz_num _ (by decide)).mono (by omega)) ((sz_num _ (by decide)).mono (by omega)) (by omega) p2 (by decide)
          rw [← fr01] at l1
          refine draw_rule [0, 1, 2, 3, 4, 5, 6, 7, 8, 9, 10, 11, 12, 13, 14, 15, 16, 18, 17, 19, 20, 21] [0, 1, 2, 3, 4, 5, 6, 7, 8, 9, 10, 11, 12, 13, 14, 15, 16, 17, 18, 19, 20, 21] (by kernel_rfl) (by kernel_rfl) ?_
          refine load_box (d := fP (fr2 1 2)) 0 rfl hhb rfl (load_F _ _) fun y0 => ?_
          refine index_fact (v := qm) qM k rfl (by rw [mlist_len]; omega) fun a1 => ?_
          refine load_fact (d := FL (mrow G k k)) (by rw [← mlist_get hkn]; exact List.Mem.head _) (load_FL _) fun a2 => ?_
          refine index_fact (v := a2) (n := (mrow G k k).length) (el := fun i => fP ((mrow G k k).getD i f0)) (List.Mem.head _) j rfl (by rw [mrow_len]; omega) fun a3 => ?_
          refine load_fact (d := fP (mF G k j)) (by rw [← mrow_get hjk]; exact List.Mem.head _) (load_F _ _) fun y1 => ?_
          refine call_fn (b1 y0 y1) (Seals.refl _ _) qS ?_
          rintro _ _ _ ⟨rfl, rfl, rfl⟩
          by_cases h1 : 1 * dG G (j + 1) - mi G j k j * 2 < 0
          · rw [decide_eq_true h1]
            refine fin ⟨rfl, rfl, false, ⟨fun h => by simp at h, fun h => absurd h1 (hls.1 ((h.2.2 k hk1 hkn).1 j hjk)).1⟩, rfl⟩ ?_
            repeat (first | exact Seals.nil _ _ | refine Seals.trans (Seals.drop 0 _ _) ?_)
          rw [decide_eq_false h1]
          refine index_fact (v := qm) qM k rfl (by rw [mlist_len]; omega) fun a4 => ?_
          refine load_fact (d := FL (mrow G k k)) (by rw [← mlist_get hkn]; exact List.Mem.head _) (load_FL _) fun a5 => ?_
          refine index_fact (v := a5) (n := (mrow G k k).length) (el := fun i => fP ((mrow G k k).getD i f0)) (List.Mem.head _) j rfl (by rw [mrow_len]; omega) fun a6 => ?_
          refine load_fact (d := fP (mF G k j)) (by rw [← mrow_get hjk]; exact List.Mem.head _) (load_F _ _) fun y2 => ?_
          refine load_box (d := fP (fr2 1 2)) 0 rfl hhb rfl (load_F _ _) fun y3 => ?_
          refine call_fn (fWhole_meets 0 (by decide) (by decide)) (Seals.refl _ _) qS ?_
          rintro y4 _ _ ⟨rfl, rfl⟩
          refine call_fn (l1 y4 y3) (Seals.refl _ _) qS ?_
          rintro y5 _ _ ⟨rfl, rfl⟩
          refine call_fn (b2 y2 y5) (Seals.refl _ _) qS ?_
          rintro _ _ _ ⟨rfl, rfl, rfl⟩
          by_cases h2 : mi G j k j * (1 * 2) - (0 * 2 - 1 * 1) * dG G (j + 1) < 0
          · rw [decide_eq_true h2]
            refine fin ⟨rfl, rfl, false, ⟨fun h => by simp at h, fun h => absurd h2 (hls.1 ((h.2.2 k hk1 hkn).1 j hjk)).2⟩, rfl⟩ ?_
            repeat (first | exact Seals.nil _ _ | refine Seals.trans (Seals.drop 0 _ _) ?_)
          rw [decide_eq_false h2]
          refine ar rfl qI ?_
          exact again (j + 1) ⟨by omega, fun t ht => by
            by_cases e : t = j
            · rw [e]; exact hls.2 ⟨h1, h2⟩
            · exact hjs t (by omega)⟩ (by simp only; omega) qF (Seals.sub qS)
        · have hjk : j = k := by omega
          subst hjk
          refine call_fn (rFar_meets qm qn j a.length E hk1 hkn (by omega) (fun t x y ht => he t x y (by omega)) (fun t ht => hd t (by omega)) (by omega) (fun t ht => hp t (by omega))) (Seals.refl _ _) qS ?_
          rintro _ _ _ ⟨rfl, rfl, rfl⟩
          by_cases hfar : farL C (rvm a) j
          · rw [decide_eq_true ((hfl j).1 hfar)]
            refine ar rfl qI ?_
            exact again (j + 1) ⟨by omega, by omega, fun t h1 h2 => by
              by_cases e : t = j
              · rw [e]; exact ⟨hjs, hfar⟩
              · exact hb' t h1 (by omega)⟩ (by simp only; omega) qF (Seals.sub qS)
          · rw [decide_eq_false (fun h => hfar ((hfl j).2 h))]
            refine fin ⟨rfl, rfl, false, ⟨fun h => by simp at h, fun h => absurd (h.2.2 j hk1 hkn).2 hfar⟩, rfl⟩ ?_
            repeat (first | exact Seals.nil _ _ | refine Seals.trans (Seals.drop 0 _ _) ?_)
    · refine fin ⟨rfl, rfl, true, ⟨fun _ => ⟨hr, hI, fun t h1 h2 => hb' t h1 (by omega)⟩, fun _ => rfl⟩, rfl⟩ ?_
      repeat (first | exact Seals.nil _ _ | refine Seals.trans (Seals.drop 0 _ _) ?_)
open Go.RowKit
theorem Seals.putL {v : Value} {l l' : List Row} {k : Nat} {d : Dat} {os : List Own} {fs : List Fact} (pos : Nat) (h : nthOwn os pos = some (own1 v 1 l.length (upd (fun i => V (l.getD i [])) k d))) (hl : l'.length = l.length)
    (hk : d = V (l'.getD k [])) (ho : ∀ i, i < l.length → i ≠ k → l'.getD i [] = l.getD i []) : Seals os fs (setOwn os pos (ownL 1 V [] v l')) fs :=
  Seals.own_cong (n' := l'.length) pos (fun i => V (l'.getD i [])) h hl.symm fun i hi => by
    unfold upd
    by_cases e : i = k
    · rw [if_pos e, hk, e]
    · rw [if_neg e, ho i hi e]
theorem RO_swap {n C k t : Nat} {B : Mx} (h1 : 1 ≤ k) (hk : k < n) (ht : t < n) :
    upd (upd (fun t => V ((RO n C B).getD t [])) k (V ((RO n C B).getD (k - 1) []))) (k - 1) (V ((RO n C B).getD k [])) t = V ((RO n C (swb B (k - 1))).getD t []) := by
  have e : (RO n C (swb B (k - 1))).getD t [] = (RO n C B).getD (sx (k - 1) t) [] := by
    rw [RO_row ht, RO_row (sx_lt (show k - 1 + 1 < n by omega) ht)]; rfl
  rw [e]
  unfold upd sx
  by_cases c1 : t = k - 1
  · rw [if_pos c1, if_pos c1, show k - 1 + 1 = k by omega]
  · rw [if_neg c1, if_neg c1]
    by_cases c2 : t = k
    · rw [if_pos c2, if_pos (by omega)]
    · rw [if_neg c2, if_neg (by omega)]
structure RdR where
  k : Nat
  B : Mx
  U : Mx
  f : Nat
structure RdJ where
  z : Int
  j : Nat
  B : Mx
  U : Mx
set_option maxHeartbeats 4000000 in
theorem rReduce_meets (v : Value) (a : List Row) (k0 : Nat) (hf : Fits k0 a) (ln : a.length ≤ 1024) (lc : (a.getD 0 []).length ≤ 1048576)
    (hZ : (lZ k0 a.length + lZ k0 a.length + 2) * (a.length + 2) + 1 ≤ 16777216) :
    Meets Tryz.prog 8 [v] [(v, W a)] (fun r os fs => os = [] ∧ ∃ q w, r = .tuple #[q, w, .int .i64 (lred a).2.2] ∧ fs = [(q, wd (lred a).1), (w, wd (lred a).2.1)]) := by
  refine meets_of_vc Tryz.func8 (by kernel_rfl) rfl (by kernel_rfl) (Nat.le_of_ble_eq_true rfl) ?_
  refine call_fn (rRight_meets v a) (Seals.refl _ _) qS ?_
  rintro _ _ _ ⟨rfl, rfl, rfl⟩
  by_cases hr : right a
  case neg =>
    have e : lred a = ([], [], 1) := if_neg hr
    rw [decide_eq_false hr, e]
    exact fin ⟨rfl, _, _, rfl, rfl⟩ (Seals.cons (Knw.nil 1 _) (Seals.cons (Knw.nil 1 _) (Seals.nil _ _)))
  rw [decide_eq_true hr]
  have hn1 := hr.1
  have hC1 := (hr.get hn1).1
  have hZ1 : lZ k0 a.length + lZ k0 a.length + 2 ≤ 16777216 := by
    have : (lZ k0 a.length + lZ k0 a.length + 2) * 1 ≤ (lZ k0 a.length + lZ k0 a.length + 2) * (a.length + 2) := Nat.mul_le_mul_left _ (by omega)
    omega
  have hkZ : k0 ≤ lZ k0 a.length := by unfold lZ; omega
  have hE0 : (k0 + k0 + 2) * (a.length + 2) + 1 ≤ 67108864 := by
    have : (k0 + k0 + 2) * (a.length + 2) ≤ (lZ k0 a.length + lZ k0 a.length + 2) * (a.length + 2) := Nat.mul_le_mul_right _ (by omega)
    omega
  have z := StZ.of (k := a.length - 1) hf hr ln lc (by omega) (by omega) hE0
  have hdm : ∀ t, dm (a.getD 0 []).length (rvm a) t = dG (gr (a.getD 0 []).length (rvm a)) t := fun _ => rfl
  refine len_fact (v := v) qM fun _ => ?_
  refine ar (n := ((a.length - 1 : Nat) : Int)) (congrArg some (by omega)) ⟨by omega, by omega⟩ ?_
  refine straightA z (List.Mem.head _) (fun hne qm qn => ?_) (fun hz => ?_)
  rotate_left
  · obtain ⟨t, ht, h0⟩ := hz
    have e : lred a = ([], [], 8) := by
      unfold lred
      rw [if_pos hr, if_pos (Classical.byContradiction fun hne => ?_)]
      have := (ind_iff a).2 hne t (by omega)
      rw [hdm, h0] at this; omega
    rw [e]
    exact fin ⟨rfl, _, _, rfl, rfl⟩ (Seals.cons (Knw.nil 1 _) (Seals.cons (Knw.nil 1 _) (Seals.nil _ _)))
  have hI : Ind (a.getD 0 []).length a.length (rvm a) := ind_of_vol (by rw [hdm]; exact hne _ (by omega))
  have e : lred a = (M1 a, M2 a, 0) := lred_ok hr hI
  rw [e]
  obtain ⟨f0', hf0⟩ := lrr_spec hI
  have hlb0 := (Sv.start hf lc ln hI).lb
  have hnK : a.length * (lD k0 a.length + 1) ≤ lK k0 a.length := by unfold lK; omega
  have hlen : ∀ i, i < a.length → (a.getD i []).length = (a.getD 0 []).length := fun i hi => (hr.get hi).2
  have htk : ∀ i, i < a.length → tkn (a.getD i []) (a.getD i []) (jv z0) = (RO a.length (a.getD 0 []).length (rvm a)).getD i [] := fun i hi => by
    unfold tkn
    rw [hlen i hi, RO_row hi]
    refine List.map_congr_left fun c _ => ?_
    rw [show jv z0 = 0 from rfl, Int.zero_mul, Int.sub_zero]; rfl
  have hRO : ∀ {n C : Nat} (B : Mx) (i : Nat), i < n → ((List.range i).map fun t => (RO n C B).getD t []) ++ [(RO n C B).getD i []] = (List.range (i + 1)).map fun t => (RO n C B).getD t [] := fun B i _ => by rw [List.range_succ, List.map_append]; rfl
  have hROall : ∀ {n C : Nat} (B : Mx), ((List.range n).map fun t => (RO n C B).getD t []) = RO n C B := fun {n C} B => by
    refine List.ext_getElem (by rw [List.length_map, List.length_range, RO_len]) fun i h1 h2 => ?_
    rw [List.getElem_map, List.getElem_range, List.getD_eq_getElem?_getD, List.getElem?_eq_getElem h2]; rfl
  have hM1 : M1 a = matL a.length (a.getD 0 []).length (lrr (a.getD 0 []).length a.length (rvm a)).1 := rfl
  have hM2 : M2 a = matL a.length a.length (lrr (a.getD 0 []).length a.length (rvm a)).2 := rfl
  have hvd := vol_of_ind hI
  have hA : ∀ i c, sz (rvm a i c) k0 := fun i c => rv_sz (hf.get i) c
  have hkt : ∀ t, t ≤ a.length → kt (lD k0 a.length) (lK k0 a.length) t ≤ lZ k0 a.length := fun t ht => by
    have := kt_mono (D := lD k0 a.length) (K := lK k0 a.length) ht
    unfold lZ; omega
  have hfb : ∀ {K : Nat} {B U : Mx}, LB (rvm a) (a.getD 0 []).length a.length (lD k0 a.length) K B U → K ≤ lZ k0 a.length → Fits (lZ k0 a.length) (RO a.length (a.getD 0 []).length B) := fun h hK => RO_fits fun i c hi hc => (h.bz i c hi hc).mono hK
  have hfu : ∀ {t : Nat} {B U : Mx}, t ≤ a.length → LB (rvm a) (a.getD 0 []).length a.length (lD k0 a.length) (kt (lD k0 a.length) (lK k0 a.length) t) B U → Fits (lZ k0 a.length) (RO a.length a.length U) := fun {t B U} ht h => RO_fits fun i j hi hj => (h.uz (by omega) (by omega) (fun i c _ _ => hA i c) hvd hi hj).mono (by
    have := kt_mono (D := lD k0 a.length) (K := lK k0 a.length) ht
    unfold lZ; omega)
  have hqz : ∀ {t : Nat} {B U : Mx} {i j : Nat}, t ≤ a.length → LB (rvm a) (a.getD 0 []).length a.length (lD k0 a.length) (kt (lD k0 a.length) (lK k0 a.length) t) B U → i < a.length → j < i → sz (rnd (lm (a.getD 0 []).length B i j) (dm (a.getD 0 []).length B (j + 1))) (lZ k0 a.length) := fun {t B U i j} ht h hi hj => (h.qz (by omega) hi hj).mono (by
    have := kt_mono (D := lD k0 a.length) (K := lK k0 a.length) ht
    unfold lZ; omega)
  have hst : ∀ {K : Nat} {B U : Mx} (i : Nat), LB (rvm a) (a.getD 0 []).length a.length (lD k0 a.length) K B U → K ≤ lZ k0 a.length → i < a.length → StZ (RO a.length (a.getD 0 []).length B) (gr (a.getD 0 []).length (rvm (RO a.length (a.getD 0 []).length B))) i ((lZ k0 a.length + lZ k0 a.length + 2) * (a.length + 2) + 1) (lZ k0 a.length) := fun {K B U} i h hK hi => by
    have e1 : ((RO a.length (a.getD 0 []).length B).getD 0 []).length = (a.getD 0 []).length := RO_col hn1
    have := StZ.of (m := RO a.length (a.getD 0 []).length B) (k := i) (hfb h hK) (RO_right hn1 hC1) (by rw [RO_len]; exact ln) (by rw [e1]; exact lc) (by rw [RO_len]; exact hi) (by omega) (by rw [RO_len]; omega)
    rw [e1, RO_len] at this
    exact this
  have hsame : ∀ (B : Mx) i c, i < a.length → c < (a.getD 0 []).length → rvm (RO a.length (a.getD 0 []).length B) i c = B i c := fun B i c hi hc => RO_rv hi hc
  clear z hne e
  generalize hC : (a.getD 0 []).length = C at *
  generalize hZZ : lZ k0 a.length = Z at *
  generalize hDD : lD k0 a.length = D at *
  generalize hKK : lK k0 a.length = K at *
  generalize hNN : a.length = n at *
  refine empty_L V [] (by decide) fun bv0 hbv0 => ?_
  refine empty_L V [] (by decide) fun uv0 huv0 => ?_
  refine loop_rule (X := Nat × Value × Value) (fun x => ([(0, v), (8, x.2.1), (9, x.2.2), (10, .int .i64 (x.1 : Nat))],
      [ownL 1 V [] x.2.2 ((List.range x.1).map fun t => (RO n n one).getD t []), ownL 1 V [] x.2.1 ((List.range x.1).map fun t => (RO n C (rvm a)).getD t [])], [(v, W a)]))
    (fun x => x.1 ≤ n ∧ isSl x.2.1 ∧ isSl x.2.2) (fun x => n - x.1) rfl ?_ ?_
  · exact again (0, bv0, uv0) ⟨Nat.zero_le _, hbv0, huv0⟩ trivial qF (Seals.sub qS)
  rintro ⟨i, bv, uv⟩ ⟨hi, hbv, huv⟩
  simp only at hi hbv huv ⊢
  refine len_fact (v := v) (n := a.length) qM fun _ => ?_
  refine cmp_split _ rfl (fun hc => ?_) (fun hc => ?_)
  · have hin : i < n := by omega
    have ht := fun x y u => rTaken_meets x y u (a.getD i []) (a.getD i []) z0 k0 0 (hf.get i) (hf.get i) Lim.nil (Nat.le_refl _) (Nat.le_refl _) (by omega) (by rw [hlen i hin]; omega)
    rw [htk i hin] at ht
    have hbl : ((List.range i).map fun t => (RO n C (rvm a)).getD t []).length = i := by simp
    have hul : ((List.range i).map fun t => (RO n n one).getD t []).length = i := by simp
    refine draw_rule [0, 1, 2, 3, 4, 5, 6, 7, 8, 9, 10, 11, 12, 13] [0, 1, 2, 3, 4, 5, 6, 7, 8, 9, 10, 11, 12, 13] (by kernel_rfl) (by kernel_rfl) ?_
    refine index_fact (v := v) (n := a.length) qM i rfl (by omega) fun a1 => ?_
    refine load_fact (d := V (a.getD i [])) qM (load_V _) fun x1 => ?_
    refine index_fact (v := v) (n := a.length) qM i rfl (by omega) fun a2 => ?_
    refine load_fact (d := V (a.getD i [])) qM (load_V _) fun x2 => ?_
    refine build0 (da := .one (.bool false)) (db := U []) (fun S w => ⟨[.bool false], [.slice none 0 0], rfl, rd_false S w, rd_nil S w 1 _⟩) fun zz => ?_
    refine call_fn (ht x1 x2 zz) (Seals.refl _ _) (Sub.cons qM (Sub.cons qM (Sub.cons (List.Mem.head _) (Sub.nil _)))) ?_
    rintro x3 _ _ ⟨rfl, rfl⟩
    refine lit_L (size := 1) V [] ((RO n C (rvm a)).getD i []) (by decide) (Reads.fact (v := x3) (d := V ((RO n C (rvm a)).getD i [])) (List.Mem.head _)) rfl fun l1 => ?_
    refine append_L (m := [(RO n C (rvm a)).getD i []]) 1 rfl hbv (Knw.fact (List.Mem.head _)) (by rw [hbl]; simp only [List.length_cons, List.length_nil]; omega) (by rw [hbl]; simp only [List.length_cons, List.length_nil]; omega) fun bv2 hbv2 => ?_
    rw [hRO (rvm a) i hin]
    refine empty_L J z0 (by decide) fun r0 hr0 => ?_
    refine loop_rule (X := Nat × Value) (fun x => ([(0, v), (8, bv2), (9, uv), (10, .int .i64 (i : Nat)), (11, x.2), (12, .int .i64 (x.1 : Nat))],
        [ownL 2 J z0 x.2 ((List.range x.1).map fun c => cn (one i c)), ownL 1 V [] uv ((List.range i).map fun t => (RO n n one).getD t []), ownL 1 V [] bv2 ((List.range (i + 1)).map fun t => (RO n C (rvm a)).getD t [])], [(v, W a)]))
      (fun x => x.1 ≤ n ∧ isSl x.2) (fun x => n - x.1) rfl ?_ ?_
    · exact again (0, r0) ⟨Nat.zero_le _, hr0⟩ trivial qF (Seals.sub (fs' := [(v, W a)]) qS)
    rintro ⟨t, rr⟩ ⟨ht', hrr⟩
    simp only at ht' hrr ⊢
    have hrl : ((List.range t).map fun c => cn (one i c)).length = t := by simp
    refine len_fact (v := v) (n := a.length) qM fun _ => ?_
    refine cmp_split _ rfl (fun hc2 => ?_) (fun hc2 => ?_)
    · have htn : t < n := by omega
      refine build0 (da := .one (.bool false)) (db := U (lims 0)) (fun S w => ⟨[.bool false], [.slice none 0 0], rfl, rd_false S w, by rw [lims_zero]; exact rd_nil S w 1 _⟩) fun zz => ?_
      refine alloc_rule (d := I false []) fun xb hxb => ?_
      refine store_box (d := zd 0) 0 rfl hxb rfl (by kernel_rfl) (Reads.fact (v := zz) (d := zd 0) (List.Mem.head _)) ?_
      refine cmp_split _ rfl (fun hti => ?_) (fun hti => ?_)
      · have e1 : one i t = 1 := if_pos (by omega)
        refine call_fn (rOf_meets 1 (by decide) (by decide)) (Seals.refl _ _) qS ?_
        rintro y0 _ _ ⟨rfl, rfl⟩
        refine store_box (d := zd 1) 0 rfl hxb rfl (by kernel_rfl) (Reads.fact (v := y0) (d := zd 1) (List.Mem.head _)) ?_
        refine load_box (d := zd 1) 0 rfl hxb rfl (load_I _ _) fun y1 => ?_
        refine lit_L (size := 2) J z0 (cn (one i t)) (by decide) (by rw [e1]; exact Reads.fact (v := y1) (d := zd 1) (List.Mem.head _)) rfl fun l1 => ?_
        refine append_L (m := [cn (one i t)]) 1 rfl hrr (Knw.fact (List.Mem.head _)) (by rw [hrl]; simp only [List.length_cons, List.length_nil]; omega) (by rw [hrl]; simp only [List.length_cons, List.length_nil]; omega) fun r2 hr2 => ?_
        refine ar rfl qI ?_
        refine again (t + 1, r2) ⟨by simp only; omega, hr2⟩ (by simp only; omega) qF ?_
        simp only [range_snoc_map]
        exact Seals.trans (Seals.drop 0 _ _) (Seals.sub (fs' := [(v, W a)]) qS)
      · have e1 : one i t = 0 := if_neg (by omega)
        refine load_box (d := zd 0) 0 rfl hxb rfl (load_I _ _) fun y1 => ?_
        refine lit_L (size := 2) J z0 (cn (one i t)) (by decide) (by rw [e1]; exact Reads.fact (v := y1) (d := zd 0) (List.Mem.head _)) rfl fun l1 => ?_
        refine append_L (m := [cn (one i t)]) 1 rfl hrr (Knw.fact (List.Mem.head _)) (by rw [hrl]; simp only [List.length_cons, List.length_nil]; omega) (by rw [hrl]; simp only [List.length_cons, List.length_nil]; omega) fun r2 hr2 => ?_
        refine ar rfl qI ?_
        refine again (t + 1, r2) ⟨by simp only; omega, hr2⟩ (by simp only; omega) qF ?_
        simp only [range_snoc_map]
        exact Seals.trans (Seals.drop 0 _ _) (Seals.sub (fs' := [(v, W a)]) qS)
    · have htn : t = n := by omega
      subst htn
      have erow : ((List.range t).map fun c => cn (one i c)) = (RO t t one).getD i [] := (RO_row hin).symm
      rw [erow]
      refine BuildSliceK.pre (Seals.L 0 rfl hrr) ?_
      refine lit_L (size := 1) V [] ((RO t t one).getD i []) (by decide) (Reads.fact (v := rr) (d := V ((RO t t one).getD i [])) (List.Mem.head _)) rfl fun l2 => ?_
      refine append_L (m := [(RO t t one).getD i []]) 0 rfl huv (Knw.fact (List.Mem.head _)) (by rw [hul]; simp only [List.length_cons, List.length_nil]; omega) (by rw [hul]; simp only [List.length_cons, List.length_nil]; omega) fun uv2 huv2 => ?_
      rw [hRO one i hin]
      refine ar rfl qI ?_
      exact again (i + 1, bv2, uv2) ⟨by simp only; omega, hbv2, huv2⟩ (by simp only; omega) qF (Seals.sub (fs' := [(v, W a)]) qS)
  have hin : i = n := by omega
  subst hin
  rw [hROall (rvm a), hROall one]
  generalize hNN2 : i = n at *
  refine loop_rule (X := RdR) (fun x => ([(8, bv), (9, uv), (14, .int .i64 (x.k : Nat))], [ownL 1 V [] bv (RO n C x.B), ownL 1 V [] uv (RO n n x.U)], []))
    (fun x => 1 ≤ x.k ∧ x.k ≤ n ∧ LB (rvm a) C n D K x.B x.U ∧ lrun C n x.f x.B x.U x.k = some (lrr C n (rvm a))) (fun x => x.f) rfl ?_ ?_
  · exact again ⟨1, rvm a, one, f0'⟩ ⟨Nat.le_refl _, hn1, hlb0, hf0⟩ trivial qF (Seals.trans (Seals.pick [1, 0] 2 rfl (by decide)) (Seals.nil _ _))
  rintro ⟨k, B, U, f⟩ ⟨hk1, hk2, hlb, hfr⟩
  simp only at hk1 hk2 hlb hfr ⊢
  have hBl : (RO n C B).length = n := RO_len _ _ _
  refine len_own (n := (RO n C B).length) 0 rfl hbv fun _ => ?_
  refine cmp_split _ rfl (fun hc => ?_) (fun hc => ?_)
  · have hkn : k < n := by omega
    obtain ⟨g, rfl, hg⟩ := lrun_step hfr hkn
    refine ar rfl qI ?_
    refine loop_rule (X := RdJ) (fun x => ([(8, bv), (9, uv), (14, .int .i64 (k : Nat)), (15, .int .i64 x.z)], [ownL 1 V [] bv (RO n C x.B), ownL 1 V [] uv (RO n n x.U)], []))
      (fun x => x.z = (x.j : Int) - 1 ∧ x.j ≤ k ∧ LB (rvm a) C n D (kt D K (k - x.j)) x.B x.U ∧ redr C k x.j x.B x.U = redr C k k B U) (fun x => x.j) rfl ?_ ?_
    · exact again ⟨(k : Int) - 1, k, B, U⟩ ⟨rfl, Nat.le_refl _, by simp only [Nat.sub_self]; exact hlb, rfl⟩ trivial qF (Seals.nil _ _)
    rintro ⟨z, j, B2, U2⟩ ⟨hz, hj, hlb2, he⟩
    simp only at hz hj hlb2 he ⊢
    have hB2l : (RO n C B2).length = n := RO_len _ _ _
    have hU2l : (RO n n U2).length = n := RO_len _ _ _
    have hK2 := hkt (k - j) (by omega)
    have hst2 := hst k hlb2 hK2 hkn
    have hs2 := hsame B2
    have hd2 : ∀ t, t ≤ n → dG (gr C (rvm (RO n C B2))) t = dm C B2 t := fun t ht => dm_same hs2 ht
    have hp2 : ∀ t, t ≤ n → 0 < dG (gr C (rvm (RO n C B2))) t := fun t ht => by rw [hd2 t ht]; exact hlb2.ind t ht
    refine cmp_split _ rfl (fun hc2 => ?_) (fun hc2 => ?_)
    · obtain ⟨j, rfl⟩ : ∃ j', j = j' + 1 := ⟨j - 1, by omega⟩
      obtain rfl : z = (j : Int) := by omega
      have hjk : j < k := by omega
      refine straightB hst2 hbv (fun _ qm qn => ?_) (fun ⟨t, ht, h0⟩ => ?_)
      rotate_left
      · have := hp2 t (by omega); omega
      have hl2 : mi (gr C (rvm (RO n C B2))) j k j = lm C B2 k j := lm_same hs2 hjk hkn
      have hdj : dG (gr C (rvm (RO n C B2))) (j + 1) = dm C B2 (j + 1) := hd2 (j + 1) (by omega)
      have hround : ∀ x y, Meets Tryz.prog 31 [x, y] [(x, zd (mF (gr C (rvm (RO n C B2))) k j).1), (y, zd (mF (gr C (rvm (RO n C B2))) k j).2)] (fun r os fs => os = [] ∧ ∃ q, r = .tuple #[q, .bool true] ∧ fs = [(q, zd (rnd (lm C B2 k j) (dm C B2 (j + 1))))]) := fun x y => by
        have hp := hp2 (j + 1) (by omega)
        have h := rRound_meets x y (mF (gr C (rvm (RO n C B2))) k j).1 (mF (gr C (rvm (RO n C B2))) k j).2 _ (frn_sz (hst2.he j k j (by omega))) (frd_sz (hst2.hd (j + 1) (by omega))) (by omega) (frd_pos (by omega))
        rw [show rnd (mF (gr C (rvm (RO n C B2))) k j).1 (mF (gr C (rvm (RO n C B2))) k j).2 = rnd (lm C B2 k j) (dm C B2 (j + 1)) by
          show rnd (frn _ _) (frd _ _) = _
          rw [rnd_fr hp, hl2, hdj]] at h
        exact h
      have hqs := hqz (by omega) hlb2 hkn hjk
      have hlb3 := hlb2.redq hkn hjk (hlb2.qz (by omega) hkn hjk)
      have hfB := hfb hlb2 hK2
      have hfU := hfu (show k - (j + 1) ≤ n by omega) hlb2
      have hq3 : ∀ x y u, Meets Tryz.prog 30 [x, y, u] [(x, V ((RO n C B2).getD k [])), (y, V ((RO n C B2).getD j [])), (u, zd (rnd (lm C B2 k j) (dm C B2 (j + 1))))] (fun r os fs => os = [] ∧ fs = [(r, V ((RO n C (redq B2 k j (rnd (lm C B2 k j) (dm C B2 (j + 1))))).getD k []))]) := fun x y u => by
        have h := rTaken_meets x y u ((RO n C B2).getD k []) ((RO n C B2).getD j []) (cn (rnd (lm C B2 k j) (dm C B2 (j + 1)))) Z Z (hfB.get k) (hfB.get j) (Lim_lims _) hqs.len (by rw [RO_col hkn, RO_col (show j < n by omega)]; exact Nat.le_refl _) (by omega) (by rw [RO_col hkn]; omega)
        rw [jv_cn, tkn_RO hkn (show j < n by omega)] at h
        exact h
      have hq4 : ∀ x y u, Meets Tryz.prog 30 [x, y, u] [(x, V ((RO n n U2).getD k [])), (y, V ((RO n n U2).getD j [])), (u, zd (rnd (lm C B2 k j) (dm C B2 (j + 1))))] (fun r os fs => os = [] ∧ fs = [(r, V ((RO n n (redq U2 k j (rnd (lm C B2 k j) (dm C B2 (j + 1))))).getD k []))]) := fun x y u => by
        have h := rTaken_meets x y u ((RO n n U2).getD k []) ((RO n n U2).getD j []) (cn (rnd (lm C B2 k j) (dm C B2 (j + 1)))) Z Z (hfU.get k) (hfU.get j) (Lim_lims _) hqs.len (by rw [RO_col hkn, RO_col (show j < n by omega)]; exact Nat.le_refl _) (by omega) (by rw [RO_col hkn]; omega)
        rw [jv_cn, tkn_RO hkn (show j < n by omega)] at h
        exact h
      have hnext : redr C k j (redq B2 k j (rnd (lm C B2 k j) (dm C B2 (j + 1)))) (redq U2 k j (rnd (lm C B2 k j) (dm C B2 (j + 1)))) = redr C k k B U := he
      generalize hq : rnd (lm C B2 k j) (dm C B2 (j + 1)) = q at *
      generalize hG : gr C (rvm (RO n C B2)) = G at *
      have hji : j < k := hjk
      refine draw_join (X := Value) (fun z => ([(8, bv), (9, uv), (14, .int .i64 (k : Nat)), (15, .int .i64 (j : Nat)), (19, z)], [own1 z 2 1 (fun _ => zd q), ownL 1 V [] bv (RO n C B2), ownL 1 V [] uv (RO n n U2)], [])) isBox ?_ ?_
      ·
        refine draw_ord [0, 1, 2, 3, 4, 5, 6, 7, 8, 9, 10, 11, 12, 13, 14, 15, 16, 17, 18, 20, 21, 19, 22] (by kernel_rfl) ?_
        refine ord_split 16 20 (by kernel_rfl) (by kernel_rfl) (by kernel_rfl) ?_ ?_
        · refine ord_go [0, 1, 2, 3, 4, 5, 6, 7, 8, 9, 10, 11, 12, 13, 14, 15, 16, 17, 18, 19, 20, 21, 22] (by kernel_rfl) (by kernel_rfl) ?_
          refine index_fact (v := qm) qM k rfl (by rw [mlist_len]; omega) fun a1 => ?_
          refine load_fact (d := FL (mrow G k k)) (by rw [← mlist_get (show k < k + 1 by omega)]; exact List.Mem.head _) (load_FL _) fun a2 => ?_
          refine index_fact (v := a2) (n := (mrow G k k).length) (el := fun t => fP ((mrow G k k).getD t f0)) (List.Mem.head _) j rfl (by rw [mrow_len]; omega) fun a3 => ?_
          refine field_fact (d := fP (mF G k j)) (d' := zd (mF G k j).1) (by rw [← mrow_get hji]; exact List.Mem.head _) (Part.left (Part.refl _)) fun a4 => ?_
          refine load_fact (d := zd (mF G k j).1) (List.Mem.head _) (load_I _ _) fun x1 => ?_
          refine index_fact (v := qm) qM k rfl (by rw [mlist_len]; omega) fun b1 => ?_
          refine load_fact (d := FL (mrow G k k)) (by rw [← mlist_get (show k < k + 1 by omega)]; exact List.Mem.head _) (load_FL _) fun b2 => ?_
          refine index_fact (v := b2) (n := (mrow G k k).length) (el := fun t => fP ((mrow G k k).getD t f0)) (List.Mem.head _) j rfl (by rw [mrow_len]; omega) fun b3 => ?_
          refine field_fact (d := fP (mF G k j)) (d' := zd (mF G k j).2) (by rw [← mrow_get hji]; exact List.Mem.head _) (Part.right (Part.refl _)) fun b4 => ?_
          refine load_fact (d := zd (mF G k j).2) (List.Mem.head _) (load_I _ _) fun x2 => ?_
          refine call_fn (hround x1 x2) (Seals.refl _ _) qS ?_
          rintro _ _ _ ⟨rfl, x3, rfl, rfl⟩
          refine alloc_rule (d := I false []) fun qb hqb => ?_
          refine store_box (d := zd q) 0 rfl hqb rfl (by kernel_rfl) (Reads.fact (v := x3) qM) ?_
          exact again qb hqb trivial qF (Seals.trans (Seals.box0 rfl) (Seals.nil _ _))
        · refine ord_go [0, 1, 2, 3, 4, 5, 6, 7, 8, 9, 10, 11, 12, 13, 14, 15, 20, 16, 17, 18, 19, 21, 22] (by kernel_rfl) (by kernel_rfl) ?_
          refine index_fact (v := qm) qM k rfl (by rw [mlist_len]; omega) fun a1 => ?_
          refine load_fact (d := FL (mrow G k k)) (by rw [← mlist_get (show k < k + 1 by omega)]; exact List.Mem.head _) (load_FL _) fun a2 => ?_
          refine index_fact (v := a2) (n := (mrow G k k).length) (el := fun t => fP ((mrow G k k).getD t f0)) (List.Mem.head _) j rfl (by rw [mrow_len]; omega) fun a3 => ?_
          refine field_fact (d := fP (mF G k j)) (d' := zd (mF G k j).1) (by rw [← mrow_get hji]; exact List.Mem.head _) (Part.left (Part.refl _)) fun a4 => ?_
          refine load_fact (d := zd (mF G k j).1) (List.Mem.head _) (load_I _ _) fun x1 => ?_
          refine index_fact (v := qm) qM k rfl (by rw [mlist_len]; omega) fun b1 => ?_
          refine load_fact (d := FL (mrow G k k)) (by rw [← mlist_get (show k < k + 1 by omega)]; exact List.Mem.head _) (load_FL _) fun b2 => ?_
          refine index_fact (v := b2) (n := (mrow G k k).length) (el := fun t => fP ((mrow G k k).getD t f0)) (List.Mem.head _) j rfl (by rw [mrow_len]; omega) fun b3 => ?_
          refine field_fact (d := fP (mF G k j)) (d' := zd (mF G k j).2) (by rw [← mrow_get hji]; exact List.Mem.head _) (Part.right (Part.refl _)) fun b4 => ?_
          refine load_fact (d := zd (mF G k j).2) (List.Mem.head _) (load_I _ _) fun x2 => ?_
          refine alloc_rule (d := I false []) fun qb hqb => ?_
          refine call_fn (hround x1 x2) (Seals.refl _ _) qS ?_
          rintro _ _ _ ⟨rfl, x3, rfl, rfl⟩
          refine store_box (d := zd q) 0 rfl hqb rfl (by kernel_rfl) (Reads.fact (v := x3) qM) ?_
          exact again qb hqb trivial qF (Seals.trans (Seals.box0 rfl) (Seals.nil _ _))
      rintro qb hqb
      refine draw_rule [0, 1, 2, 3, 4, 5, 6, 7, 8, 9, 10, 11, 12, 13] [0, 1, 2, 3, 4, 5, 6, 7, 8, 9, 10, 11, 12, 13] (by kernel_rfl) (by kernel_rfl) ?_
      refine index_elem (v := bv) (e := fun t => V ((RO n C B2).getD t [])) (n := (RO n C B2).length) 1 rfl hbv (k) (by omega) (by rw [RO_len]; omega) ?_
      refine load_elem' (e := fun t => V ((RO n C B2).getD t [])) (n := (RO n C B2).length) (d := V ((RO n C B2).getD (k) [])) 1 rfl (k) (by rw [RO_len]; omega) rfl (load_V _) fun x1 => ?_
      refine index_elem (v := bv) (e := fun t => V ((RO n C B2).getD t [])) (n := (RO n C B2).length) 1 rfl hbv (j) (by omega) (by rw [RO_len]; omega) ?_
      refine load_elem' (e := fun t => V ((RO n C B2).getD t [])) (n := (RO n C B2).length) (d := V ((RO n C B2).getD (j) [])) 1 rfl (j) (by rw [RO_len]; omega) rfl (load_V _) fun x2 => ?_
      refine load_box (d := zd q) 0 rfl hqb rfl (load_I _ _) fun x3 => ?_
      refine call_fn (hq3 x1 x2 x3) (Seals.refl _ _) qS ?_
      rintro x4 _ _ ⟨rfl, rfl⟩
      refine index_elem (v := bv) (e := fun t => V ((RO n C B2).getD t [])) (n := (RO n C B2).length) 1 rfl hbv k rfl (by omega) ?_
      refine store_elem (d := V ((RO n C (redq B2 k j q)).getD k [])) (e := fun t => V ((RO n C B2).getD t [])) (n := (RO n C B2).length) 1 rfl k (by omega) rfl (by kernel_rfl) (Reads.fact (v := x4) (List.Mem.head _)) ?_
      refine draw_rule [0, 1, 2, 3, 4, 5, 6, 7, 8, 9, 10, 11, 12, 13] [0, 1, 2, 3, 4, 5, 6, 7, 8, 9, 10, 11, 12, 13] (by kernel_rfl) (by kernel_rfl) ?_
      refine index_elem (v := uv) (e := fun t => V ((RO n n U2).getD t [])) (n := (RO n n U2).length) 2 rfl huv (k) (by omega) (by rw [RO_len]; omega) ?_
      refine load_elem' (e := fun t => V ((RO n n U2).getD t [])) (n := (RO n n U2).length) (d := V ((RO n n U2).getD (k) [])) 2 rfl (k) (by rw [RO_len]; omega) rfl (load_V _) fun x5 => ?_
      refine index_elem (v := uv) (e := fun t => V ((RO n n U2).getD t [])) (n := (RO n n U2).length) 2 rfl huv (j) (by omega) (by rw [RO_len]; omega) ?_
      refine load_elem' (e := fun t => V ((RO n n U2).getD t [])) (n := (RO n n U2).length) (d := V ((RO n n U2).getD (j) [])) 2 rfl (j) (by rw [RO_len]; omega) rfl (load_V _) fun x6 => ?_
      refine load_box (d := zd q) 0 rfl hqb rfl (load_I _ _) fun x7 => ?_
      refine call_fn (hq4 x5 x6 x7) (Seals.refl _ _) qS ?_
      rintro x8 _ _ ⟨rfl, rfl⟩
      refine index_elem (v := uv) (e := fun t => V ((RO n n U2).getD t [])) (n := (RO n n U2).length) 2 rfl huv k rfl (by omega) ?_
      refine store_elem (d := V ((RO n n (redq U2 k j q)).getD k [])) (e := fun t => V ((RO n n U2).getD t [])) (n := (RO n n U2).length) 2 rfl k (by omega) rfl (by kernel_rfl) (Reads.fact (v := x8) (List.Mem.head _)) ?_
      refine ar rfl qI ?_
      refine again ⟨(j : Int) - 1, j, redq B2 k j q, redq U2 k j q⟩ ⟨rfl, by simp only; omega, ?_, hnext⟩ (by simp only; omega) qF ?_
      · simp only
        rw [show k - j = (k - (j + 1)) + 1 by omega]
        exact hlb3
      · refine Seals.trans (Seals.drop 0 _ _) (Seals.trans (Seals.putL (l := RO n C B2) (l' := RO n C (redq B2 k j q)) (k := k) (os := [_, _]) 0 rfl (by rw [RO_len, RO_len]) rfl fun t ht hne => RO_red_other (by omega) hne)
          (Seals.trans (Seals.putL (l := RO n n U2) (l' := RO n n (redq U2 k j q)) (k := k) (os := [_, _]) 1 rfl (by rw [RO_len, RO_len]) rfl fun t ht hne => RO_red_other (by omega) hne) (Seals.nil _ _)))
    · obtain rfl : j = 0 := by omega
      have eB : (redr C k k B U).1 = B2 := by rw [← he]; rfl
      have eU : (redr C k k B U).2 = U2 := by rw [← he]; rfl
      have hlb3 : LB (rvm a) C n D K B2 U2 := by
        have := redr_LB (by omega) hkn hnK hlb
        rwa [eB, eU] at this
      rw [eB, eU] at hg
      refine straightB hst2 hbv (fun _ qm qn => ?_) (fun ⟨t, ht, h0⟩ => ?_)
      rotate_left
      · have := hp2 t (by omega); omega
      have hfl : (3 * (dG (gr C (rvm (RO n C B2))) k * dG (gr C (rvm (RO n C B2))) k) ≤ 4 * (dG (gr C (rvm (RO n C B2))) (k + 1) * dG (gr C (rvm (RO n C B2))) (k - 1) + mi (gr C (rvm (RO n C B2))) (k - 1) k (k - 1) * mi (gr C (rvm (RO n C B2))) (k - 1) k (k - 1))) ↔ farL C B2 k := farL_same hs2 hkn hk1
      refine call_fn (rFar_meets qm qn k (k + 1) _ hk1 (by omega) (by omega) hst2.he hst2.hd (by omega) (fun t ht => hp2 t (by omega))) (Seals.refl _ _) qS ?_
      rintro _ _ _ ⟨rfl, rfl, rfl⟩
      by_cases hfar : farL C B2 k
      · rw [decide_eq_true (hfl.2 hfar)]
        rw [if_pos hfar] at hg
        refine ar rfl qI ?_
        exact again ⟨k + 1, B2, U2, g⟩ ⟨by simp only; omega, by simp only; omega, hlb3, hg⟩ (by simp only; omega) qF (Seals.nil _ _)
      · rw [decide_eq_false (fun h => hfar (hfl.1 h))]
        rw [if_neg hfar] at hg
        refine index_elem (v := bv) (e := fun t => V ((RO n C B2).getD t [])) (n := (RO n C B2).length) 0 rfl hbv (k) (by omega) (by rw [RO_len]; omega) ?_
        refine load_elem' (e := fun t => V ((RO n C B2).getD t [])) (n := (RO n C B2).length) (d := V ((RO n C B2).getD (k) [])) 0 rfl (k) (by rw [RO_len]; omega) rfl (load_V _) fun x1 => ?_
        refine index_elem (v := uv) (e := fun t => V ((RO n n U2).getD t [])) (n := (RO n n U2).length) 1 rfl huv (k) (by omega) (by rw [RO_len]; omega) ?_
        refine load_elem' (e := fun t => V ((RO n n U2).getD t [])) (n := (RO n n U2).length) (d := V ((RO n n U2).getD (k) [])) 1 rfl (k) (by rw [RO_len]; omega) rfl (load_V _) fun x2 => ?_
        refine ar rfl qI ?_
        refine index_elem (v := bv) (e := fun t => V ((RO n C B2).getD t [])) (n := (RO n C B2).length) 0 rfl hbv (k - 1) (by omega) (by rw [RO_len]; omega) ?_
        refine load_elem' (e := fun t => V ((RO n C B2).getD t [])) (n := (RO n C B2).length) (d := V ((RO n C B2).getD (k - 1) [])) 0 rfl (k - 1) (by rw [RO_len]; omega) rfl (load_V _) fun x3 => ?_
        refine index_elem (v := bv) (e := fun t => V ((RO n C B2).getD t [])) (n := (RO n C B2).length) 0 rfl hbv k rfl (by omega) ?_
        refine store_elem (d := V ((RO n C B2).getD (k - 1) [])) (e := fun t => V ((RO n C B2).getD t [])) (n := (RO n C B2).length) 0 rfl k (by omega) rfl (by kernel_rfl) (Reads.fact (v := x3) (List.Mem.head _)) ?_
        refine ar rfl qI ?_
        refine index_elem (v := uv) (e := fun t => V ((RO n n U2).getD t [])) (n := (RO n n U2).length) 1 rfl huv (k - 1) (by omega) (by rw [RO_len]; omega) ?_
        refine load_elem' (e := fun t => V ((RO n n U2).getD t [])) (n := (RO n n U2).length) (d := V ((RO n n U2).getD (k - 1) [])) 1 rfl (k - 1) (by rw [RO_len]; omega) rfl (load_V _) fun x4 => ?_
        refine index_elem (v := uv) (e := fun t => V ((RO n n U2).getD t [])) (n := (RO n n U2).length) 1 rfl huv k rfl (by omega) ?_
        refine store_elem (d := V ((RO n n U2).getD (k - 1) [])) (e := fun t => V ((RO n n U2).getD t [])) (n := (RO n n U2).length) 1 rfl k (by omega) rfl (by kernel_rfl) (Reads.fact (v := x4) (List.Mem.head _)) ?_
        refine ar rfl qI ?_
        refine index_elem (v := bv) (n := (RO n C B2).length) 0 rfl hbv (k - 1) (by omega) (by omega) ?_
        refine store_elem (d := V ((RO n C B2).getD k [])) (n := (RO n C B2).length) 0 rfl (k - 1) (by omega) rfl (by kernel_rfl) (Reads.fact (v := x1) qM) ?_
        refine ar rfl qI ?_
        refine index_elem (v := uv) (n := (RO n n U2).length) 1 rfl huv (k - 1) (by omega) (by omega) ?_
        refine store_elem (d := V ((RO n n U2).getD k [])) (n := (RO n n U2).length) 1 rfl (k - 1) (by omega) rfl (by kernel_rfl) (Reads.fact (v := x2) qM) ?_
        refine ar rfl qI ?_
        refine max2_rule ?_
        refine again ⟨max 1 (k - 1), swb B2 (k - 1), swb U2 (k - 1), g⟩ ⟨by simp only; omega, by simp only; omega, hlb3.swb hk1 hkn hfar, hg⟩ (by simp only; omega) qF ?_
        exact Seals.trans (Seals.own_cong (os := [_, _]) (n' := (RO n C (swb B2 (k - 1))).length) 0 (fun t => V ((RO n C (swb B2 (k - 1))).getD t [])) rfl (by rw [RO_len, RO_len]) (fun t ht => RO_swap hk1 hkn (by omega)))
          (Seals.trans (Seals.own_cong (os := [_, _]) (n' := (RO n n (swb U2 (k - 1))).length) 1 (fun t => V ((RO n n (swb U2 (k - 1))).getD t [])) rfl (by rw [RO_len, RO_len]) (fun t ht => RO_swap hk1 hkn (by omega))) (Seals.nil _ _))
  · have hRR := lrun_end hfr (by omega)
    rw [hM1, hM2, hRR]
    exact fin ⟨rfl, bv, uv, rfl, rfl⟩ (Seals.trans (Seals.L 0 rfl hbv) (Seals.trans (Seals.L 0 rfl huv) (Seals.cons (Knw.fact (List.Mem.tail _ (List.Mem.head _))) (Seals.cons (Knw.fact (List.Mem.head _)) (Seals.nil _ _)))))
open Go.RowKit
theorem call_lend {P : Program} {d : Bool} {g : FuncId} {args : List Value} {os os₁ : List Own} {fs fs₁ cfs : List Fact} {K : Cont} {R : Value → List Own → List Fact → Prop}
    (hm : Meets P g args cfs R) (hs : Seals os fs os₁ fs₁) (hsub : Sub cfs fs₁)
    (k : ∀ v os' fs', R v os' fs' → K v os fs) : CallK P d (.func (.func g) #[] #[]) args os fs K := by
  have key : Grw P (do let x ← Deferred.ofValue (.func (.func g) #[] #[]) args.toArray; invoke x.target x.args) os fs K := by
    intro G w hw0
    have hw := hs G w hw0
    have hrun : (do let x ← Deferred.ofValue (.func (.func g) #[] #[]) args.toArray; invoke x.target x.args : Sem Next).run P w =
        .ok (.enter g args.toArray) w := by
      simp only [Deferred.ofValue, pure_bind, invoke]
      simpa using hm.enter args.toArray w
    rw [hrun]
    refine Calls.mono (hm.calls (fun b => G.A b ∨ owned os₁ b) w (fun b hb => ?_) ?_) ?_
    · rcases hb with hb | hb
      · exact Nat.lt_of_lt_of_le (hw.low b hb) hw.size
      · exact (hw.owned_lt hb).2
    · refine (hw.weaken_facts hsub).facts.mono (fun _ _ => rfl) fun b ⟨h1, h2, h3⟩ => ⟨h1, fun h => h.elim h2 h3⟩
    · rintro e w' ⟨v, os', fs', rfl, hr, hh⟩
      exact ⟨v, rfl, hh.below, os, fs, k v os' fs' hr, hw0.grow hh.below⟩
  exact ⟨key.dyn, fun _ => key⟩
open Go.RowKit
theorem lZ_tiny {n : Nat} (h : n ≤ 4) : (lZ 1 n + lZ 1 n + 2) * (n + 2) + 1 ≤ 16777216 ∧ (1 + 1 + 2) * (n + 2) + 1 ≤ 16777216 := by
  have : n = 0 ∨ n = 1 ∨ n = 2 ∨ n = 3 ∨ n = 4 := by omega
  rcases this with rfl | rfl | rfl | rfl | rfl <;> decide
def clr (x : Mx) (i : Nat) : Mx := fun a c => if a < i ∧ c = 0 then 0 else x a c
theorem clr_zero (x : Mx) : clr x 0 = x := by
  funext a c; unfold clr; rw [if_neg (by omega)]
theorem clr_succ (x : Mx) (i : Nat) {R C : Nat} : ∀ a b, a < R → b < C → clr x (i + 1) a b = if a = i ∧ b = 0 then 0 else clr x i a b := fun a b _ _ => by
  unfold clr
  by_cases e : a = i ∧ b = 0
  · rw [if_pos e, if_pos (by omega)]
  · rw [if_neg e]
    by_cases e2 : a < i ∧ b = 0
    · rw [if_pos e2, if_pos (by omega)]
    · rw [if_neg e2, if_neg (by omega)]
theorem lreduces_meets (v : Value) (a : List Row) (ha : limM a) :
    Meets Tryz.prog 3 [v] [(v, W a)] (fun r os fs => os = [] ∧ fs = [] ∧ r = .bool true) := by
  refine meets_of_vc Tryz.func3 (by kernel_rfl) rfl (by kernel_rfl) (Nat.le_of_ble_eq_true rfl) ?_
  refine call_fn shown4_meets (Seals.refl _ _) qS ?_
  rintro _ _ _ ⟨rfl, rfl, rfl⟩
  refine call_fn (little4_meets v a) (Seals.refl _ _) qS ?_
  rintro _ _ _ ⟨rfl, rfl, rfl⟩
  by_cases hs : small 4 5 1 a
  case neg =>
    rw [decide_eq_false hs]
    exact fin ⟨rfl, rfl, rfl⟩ (Seals.nil _ _)
  rw [decide_eq_true hs]
  have hf := hs.fits ha
  have hc := hs.cols
  have hn := hs.1
  obtain ⟨z1, z2, z3, z4, z5⟩ := lZ_small hn
  obtain ⟨y1, y2⟩ := lZ_tiny hn
  refine call_fn (rowsOwn_meets v a (by have := hs.1; omega) fun r hr => ⟨by have := (hs.2 r hr).1; omega, fun x hx => by have := (hs.2 r hr).2 x hx; omega⟩) (Seals.refl _ _) qS ?_
  rintro x _ _ ⟨rfl, rfl⟩
  refine call_fn (rReduce_meets v a 1 hf (by omega) (by omega) y1) (Seals.refl _ _) qS ?_
  rintro _ _ _ ⟨rfl, r, u, rfl, rfl⟩
  refine call_fn (rReduced_meets v a 1 hf (by omega) (by omega) y2) (Seals.refl _ _) qS ?_
  rintro _ _ _ ⟨rfl, rfl, p, hp, rfl⟩
  have g1 : Meets Tryz.prog 11 [x] [(x, W a)] (fun r os fs => os = [] ∧ fs = [] ∧ r = .tuple #[.bool p, .int .i64 (if right a then 0 else 1)]) := (lReduced_meets x a 1 hf (by decide) (by omega) (by omega) z4).mono fun r os fs ⟨h1, h2, p', h3, h4⟩ => by
    obtain rfl : p' = p := by
      have := h3.trans hp.symm
      cases p' <;> cases p <;> simp_all
    exact ⟨h1, h2, h4⟩
  have g2 : Meets Tryz.prog 12 [x, v] [(x, W a), (v, W a)] (fun r os fs => os = [] ∧ fs = [] ∧ r = .bool true) := by
    have := same4_meets x v a a
    rw [decide_eq_true rfl] at this
    exact this
  refine loop_rule (X := Nat) (fun t => ([(0, v), (3, .bool true), (4, x), (5, r), (6, u), (7, .int .i64 (lred a).2.2), (8, .bool p), (9, .int .i64 (if right a then 0 else 1)), (10, .int .i64 (t : Nat))], [], [(x, W a), (r, wd (lred a).1), (u, wd (lred a).2.1), (v, W a)]))
    (fun t => t ≤ 2) (fun t => 2 - t) rfl ?_ ?_
  · exact again 0 (Nat.zero_le _) trivial qF (Seals.sub qS)
  rintro t ht
  refine cmp_split _ rfl (fun hlt => ?_) (fun hlt => ?_)
  · by_cases hI : right a ∧ Ind (a.getD 0 []).length a.length (rvm a)
    case neg =>
      obtain ⟨e1, e2, _⟩ := lred_bad hI
      have h0 := lReduceT x a 1 hf (by decide) (by omega) (by omega) z1
      rw [e1, e2] at h0 ⊢
      refine call_fn h0 (Seals.refl _ _) qS ?_
      rintro _ _ _ ⟨rfl, s, w, rfl, rfl⟩
      refine call_fn (g1) (Seals.refl _ _) qS ?_
      rintro _ _ _ ⟨rfl, rfl, rfl⟩
      refine call_fn (sameT r s [] [] rfl) (Seals.refl _ _) qS ?_
      rintro _ _ _ ⟨rfl, rfl, rfl⟩
      refine call_fn (sameT u w [] [] rfl) (Seals.refl _ _) qS ?_
      rintro _ _ _ ⟨rfl, rfl, rfl⟩
      refine cmp_false rfl (fun h => h rfl) ?_
      refine bne_split (fun h => absurd rfl h) (fun _ => ?_)
      refine cmp_false rfl (fun h => h rfl) ?_
      refine loop_rule (X := Nat) (fun _ => ([(0, v), (3, .bool true), (4, x), (5, r), (6, u), (7, .int .i64 (lred a).2.2), (8, .bool p), (9, .int .i64 (if right a then 0 else 1)), (10, .int .i64 (t : Nat)), (11, s), (12, w), (16, .int .i64 0)], [], [(s, wd []), (x, W a), (r, wd []), (u, wd []), (v, W a)]))
        (fun _ => True) (fun _ => 0) rfl ?_ ?_
      · exact again 0 trivial trivial qF (Seals.sub qS)
      rintro _ _
      refine len_fact (v := s) (n := 0) qM fun _ => ?_
      refine cmp_false rfl (by decide) ?_
      refine ar rfl qI ?_
      refine again (t + 1) (by omega) (by simp only; omega) qF ?_
      exact Seals.sub (fs' := [(x, W a), (r, wd []), (u, wd []), (v, W a)]) qS
    obtain ⟨hr, hI⟩ := hI
    have h0 := lReduce_meets x a 1 (lrd a) hf (by decide) (by omega) (by omega) z1 fun _ h => lrr_spec h
    rw [lred_ok hr hI]
    refine call_fn h0 (Seals.refl _ _) qS ?_
    rintro _ _ _ ⟨rfl, ⟨h, rfl, rfl⟩ | ⟨h, hi, rfl, rfl⟩ | ⟨h, hi, s, w, vs, ws, h1, h2, h3, h4, rfl, rfl⟩⟩
    · exact absurd hr h
    · exact absurd hI hi
    have hseal : ∀ {fs : List Fact}, Seals [famO vs a.length (a.getD 0 []).length (lrd a).1, outer s a.length vs, famO ws a.length a.length (lrd a).2, outer w a.length ws] fs [] ((w, wd (M2 a)) :: (s, wd (M1 a)) :: fs) := Seals.trans (Seals.made h1 h3) (Seals.made h2 h4)
    refine call_fn (g1) (Seals.refl _ _) qS ?_
    rintro _ _ _ ⟨rfl, rfl, rfl⟩
    refine call_lend (sameT r s (M1 a) (M1 a) rfl) hseal qS ?_
    rintro _ _ _ ⟨rfl, rfl, rfl⟩
    refine call_lend (sameT u w (M2 a) (M2 a) rfl) hseal qS ?_
    rintro _ _ _ ⟨rfl, rfl, rfl⟩
    refine cmp_false rfl (fun h => h rfl) ?_
    refine bne_split (fun h => absurd rfl h) (fun _ => ?_)
    refine cmp_false rfl (fun h => h rfl) ?_
    refine loop_rule (X := Nat) (fun i => ([(0, v), (3, .bool true), (4, x), (5, r), (6, u), (7, .int .i64 (0 : Nat)), (8, .bool p), (9, .int .i64 (if right a then 0 else 1)), (10, .int .i64 (t : Nat)), (11, s), (12, w), (16, .int .i64 (i : Nat))],
        [famO vs a.length (a.getD 0 []).length (clr (lrd a).1 i), outer s a.length vs, famO ws a.length a.length (clr (lrd a).2 i), outer w a.length ws], [(x, W a), (r, wd (M1 a)), (u, wd (M2 a)), (v, W a)]))
      (fun i => i ≤ a.length) (fun i => a.length - i) rfl ?_ ?_
    · exact again 0 (Nat.zero_le _) trivial qF (by rw [clr_zero, clr_zero]; exact Seals.sub qS)
    rintro i hi'
    refine len_own 1 rfl h1 fun _ => ?_
    refine cmp_split _ rfl (fun hc1 => ?_) (fun hc1 => ?_)
    · have hin : i < a.length := by omega
      have hC1 := (hr.get hr.1).1
      have hn1 := hr.1
      refine index_elem 1 rfl h1 i rfl (by omega) ?_
      refine load_one_elem 1 rfl i (by omega) (u := vs i) rfl ?_
      refine build0 (da := .one (.bool false)) (db := U (lims 0)) (fun S w => ⟨[.bool false], [.slice none 0 0], rfl, rd_false S w, by rw [lims_zero]; exact rd_nil S w 1 _⟩) fun zz => ?_
      refine index_fam 0 i rfl hin (h3 i hin) 0 rfl (by omega) ?_
      refine store_mx 0 i 0 rfl hin (by omega) 0 (clr (lrd a).1 (i + 1)) (Reads.fact (d := zd 0) qM) (clr_succ (lrd a).1 i) ?_
      refine index_elem 3 rfl h2 i rfl (by omega) ?_
      refine load_one_elem 3 rfl i (by omega) (u := ws i) rfl ?_
      refine build0 (da := .one (.bool false)) (db := U (lims 0)) (fun S w => ⟨[.bool false], [.slice none 0 0], rfl, rd_false S w, by rw [lims_zero]; exact rd_nil S w 1 _⟩) fun zz => ?_
      refine index_fam 2 i rfl hin (h4 i hin) 0 rfl (by omega) ?_
      refine store_mx 2 i 0 rfl hin (by omega) 0 (clr (lrd a).2 (i + 1)) (Reads.fact (d := zd 0) qM) (clr_succ (lrd a).2 i) ?_
      refine ar rfl qI ?_
      exact again (i + 1) (by omega) (by simp only; omega) qF (Seals.sub qS)
    · refine ar rfl qI ?_
      refine again (t + 1) (by omega) (by simp only; omega) qF ?_
      exact Seals.trans (Seals.drop 0 _ _) (Seals.trans (Seals.drop 0 _ _) (Seals.trans (Seals.drop 0 _ _) (Seals.trans (Seals.drop 0 _ _) (Seals.sub qS))))
  ·
    refine call_fn (g2) (Seals.refl _ _) qS ?_
    rintro _ _ _ ⟨rfl, rfl, rfl⟩
    exact fin ⟨rfl, rfl, rfl⟩ (Seals.nil _ _)
end Go.Proofs.YtabdfhdddmbmlaaGreat
namespace Go.Proofs.YtabdfhdddmbmlaaGreat
open Go.ChangeShapes Go.WideShapes Go.ChangeAt Go.RowKit
open Go.Joins (open_agg2)
set_option maxRecDepth 100000 in
theorem latticeReduces_lifted (os : Os) (started : os.Started) (H : Type) (enc : TypeId × Value → H) :
    ReturnsInHanded {} Tryz.checked os 3 .any (Rows.latticeReducesSpec.pre6 enc Tryz.prog Tryz.f3 Rows.latticeReducesRow.domain false) (Rows.latticeReducesSpec.post enc Tryz.prog Tryz.f3 false true false false) := by
  refine returnsInHanded_of_change (C := Tryz.checked) own0 started (by kernel_rfl) Tryz.func3
    (ChangeSpec.witness6 (enc := enc) (C := Tryz.checked) false ⟨#[], #[.slice none 0 0], []⟩ 8 (by kernel_rfl) (by kernel_rfl) (by kernel_rfl) (by kernel_rfl)) ?_
  intro Wd base args ds gs before hval0 hW hcnd _
  have hval : ∀ (j : Nat) t v, Tryz.f3.params[j]? = some t → args[j]? = some v → Value.okWide Tryz.prog Wd .any base t v := hval0
  have hW' := hW
  obtain ⟨p, q, hA0, hV, rfl, hfz, hnd⟩ := hW
  have hA : DataW.TrodAll enc Tryz.prog Wd 0 (fun _ => true) true Tryz.f3.params.toList args.toList ds p := hA0
  rw [Tryz.params3] at hA hval
  obtain ⟨v0, vs0, d0, ds0, p0, q0, hargs, rfl, rfl, h0, r0⟩ := trodAll_cons hA
  obtain ⟨rfl, rfl, rfl⟩ := trodAll_nil r0
  obtain rfl : args = #[v0] := by cases args; simp_all
  obtain ⟨rfl, rfl⟩ := trodVars_none hV
  obtain ⟨a0, n0, c0, rfl⟩ := okWide_slice Tryz.underlying22 (hval 0 22 v0 rfl rfl)
  have k0 := h0
  have lt0 : ∀ x ∈ p0, x.block < Wd.heap.size := by obtain ⟨m, hm⟩ := k0; exact DataW.trod_lt m _ _ _ hm
  obtain ⟨m0, lm0, rd0⟩ : ∃ m, limM m ∧ Rd (fun b => b < Wd.heap.size) Wd (.slice a0 n0 c0) (W m) := by
    obtain ⟨fuel, hf⟩ := h0
    obtain ⟨m, e1, e2⟩ := rd_rows hf
    exact ⟨m, e1, rd_val rfl e2⟩
  clear hA0 hval0
  refine (calls_of_meets (w := Wd) (lreduces_meets (.slice a0 n0 c0) m0 lm0) ?_).mono fun e W2 ⟨he, bel⟩ => ?_
  · intro F hF
    simp only [List.mem_cons, List.not_mem_nil, or_false] at hF
    subst hF; exact rd0
  subst he
  exact ⟨_, rfl, _, _, _, [], _, [], hW', trodAll_mk1 (shut_bool Tryz.underlying4 _), (trodAll_cons_mk (Below.trod laid0 (by kernel_rfl) (of_decide_eq_true (by kernel_rfl)) k0 bel lt0) trodAll_mk0), rfl, bel.frame _, fun h => by cases h⟩
theorem latticeReduces_holds : Rows.LatticeReducesSaid :=
  OpenClaim.holds_of_wide 3 Tryz.f3 rfl rfl rfl rfl rfl rfl rfl ⟨rfl, rfl, rfl, rfl, rfl⟩ rfl rfl rfl rfl rfl (by kernel_rfl) Tryz.func3 (by kernel_rfl)
    (of_decide_eq_true (by kernel_rfl)) (by unfold Func.isWrapper; first | (rw [if_pos (by decide +kernel)]; kernel_rfl) | (rw [if_neg (by decide +kernel)]; exact ⟨rfl, rfl⟩))
    (fun os started H enc _ => latticeReduces_lifted os started H enc)
#print axioms latticeReduces_holds
end Go.Proofs.YtabdfhdddmbmlaaGreat
