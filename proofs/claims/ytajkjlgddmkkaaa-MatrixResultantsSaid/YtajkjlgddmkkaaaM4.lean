/- Towards the statement, part 4 of 5: contracts of functions, and what they rest on. Conditions: each theorem names its own. -/
import Derived.Test.YtajkjlgddmkkaaaM3
import Derived.ProofKit
import Derived.Deep.Slices
set_option linter.unusedVariables false
set_option linter.unusedSimpArgs false

namespace Go.Proofs.Ytajkjlgddmkkaaa
open Go.RowKit
theorem degTo_le (l : List Int) : ∀ (n : Nat) (k : Nat), k ≤ n → (∀ j, k ≤ j → j < n → l.getD j 0 = 0) → degTo l n = degTo l k
  | 0, k, h, _ => by have : k = 0 := by omega
                     subst this; rfl
  | n + 1, k, h, hz => by
    by_cases e : k = n + 1
    · rw [e]
    · rw [degTo, if_pos (hz n (by omega) (by omega))]
      exact degTo_le l n k (by omega) fun j h1 h2 => hz j h1 (by omega)
theorem pDegree_meets (v : Value) (p : Row) (hp : Fit 137438953472 p) :
    Meets Try.prog 45 [v] [(v, V p)] (fun r os fs => os = [] ∧ fs = [] ∧ r = .int .i64 (deg (vv p))) := by
  refine meets_of_vc Try.func45 (by kernel_rfl) rfl (by kernel_rfl) (Nat.le_of_ble_eq_true rfl) ?_
  refine len_fact (by repeat (first | exact List.Mem.head _ | apply List.Mem.tail)) fun _ => ?_
  refine loop_rule (X := Nat) (fun n => ([(0, v), (3, .int .i64 (n : Nat))], [], [(v, V p)])) (fun n => n ≤ p.length ∧ ∀ j, n ≤ j → j < p.length → (vv p).getD j 0 = 0) (fun n => n) rfl ?_ ?_
  · exact again p.length ⟨Nat.le_refl _, fun j h1 h2 => by omega⟩ trivial (by repeat (first | exact trivial | refine ⟨rfl, ?_⟩ | refine ⟨i64_eq (by first | omega | (simp only; omega)), ?_⟩ | refine ⟨u64_eq (by first | omega | (simp only; omega)), ?_⟩)) (Seals.sub (by repeat (first | exact Sub.nil _ | refine Sub.cons (by repeat (first | exact List.Mem.head _ | apply List.Mem.tail)) ?_)))
  · rintro n ⟨h1, h2⟩
    refine cmp_split _ rfl (fun hn => ?_) (fun hn => ?_)
    · have hn' : n - 1 < p.length := by omega
      have hg := vv_get p (n - 1) hn'
      refine ar rfl (by first | exact ⟨by omega, by omega⟩ | (simp only [inK]; omega)) ?_
      refine index_fact (by repeat (first | exact List.Mem.head _ | apply List.Mem.tail)) (n - 1) (by omega) hn' fun a1 => ?_
      refine load_fact (d := J (p.getD (n - 1) z0)) (by repeat (first | exact List.Mem.head _ | apply List.Mem.tail)) (load_J _) fun x1 => ?_
      refine call_fn (zsign_meets x1 (p.getD (n - 1) z0).1 (p.getD (n - 1) z0).2 (hp.get _).1 (hp.get _).2) (Seals.refl _ _) (by repeat (first | exact Sub.nil _ | refine Sub.cons (by repeat (first | exact List.Mem.head _ | apply List.Mem.tail)) ?_)) ?_
      rintro _ _ _ ⟨rfl, rfl, rfl⟩
      refine cmp_split _ rfl (fun hz => ?_) (fun hz => ?_)
      · refine ar rfl (by first | exact ⟨by omega, by omega⟩ | (simp only [inK]; omega)) ?_
        refine again (n - 1) ⟨by omega, fun j h3 h4 => ?_⟩ (by simp only; omega) (by repeat (first | exact trivial | refine ⟨rfl, ?_⟩ | refine ⟨i64_eq (by first | omega | (simp only; omega)), ?_⟩ | refine ⟨u64_eq (by first | omega | (simp only; omega)), ?_⟩)) (Seals.sub (by repeat (first | exact Sub.nil _ | refine Sub.cons (by repeat (first | exact List.Mem.head _ | apply List.Mem.tail)) ?_)))
        by_cases e : j = n - 1
        · rw [e, hg]; exact Int.sign_eq_zero_iff_zero.1 hz
        · exact h2 j (by omega) h4
      · refine ar rfl (by first | exact ⟨by omega, by omega⟩ | (simp only [inK]; omega)) ?_
        refine fin ⟨rfl, rfl, ?_⟩ (Seals.nil _ _)
        have hd : degTo (vv p) p.length = degTo (vv p) n := degTo_le _ _ _ h1 h2
        have hne : (vv p).getD (n - 1) 0 ≠ 0 := by rw [hg]; exact fun e => hz (Int.sign_eq_zero_iff_zero.2 e)
        unfold deg
        rw [vv_len, hd]
        obtain ⟨n', rfl⟩ : ∃ n', n = n' + 1 := ⟨n - 1, by omega⟩
        rw [degTo, if_neg (by simpa using hne)]
        exact congrArg (Value.int .i64) (by omega)
    · have hn0 : n = 0 := by omega
      subst hn0
      refine ar rfl (by first | exact ⟨by omega, by omega⟩ | (simp only [inK]; omega)) ?_
      refine fin ⟨rfl, rfl, ?_⟩ (Seals.nil _ _)
      unfold deg
      rw [vv_len, degTo_le _ _ _ h1 h2]; rfl
/-- What stands in a Sylvester matrix. -/
def sylF (p q : Row) (dp dq i k : Nat) : Bool × List Nat :=
  if i < dq then (if i ≤ k ∧ k ≤ i + dp then p.getD (dp + i - k) z0 else z0) else (if i - dq ≤ k ∧ k ≤ i - dq + dq then q.getD (i - k) z0 else z0)
theorem z0_zero : jv z0 = 0 := rfl
theorem zero_I : (Dat.cat (.one (.bool false)) (U (lims 0))) = J z0 := by rw [lims_zero]; rfl
theorem sylAtP_meets (pp pm pn pq : Value) (p q : Row) (dp dq i k : Nat) (hp : dp < p.length) (hq : dq < q.length) (li : i < 1048576) (lk : k < 1048576) (lp : dp < 1048576) (lq : dq < 1048576) :
    Meets Try.prog 66 [.int .i64 (i : Nat), .int .i64 (k : Nat), pp, pm, pn, pq] [(pp, .ptr (V p)), (pm, .ptr (.one (.int .i64 (dp : Nat)))), (pn, .ptr (.one (.int .i64 (dq : Nat)))), (pq, .ptr (V q))]
      (fun r os fs => os = [] ∧ fs = [(r, J (sylF p q dp dq i k))]) := by
  refine meets_of_vc Try.func66 (by kernel_rfl) rfl (by kernel_rfl) (Nat.le_of_ble_eq_true rfl) ?_
  refine alloc_rule (d := I false []) fun o ho => ?_
  unfold sylF
  refine draw_rule [0, 1, 2, 3, 4, 5, 6, 7] [0, 5, 1, 6, 2, 3, 4, 7] (by kernel_rfl) (by kernel_rfl) ?_
  refine load_fact (d := V p) (by repeat (first | exact List.Mem.head _ | apply List.Mem.tail)) (load_P _) fun x1 => ?_
  refine load_one (u := .int .i64 (dp : Nat)) (by repeat (first | exact List.Mem.head _ | apply List.Mem.tail)) ?_
  refine ar rfl (by first | exact ⟨by omega, by omega⟩ | (simp only [inK]; omega)) ?_
  refine load_one (u := .int .i64 (dq : Nat)) (by repeat (first | exact List.Mem.head _ | apply List.Mem.tail)) ?_
  refine cmp_split _ rfl (fun h => ?_) (fun h => ?_)
  · rw [if_neg (show ¬ i < dq by omega)]
    refine draw_rule [0, 1, 2, 3, 4, 5, 6, 7, 8, 9] [0, 7, 1, 8, 2, 3, 4, 5, 6, 9] (by kernel_rfl) (by kernel_rfl) ?_
    refine load_fact (d := V q) (by repeat (first | exact List.Mem.head _ | apply List.Mem.tail)) (load_P _) fun x2 => ?_
    refine load_one (u := .int .i64 (dq : Nat)) (by repeat (first | exact List.Mem.head _ | apply List.Mem.tail)) ?_
    refine ar rfl (by first | exact ⟨by omega, by omega⟩ | (simp only [inK]; omega)) ?_
    refine load_one (u := .int .i64 (dq : Nat)) (by repeat (first | exact List.Mem.head _ | apply List.Mem.tail)) ?_
    refine ar rfl (by first | exact ⟨by omega, by omega⟩ | (simp only [inK]; omega)) ?_
    refine cmp_split _ rfl (fun h1 => ?_) (fun h1 => ?_)
    · rw [if_neg (show ¬ (i - dq ≤ k ∧ k ≤ i - dq + dq) by omega)]
      refine build0 (da := .one (.bool false)) (db := U (lims 0)) (fun S w => ⟨[.bool false], [.slice none 0 0], rfl, rd_false S w, by rw [lims_zero]; exact rd_nil S w 1 _⟩) fun z => ?_
      rw [zero_I]
      refine store_box (d := J z0) 0 rfl ho rfl (by kernel_rfl) ?_ ?_; exact Reads.fact (by repeat (first | exact List.Mem.head _ | apply List.Mem.tail))
      refine load_box (d := J z0) 0 rfl ho rfl (load_J _) fun r => ?_
      exact fin ⟨rfl, rfl⟩ (Seals.trans (Seals.drop 0 _ _) (Seals.sub (by repeat (first | exact Sub.nil _ | refine Sub.cons (by repeat (first | exact List.Mem.head _ | apply List.Mem.tail)) ?_))))
    · refine cmp_split _ rfl (fun h2 => ?_) (fun h2 => ?_)
      · rw [if_neg (show ¬ (i - dq ≤ k ∧ k ≤ i - dq + dq) by omega)]
        refine build0 (da := .one (.bool false)) (db := U (lims 0)) (fun S w => ⟨[.bool false], [.slice none 0 0], rfl, rd_false S w, by rw [lims_zero]; exact rd_nil S w 1 _⟩) fun z => ?_
        rw [zero_I]
        refine store_box (d := J z0) 0 rfl ho rfl (by kernel_rfl) ?_ ?_; exact Reads.fact (by repeat (first | exact List.Mem.head _ | apply List.Mem.tail))
        refine load_box (d := J z0) 0 rfl ho rfl (load_J _) fun r => ?_
        exact fin ⟨rfl, rfl⟩ (Seals.trans (Seals.drop 0 _ _) (Seals.sub (by repeat (first | exact Sub.nil _ | refine Sub.cons (by repeat (first | exact List.Mem.head _ | apply List.Mem.tail)) ?_))))
      · rw [if_pos (show i - dq ≤ k ∧ k ≤ i - dq + dq by omega)]
        refine ar rfl (by first | exact ⟨by omega, by omega⟩ | (simp only [inK]; omega)) ?_
        refine index_fact (n := (q).length) (by repeat (first | exact List.Mem.head _ | apply List.Mem.tail)) (i - k) (by omega) (by omega) fun a1 => ?_
        refine load_fact (d := J (q.getD (i - k) z0)) (by repeat (first | exact List.Mem.head _ | apply List.Mem.tail)) (load_J _) fun x1 => ?_
        refine store_box (d := J (q.getD (i - k) z0)) 0 rfl ho rfl (by kernel_rfl) ?_ ?_; exact Reads.fact (by repeat (first | exact List.Mem.head _ | apply List.Mem.tail))
        refine load_box (d := J (q.getD (i - k) z0)) 0 rfl ho rfl (load_J _) fun r => ?_
        exact fin ⟨rfl, rfl⟩ (Seals.trans (Seals.drop 0 _ _) (Seals.sub (by repeat (first | exact Sub.nil _ | refine Sub.cons (by repeat (first | exact List.Mem.head _ | apply List.Mem.tail)) ?_))))
  · rw [if_pos (show i < dq by omega)]
    refine cmp_split _ rfl (fun h1 => ?_) (fun h1 => ?_)
    · rw [if_neg (show ¬ (i ≤ k ∧ k ≤ i + dp) by omega)]
      refine build0 (da := .one (.bool false)) (db := U (lims 0)) (fun S w => ⟨[.bool false], [.slice none 0 0], rfl, rd_false S w, by rw [lims_zero]; exact rd_nil S w 1 _⟩) fun z => ?_
      rw [zero_I]
      refine store_box (d := J z0) 0 rfl ho rfl (by kernel_rfl) ?_ ?_; exact Reads.fact (by repeat (first | exact List.Mem.head _ | apply List.Mem.tail))
      refine load_box (d := J z0) 0 rfl ho rfl (load_J _) fun r => ?_
      exact fin ⟨rfl, rfl⟩ (Seals.trans (Seals.drop 0 _ _) (Seals.sub (by repeat (first | exact Sub.nil _ | refine Sub.cons (by repeat (first | exact List.Mem.head _ | apply List.Mem.tail)) ?_))))
    · refine cmp_split _ rfl (fun h2 => ?_) (fun h2 => ?_)
      · rw [if_neg (show ¬ (i ≤ k ∧ k ≤ i + dp) by omega)]
        refine build0 (da := .one (.bool false)) (db := U (lims 0)) (fun S w => ⟨[.bool false], [.slice none 0 0], rfl, rd_false S w, by rw [lims_zero]; exact rd_nil S w 1 _⟩) fun z => ?_
        rw [zero_I]
        refine store_box (d := J z0) 0 rfl ho rfl (by kernel_rfl) ?_ ?_; exact Reads.fact (by repeat (first | exact List.Mem.head _ | apply List.Mem.tail))
        refine load_box (d := J z0) 0 rfl ho rfl (load_J _) fun r => ?_
        exact fin ⟨rfl, rfl⟩ (Seals.trans (Seals.drop 0 _ _) (Seals.sub (by repeat (first | exact Sub.nil _ | refine Sub.cons (by repeat (first | exact List.Mem.head _ | apply List.Mem.tail)) ?_))))
      · rw [if_pos (show i ≤ k ∧ k ≤ i + dp by omega)]
        refine ar rfl (by first | exact ⟨by omega, by omega⟩ | (simp only [inK]; omega)) ?_
        refine index_fact (n := (p).length) (by repeat (first | exact List.Mem.head _ | apply List.Mem.tail)) (dp + i - k) (by omega) (by omega) fun a1 => ?_
        refine load_fact (d := J (p.getD (dp + i - k) z0)) (by repeat (first | exact List.Mem.head _ | apply List.Mem.tail)) (load_J _) fun x1 => ?_
        refine store_box (d := J (p.getD (dp + i - k) z0)) 0 rfl ho rfl (by kernel_rfl) ?_ ?_; exact Reads.fact (by repeat (first | exact List.Mem.head _ | apply List.Mem.tail))
        refine load_box (d := J (p.getD (dp + i - k) z0)) 0 rfl ho rfl (load_J _) fun r => ?_
        exact fin ⟨rfl, rfl⟩ (Seals.trans (Seals.drop 0 _ _) (Seals.sub (by repeat (first | exact Sub.nil _ | refine Sub.cons (by repeat (first | exact List.Mem.head _ | apply List.Mem.tail)) ?_))))
theorem mSylvester_meets (v w : Value) (p q : Row) (k : Nat) (hp : Fit k p) (hq : Fit k q) (hk : k ≤ 137438953472) (lp : p.length ≤ 262144) (lq : q.length ≤ 262144) :
    Meets Try.prog 29 [v, w] [(v, V p), (w, V q)] (fun r os fs => os = [] ∧ ∃ u, r = .tuple #[u, .int .i64 (if bare (vv p) (vv q) then 1 else 0)] ∧ fs = [(u, wd (if bare (vv p) (vv q) then [] else syl (vv p) (vv q)))]) := by
  have hdp := deg_lt (vv p)
  have hdq := deg_lt (vv q)
  rw [vv_len] at hdp hdq
  refine meets_cut (Y := Value × Value × Value × Value) 2 (fun y => ([(2, y.1), (3, y.2.1), (6, y.2.2.1), (7, y.2.2.2)], [], [(y.1, .ptr (V p)), (y.2.1, .ptr (V q)), (y.2.2.1, .ptr (.one (.int .i64 (deg (vv p))))), (y.2.2.2, .ptr (.one (.int .i64 (deg (vv q)))))])) (fun _ => True)
    Try.func29 (by kernel_rfl) rfl (by kernel_rfl) (Nat.le_of_ble_eq_true rfl) ?_ ?_
  · refine box_fact (Reads.fact (d := V p) (by repeat (first | exact List.Mem.head _ | apply List.Mem.tail))) fun pp => ?_
    refine box_fact (Reads.fact (d := V q) (by repeat (first | exact List.Mem.head _ | apply List.Mem.tail))) fun pq => ?_
    refine draw_ord [0, 1, 2, 3, 4, 5, 6, 7] (by kernel_rfl) ?_
    refine ord_split 4 1 (by kernel_rfl) (by kernel_rfl) (by kernel_rfl) ?_ ?_
    · refine ord_split 5 1 (by kernel_rfl) (by kernel_rfl) (by kernel_rfl) ?_ ?_
      · refine ord_split 4 5 (by kernel_rfl) (by kernel_rfl) (by kernel_rfl) ?_ ?_
        · refine ord_go [0, 2, 4, 5, 1, 3, 6, 7] (by kernel_rfl) (by kernel_rfl) ?_
          refine load_fact (d := V p) (by repeat (first | exact List.Mem.head _ | apply List.Mem.tail)) (load_P _) fun x1 => ?_
          refine load_fact (d := V q) (by repeat (first | exact List.Mem.head _ | apply List.Mem.tail)) (load_P _) fun x2 => ?_
          refine alloc_rule (d := .one (.int .i64 0)) fun t6 h6 => ?_
          refine alloc_rule (d := .one (.int .i64 0)) fun t7 h7 => ?_
          refine call_fn (pDegree_meets x1 p (hp.mono (by omega))) (Seals.refl _ _) (by repeat (first | exact Sub.nil _ | refine Sub.cons (by repeat (first | exact List.Mem.head _ | apply List.Mem.tail)) ?_)) ?_
          rintro _ _ _ ⟨rfl, rfl, rfl⟩
          refine call_fn (pDegree_meets x2 q (hq.mono (by omega))) (Seals.refl _ _) (by repeat (first | exact Sub.nil _ | refine Sub.cons (by repeat (first | exact List.Mem.head _ | apply List.Mem.tail)) ?_)) ?_
          rintro _ _ _ ⟨rfl, rfl, rfl⟩
          refine store_box (d := .one (.int .i64 (deg (vv p)))) 1 rfl h6 rfl (by kernel_rfl) (Reads.one rfl) ?_
          refine store_box (d := .one (.int .i64 (deg (vv q)))) 0 rfl h7 rfl (by kernel_rfl) (Reads.one rfl) ?_
          refine again (pp, pq, t6, t7) trivial trivial (by repeat (first | exact trivial | refine ⟨rfl, ?_⟩ | refine ⟨i64_eq (by first | omega | (simp only; omega)), ?_⟩ | refine ⟨u64_eq (by first | omega | (simp only; omega)), ?_⟩)) (Seals.trans (Seals.box (d := .one (.int .i64 (deg (vv q)))) 0 rfl h7 rfl) (Seals.trans (Seals.box (d := .one (.int .i64 (deg (vv p)))) 0 rfl h6 rfl) (Seals.sub (by repeat (first | exact Sub.nil _ | refine Sub.cons (by repeat (first | exact List.Mem.head _ | apply List.Mem.tail)) ?_)))))
        · refine ord_go [0, 2, 5, 4, 1, 3, 6, 7] (by kernel_rfl) (by kernel_rfl) ?_
          refine load_fact (d := V p) (by repeat (first | exact List.Mem.head _ | apply List.Mem.tail)) (load_P _) fun x1 => ?_
          refine load_fact (d := V q) (by repeat (first | exact List.Mem.head _ | apply List.Mem.tail)) (load_P _) fun x2 => ?_
          refine alloc_rule (d := .one (.int .i64 0)) fun t7 h7 => ?_
          refine alloc_rule (d := .one (.int .i64 0)) fun t6 h6 => ?_
          refine call_fn (pDegree_meets x1 p (hp.mono (by omega))) (Seals.refl _ _) (by repeat (first | exact Sub.nil _ | refine Sub.cons (by repeat (first | exact List.Mem.head _ | apply List.Mem.tail)) ?_)) ?_
          rintro _ _ _ ⟨rfl, rfl, rfl⟩
          refine call_fn (pDegree_meets x2 q (hq.mono (by omega))) (Seals.refl _ _) (by repeat (first | exact Sub.nil _ | refine Sub.cons (by repeat (first | exact List.Mem.head _ | apply List.Mem.tail)) ?_)) ?_
          rintro _ _ _ ⟨rfl, rfl, rfl⟩
          refine store_box (d := .one (.int .i64 (deg (vv p)))) 0 rfl h6 rfl (by kernel_rfl) (Reads.one rfl) ?_
          refine store_box (d := .one (.int .i64 (deg (vv q)))) 1 rfl h7 rfl (by kernel_rfl) (Reads.one rfl) ?_
          refine again (pp, pq, t6, t7) trivial trivial (by repeat (first | exact trivial | refine ⟨rfl, ?_⟩ | refine ⟨i64_eq (by first | omega | (simp only; omega)), ?_⟩ | refine ⟨u64_eq (by first | omega | (simp only; omega)), ?_⟩)) (Seals.trans (Seals.box (d := .one (.int .i64 (deg (vv p)))) 0 rfl h6 rfl) (Seals.trans (Seals.box (d := .one (.int .i64 (deg (vv q)))) 0 rfl h7 rfl) (Seals.sub (by repeat (first | exact Sub.nil _ | refine Sub.cons (by repeat (first | exact List.Mem.head _ | apply List.Mem.tail)) ?_)))))
      · refine ord_split 5 3 (by kernel_rfl) (by kernel_rfl) (by kernel_rfl) ?_ ?_
        · refine ord_go [0, 2, 4, 1, 5, 3, 6, 7] (by kernel_rfl) (by kernel_rfl) ?_
          refine load_fact (d := V p) (by repeat (first | exact List.Mem.head _ | apply List.Mem.tail)) (load_P _) fun x1 => ?_
          refine load_fact (d := V q) (by repeat (first | exact List.Mem.head _ | apply List.Mem.tail)) (load_P _) fun x2 => ?_
          refine alloc_rule (d := .one (.int .i64 0)) fun t6 h6 => ?_
          refine call_fn (pDegree_meets x1 p (hp.mono (by omega))) (Seals.refl _ _) (by repeat (first | exact Sub.nil _ | refine Sub.cons (by repeat (first | exact List.Mem.head _ | apply List.Mem.tail)) ?_)) ?_
          rintro _ _ _ ⟨rfl, rfl, rfl⟩
          refine alloc_rule (d := .one (.int .i64 0)) fun t7 h7 => ?_
          refine call_fn (pDegree_meets x2 q (hq.mono (by omega))) (Seals.refl _ _) (by repeat (first | exact Sub.nil _ | refine Sub.cons (by repeat (first | exact List.Mem.head _ | apply List.Mem.tail)) ?_)) ?_
          rintro _ _ _ ⟨rfl, rfl, rfl⟩
          refine store_box (d := .one (.int .i64 (deg (vv p)))) 1 rfl h6 rfl (by kernel_rfl) (Reads.one rfl) ?_
          refine store_box (d := .one (.int .i64 (deg (vv q)))) 0 rfl h7 rfl (by kernel_rfl) (Reads.one rfl) ?_
          refine again (pp, pq, t6, t7) trivial trivial (by repeat (first | exact trivial | refine ⟨rfl, ?_⟩ | refine ⟨i64_eq (by first | omega | (simp only; omega)), ?_⟩ | refine ⟨u64_eq (by first | omega | (simp only; omega)), ?_⟩)) (Seals.trans (Seals.box (d := .one (.int .i64 (deg (vv q)))) 0 rfl h7 rfl) (Seals.trans (Seals.box (d := .one (.int .i64 (deg (vv p)))) 0 rfl h6 rfl) (Seals.sub (by repeat (first | exact Sub.nil _ | refine Sub.cons (by repeat (first | exact List.Mem.head _ | apply List.Mem.tail)) ?_)))))
        · refine ord_go [0, 2, 4, 1, 3, 5, 6, 7] (by kernel_rfl) (by kernel_rfl) ?_
          refine load_fact (d := V p) (by repeat (first | exact List.Mem.head _ | apply List.Mem.tail)) (load_P _) fun x1 => ?_
          refine load_fact (d := V q) (by repeat (first | exact List.Mem.head _ | apply List.Mem.tail)) (load_P _) fun x2 => ?_
          refine alloc_rule (d := .one (.int .i64 0)) fun t6 h6 => ?_
          refine call_fn (pDegree_meets x1 p (hp.mono (by omega))) (Seals.refl _ _) (by repeat (first | exact Sub.nil _ | refine Sub.cons (by repeat (first | exact List.Mem.head _ | apply List.Mem.tail)) ?_)) ?_
          rintro _ _ _ ⟨rfl, rfl, rfl⟩
          refine call_fn (pDegree_meets x2 q (hq.mono (by omega))) (Seals.refl _ _) (by repeat (first | exact Sub.nil _ | refine Sub.cons (by repeat (first | exact List.Mem.head _ | apply List.Mem.tail)) ?_)) ?_
          rintro _ _ _ ⟨rfl, rfl, rfl⟩
          refine alloc_rule (d := .one (.int .i64 0)) fun t7 h7 => ?_
          refine store_box (d := .one (.int .i64 (deg (vv p)))) 1 rfl h6 rfl (by kernel_rfl) (Reads.one rfl) ?_
          refine store_box (d := .one (.int .i64 (deg (vv q)))) 0 rfl h7 rfl (by kernel_rfl) (Reads.one rfl) ?_
          refine again (pp, pq, t6, t7) trivial trivial (by repeat (first | exact trivial | refine ⟨rfl, ?_⟩ | refine ⟨i64_eq (by first | omega | (simp only; omega)), ?_⟩ | refine ⟨u64_eq (by first | omega | (simp only; omega)), ?_⟩)) (Seals.trans (Seals.box (d := .one (.int .i64 (deg (vv q)))) 0 rfl h7 rfl) (Seals.trans (Seals.box (d := .one (.int .i64 (deg (vv p)))) 0 rfl h6 rfl) (Seals.sub (by repeat (first | exact Sub.nil _ | refine Sub.cons (by repeat (first | exact List.Mem.head _ | apply List.Mem.tail)) ?_)))))
    · refine ord_split 4 3 (by kernel_rfl) (by kernel_rfl) (by kernel_rfl) ?_ ?_
      · refine ord_split 5 1 (by kernel_rfl) (by kernel_rfl) (by kernel_rfl) ?_ ?_
        · refine ord_go [0, 2, 5, 1, 4, 3, 6, 7] (by kernel_rfl) (by kernel_rfl) ?_
          refine load_fact (d := V p) (by repeat (first | exact List.Mem.head _ | apply List.Mem.tail)) (load_P _) fun x1 => ?_
          refine load_fact (d := V q) (by repeat (first | exact List.Mem.head _ | apply List.Mem.tail)) (load_P _) fun x2 => ?_
          refine alloc_rule (d := .one (.int .i64 0)) fun t7 h7 => ?_
          refine call_fn (pDegree_meets x1 p (hp.mono (by omega))) (Seals.refl _ _) (by repeat (first | exact Sub.nil _ | refine Sub.cons (by repeat (first | exact List.Mem.head _ | apply List.Mem.tail)) ?_)) ?_
          rintro _ _ _ ⟨rfl, rfl, rfl⟩
          refine alloc_rule (d := .one (.int .i64 0)) fun t6 h6 => ?_
          refine call_fn (pDegree_meets x2 q (hq.mono (by omega))) (Seals.refl _ _) (by repeat (first | exact Sub.nil _ | refine Sub.cons (by repeat (first | exact List.Mem.head _ | apply List.Mem.tail)) ?_)) ?_
          rintro _ _ _ ⟨rfl, rfl, rfl⟩
          refine store_box (d := .one (.int .i64 (deg (vv p)))) 0 rfl h6 rfl (by kernel_rfl) (Reads.one rfl) ?_
          refine store_box (d := .one (.int .i64 (deg (vv q)))) 1 rfl h7 rfl (by kernel_rfl) (Reads.one rfl) ?_
          refine again (pp, pq, t6, t7) trivial trivial (by repeat (first | exact trivial | refine ⟨rfl, ?_⟩ | refine ⟨i64_eq (by first | omega | (simp only; omega)), ?_⟩ | refine ⟨u64_eq (by first | omega | (simp only; omega)), ?_⟩)) (Seals.trans (Seals.box (d := .one (.int .i64 (deg (vv p)))) 0 rfl h6 rfl) (Seals.trans (Seals.box (d := .one (.int .i64 (deg (vv q)))) 0 rfl h7 rfl) (Seals.sub (by repeat (first | exact Sub.nil _ | refine Sub.cons (by repeat (first | exact List.Mem.head _ | apply List.Mem.tail)) ?_)))))
        · refine ord_split 5 3 (by kernel_rfl) (by kernel_rfl) (by kernel_rfl) ?_ ?_
          · refine ord_split 4 5 (by kernel_rfl) (by kernel_rfl) (by kernel_rfl) ?_ ?_
            · refine ord_go [0, 2, 1, 4, 5, 3, 6, 7] (by kernel_rfl) (by kernel_rfl) ?_
              refine load_fact (d := V p) (by repeat (first | exact List.Mem.head _ | apply List.Mem.tail)) (load_P _) fun x1 => ?_
              refine load_fact (d := V q) (by repeat (first | exact List.Mem.head _ | apply List.Mem.tail)) (load_P _) fun x2 => ?_
              refine call_fn (pDegree_meets x1 p (hp.mono (by omega))) (Seals.refl _ _) (by repeat (first | exact Sub.nil _ | refine Sub.cons (by repeat (first | exact List.Mem.head _ | apply List.Mem.tail)) ?_)) ?_
              rintro _ _ _ ⟨rfl, rfl, rfl⟩
              refine alloc_rule (d := .one (.int .i64 0)) fun t6 h6 => ?_
              refine alloc_rule (d := .one (.int .i64 0)) fun t7 h7 => ?_
              refine call_fn (pDegree_meets x2 q (hq.mono (by omega))) (Seals.refl _ _) (by repeat (first | exact Sub.nil _ | refine Sub.cons (by repeat (first | exact List.Mem.head _ | apply List.Mem.tail)) ?_)) ?_
              rintro _ _ _ ⟨rfl, rfl, rfl⟩
              refine store_box (d := .one (.int .i64 (deg (vv p)))) 1 rfl h6 rfl (by kernel_rfl) (Reads.one rfl) ?_
              refine store_box (d := .one (.int .i64 (deg (vv q)))) 0 rfl h7 rfl (by kernel_rfl) (Reads.one rfl) ?_
              refine again (pp, pq, t6, t7) trivial trivial (by repeat (first | exact trivial | refine ⟨rfl, ?_⟩ | refine ⟨i64_eq (by first | omega | (simp only; omega)), ?_⟩ | refine ⟨u64_eq (by first | omega | (simp only; omega)), ?_⟩)) (Seals.trans (Seals.box (d := .one (.int .i64 (deg (vv q)))) 0 rfl h7 rfl) (Seals.trans (Seals.box (d := .one (.int .i64 (deg (vv p)))) 0 rfl h6 rfl) (Seals.sub (by repeat (first | exact Sub.nil _ | refine Sub.cons (by repeat (first | exact List.Mem.head _ | apply List.Mem.tail)) ?_)))))
            · refine ord_go [0, 2, 1, 5, 4, 3, 6, 7] (by kernel_rfl) (by kernel_rfl) ?_
              refine load_fact (d := V p) (by repeat (first | exact List.Mem.head _ | apply List.Mem.tail)) (load_P _) fun x1 => ?_
              refine load_fact (d := V q) (by repeat (first | exact List.Mem.head _ | apply List.Mem.tail)) (load_P _) fun x2 => ?_
              refine call_fn (pDegree_meets x1 p (hp.mono (by omega))) (Seals.refl _ _) (by repeat (first | exact Sub.nil _ | refine Sub.cons (by repeat (first | exact List.Mem.head _ | apply List.Mem.tail)) ?_)) ?_
              rintro _ _ _ ⟨rfl, rfl, rfl⟩
              refine alloc_rule (d := .one (.int .i64 0)) fun t7 h7 => ?_
              refine alloc_rule (d := .one (.int .i64 0)) fun t6 h6 => ?_
              refine call_fn (pDegree_meets x2 q (hq.mono (by omega))) (Seals.refl _ _) (by repeat (first | exact Sub.nil _ | refine Sub.cons (by repeat (first | exact List.Mem.head _ | apply List.Mem.tail)) ?_)) ?_
              rintro _ _ _ ⟨rfl, rfl, rfl⟩
              refine store_box (d := .one (.int .i64 (deg (vv p)))) 0 rfl h6 rfl (by kernel_rfl) (Reads.one rfl) ?_
              refine store_box (d := .one (.int .i64 (deg (vv q)))) 1 rfl h7 rfl (by kernel_rfl) (Reads.one rfl) ?_
              refine again (pp, pq, t6, t7) trivial trivial (by repeat (first | exact trivial | refine ⟨rfl, ?_⟩ | refine ⟨i64_eq (by first | omega | (simp only; omega)), ?_⟩ | refine ⟨u64_eq (by first | omega | (simp only; omega)), ?_⟩)) (Seals.trans (Seals.box (d := .one (.int .i64 (deg (vv p)))) 0 rfl h6 rfl) (Seals.trans (Seals.box (d := .one (.int .i64 (deg (vv q)))) 0 rfl h7 rfl) (Seals.sub (by repeat (first | exact Sub.nil _ | refine Sub.cons (by repeat (first | exact List.Mem.head _ | apply List.Mem.tail)) ?_)))))
          · refine ord_go [0, 2, 1, 4, 3, 5, 6, 7] (by kernel_rfl) (by kernel_rfl) ?_
            refine load_fact (d := V p) (by repeat (first | exact List.Mem.head _ | apply List.Mem.tail)) (load_P _) fun x1 => ?_
            refine load_fact (d := V q) (by repeat (first | exact List.Mem.head _ | apply List.Mem.tail)) (load_P _) fun x2 => ?_
            refine call_fn (pDegree_meets x1 p (hp.mono (by omega))) (Seals.refl _ _) (by repeat (first | exact Sub.nil _ | refine Sub.cons (by repeat (first | exact List.Mem.head _ | apply List.Mem.tail)) ?_)) ?_
            rintro _ _ _ ⟨rfl, rfl, rfl⟩
            refine alloc_rule (d := .one (.int .i64 0)) fun t6 h6 => ?_
            refine call_fn (pDegree_meets x2 q (hq.mono (by omega))) (Seals.refl _ _) (by repeat (first | exact Sub.nil _ | refine Sub.cons (by repeat (first | exact List.Mem.head _ | apply List.Mem.tail)) ?_)) ?_
            rintro _ _ _ ⟨rfl, rfl, rfl⟩
            refine alloc_rule (d := .one (.int .i64 0)) fun t7 h7 => ?_
            refine store_box (d := .one (.int .i64 (deg (vv p)))) 1 rfl h6 rfl (by kernel_rfl) (Reads.one rfl) ?_
            refine store_box (d := .one (.int .i64 (deg (vv q)))) 0 rfl h7 rfl (by kernel_rfl) (Reads.one rfl) ?_
            refine again (pp, pq, t6, t7) trivial trivial (by repeat (first | exact trivial | refine ⟨rfl, ?_⟩ | refine ⟨i64_eq (by first | omega | (simp only; omega)), ?_⟩ | refine ⟨u64_eq (by first | omega | (simp only; omega)), ?_⟩)) (Seals.trans (Seals.box (d := .one (.int .i64 (deg (vv q)))) 0 rfl h7 rfl) (Seals.trans (Seals.box (d := .one (.int .i64 (deg (vv p)))) 0 rfl h6 rfl) (Seals.sub (by repeat (first | exact Sub.nil _ | refine Sub.cons (by repeat (first | exact List.Mem.head _ | apply List.Mem.tail)) ?_)))))
      · refine ord_split 5 1 (by kernel_rfl) (by kernel_rfl) (by kernel_rfl) ?_ ?_
        · refine ord_go [0, 2, 5, 1, 3, 4, 6, 7] (by kernel_rfl) (by kernel_rfl) ?_
          refine load_fact (d := V p) (by repeat (first | exact List.Mem.head _ | apply List.Mem.tail)) (load_P _) fun x1 => ?_
          refine load_fact (d := V q) (by repeat (first | exact List.Mem.head _ | apply List.Mem.tail)) (load_P _) fun x2 => ?_
          refine alloc_rule (d := .one (.int .i64 0)) fun t7 h7 => ?_
          refine call_fn (pDegree_meets x1 p (hp.mono (by omega))) (Seals.refl _ _) (by repeat (first | exact Sub.nil _ | refine Sub.cons (by repeat (first | exact List.Mem.head _ | apply List.Mem.tail)) ?_)) ?_
          rintro _ _ _ ⟨rfl, rfl, rfl⟩
          refine call_fn (pDegree_meets x2 q (hq.mono (by omega))) (Seals.refl _ _) (by repeat (first | exact Sub.nil _ | refine Sub.cons (by repeat (first | exact List.Mem.head _ | apply List.Mem.tail)) ?_)) ?_
          rintro _ _ _ ⟨rfl, rfl, rfl⟩
          refine alloc_rule (d := .one (.int .i64 0)) fun t6 h6 => ?_
          refine store_box (d := .one (.int .i64 (deg (vv p)))) 0 rfl h6 rfl (by kernel_rfl) (Reads.one rfl) ?_
          refine store_box (d := .one (.int .i64 (deg (vv q)))) 1 rfl h7 rfl (by kernel_rfl) (Reads.one rfl) ?_
          refine again (pp, pq, t6, t7) trivial trivial (by repeat (first | exact trivial | refine ⟨rfl, ?_⟩ | refine ⟨i64_eq (by first | omega | (simp only; omega)), ?_⟩ | refine ⟨u64_eq (by first | omega | (simp only; omega)), ?_⟩)) (Seals.trans (Seals.box (d := .one (.int .i64 (deg (vv p)))) 0 rfl h6 rfl) (Seals.trans (Seals.box (d := .one (.int .i64 (deg (vv q)))) 0 rfl h7 rfl) (Seals.sub (by repeat (first | exact Sub.nil _ | refine Sub.cons (by repeat (first | exact List.Mem.head _ | apply List.Mem.tail)) ?_)))))
        · refine ord_split 5 3 (by kernel_rfl) (by kernel_rfl) (by kernel_rfl) ?_ ?_
          · refine ord_go [0, 2, 1, 5, 3, 4, 6, 7] (by kernel_rfl) (by kernel_rfl) ?_
            refine load_fact (d := V p) (by repeat (first | exact List.Mem.head _ | apply List.Mem.tail)) (load_P _) fun x1 => ?_
            refine load_fact (d := V q) (by repeat (first | exact List.Mem.head _ | apply List.Mem.tail)) (load_P _) fun x2 => ?_
            refine call_fn (pDegree_meets x1 p (hp.mono (by omega))) (Seals.refl _ _) (by repeat (first | exact Sub.nil _ | refine Sub.cons (by repeat (first | exact List.Mem.head _ | apply List.Mem.tail)) ?_)) ?_
            rintro _ _ _ ⟨rfl, rfl, rfl⟩
            refine alloc_rule (d := .one (.int .i64 0)) fun t7 h7 => ?_
            refine call_fn (pDegree_meets x2 q (hq.mono (by omega))) (Seals.refl _ _) (by repeat (first | exact Sub.nil _ | refine Sub.cons (by repeat (first | exact List.Mem.head _ | apply List.Mem.tail)) ?_)) ?_
            rintro _ _ _ ⟨rfl, rfl, rfl⟩
            refine alloc_rule (d := .one (.int .i64 0)) fun t6 h6 => ?_
            refine store_box (d := .one (.int .i64 (deg (vv p)))) 0 rfl h6 rfl (by kernel_rfl) (Reads.one rfl) ?_
            refine store_box (d := .one (.int .i64 (deg (vv q)))) 1 rfl h7 rfl (by kernel_rfl) (Reads.one rfl) ?_
            refine again (pp, pq, t6, t7) trivial trivial (by repeat (first | exact trivial | refine ⟨rfl, ?_⟩ | refine ⟨i64_eq (by first | omega | (simp only; omega)), ?_⟩ | refine ⟨u64_eq (by first | omega | (simp only; omega)), ?_⟩)) (Seals.trans (Seals.box (d := .one (.int .i64 (deg (vv p)))) 0 rfl h6 rfl) (Seals.trans (Seals.box (d := .one (.int .i64 (deg (vv q)))) 0 rfl h7 rfl) (Seals.sub (by repeat (first | exact Sub.nil _ | refine Sub.cons (by repeat (first | exact List.Mem.head _ | apply List.Mem.tail)) ?_)))))
          · refine ord_split 4 5 (by kernel_rfl) (by kernel_rfl) (by kernel_rfl) ?_ ?_
            · refine ord_go [0, 2, 1, 3, 4, 5, 6, 7] (by kernel_rfl) (by kernel_rfl) ?_
              refine load_fact (d := V p) (by repeat (first | exact List.Mem.head _ | apply List.Mem.tail)) (load_P _) fun x1 => ?_
              refine load_fact (d := V q) (by repeat (first | exact List.Mem.head _ | apply List.Mem.tail)) (load_P _) fun x2 => ?_
              refine call_fn (pDegree_meets x1 p (hp.mono (by omega))) (Seals.refl _ _) (by repeat (first | exact Sub.nil _ | refine Sub.cons (by repeat (first | exact List.Mem.head _ | apply List.Mem.tail)) ?_)) ?_
              rintro _ _ _ ⟨rfl, rfl, rfl⟩
              refine call_fn (pDegree_meets x2 q (hq.mono (by omega))) (Seals.refl _ _) (by repeat (first | exact Sub.nil _ | refine Sub.cons (by repeat (first | exact List.Mem.head _ | apply List.Mem.tail)) ?_)) ?_
              rintro _ _ _ ⟨rfl, rfl, rfl⟩
              refine alloc_rule (d := .one (.int .i64 0)) fun t6 h6 => ?_
              refine alloc_rule (d := .one (.int .i64 0)) fun t7 h7 => ?_
              refine store_box (d := .one (.int .i64 (deg (vv p)))) 1 rfl h6 rfl (by kernel_rfl) (Reads.one rfl) ?_
              refine store_box (d := .one (.int .i64 (deg (vv q)))) 0 rfl h7 rfl (by kernel_rfl) (Reads.one rfl) ?_
              refine again (pp, pq, t6, t7) trivial trivial (by repeat (first | exact trivial | refine ⟨rfl, ?_⟩ | refine ⟨i64_eq (by first | omega | (simp only; omega)), ?_⟩ | refine ⟨u64_eq (by first | omega | (simp only; omega)), ?_⟩)) (Seals.trans (Seals.box (d := .one (.int .i64 (deg (vv q)))) 0 rfl h7 rfl) (Seals.trans (Seals.box (d := .one (.int .i64 (deg (vv p)))) 0 rfl h6 rfl) (Seals.sub (by repeat (first | exact Sub.nil _ | refine Sub.cons (by repeat (first | exact List.Mem.head _ | apply List.Mem.tail)) ?_)))))
            · refine ord_go [0, 2, 1, 3, 5, 4, 6, 7] (by kernel_rfl) (by kernel_rfl) ?_
              refine load_fact (d := V p) (by repeat (first | exact List.Mem.head _ | apply List.Mem.tail)) (load_P _) fun x1 => ?_
              refine load_fact (d := V q) (by repeat (first | exact List.Mem.head _ | apply List.Mem.tail)) (load_P _) fun x2 => ?_
              refine call_fn (pDegree_meets x1 p (hp.mono (by omega))) (Seals.refl _ _) (by repeat (first | exact Sub.nil _ | refine Sub.cons (by repeat (first | exact List.Mem.head _ | apply List.Mem.tail)) ?_)) ?_
              rintro _ _ _ ⟨rfl, rfl, rfl⟩
              refine call_fn (pDegree_meets x2 q (hq.mono (by omega))) (Seals.refl _ _) (by repeat (first | exact Sub.nil _ | refine Sub.cons (by repeat (first | exact List.Mem.head _ | apply List.Mem.tail)) ?_)) ?_
              rintro _ _ _ ⟨rfl, rfl, rfl⟩
              refine alloc_rule (d := .one (.int .i64 0)) fun t7 h7 => ?_
              refine alloc_rule (d := .one (.int .i64 0)) fun t6 h6 => ?_
              refine store_box (d := .one (.int .i64 (deg (vv p)))) 0 rfl h6 rfl (by kernel_rfl) (Reads.one rfl) ?_
              refine store_box (d := .one (.int .i64 (deg (vv q)))) 1 rfl h7 rfl (by kernel_rfl) (Reads.one rfl) ?_
              refine again (pp, pq, t6, t7) trivial trivial (by repeat (first | exact trivial | refine ⟨rfl, ?_⟩ | refine ⟨i64_eq (by first | omega | (simp only; omega)), ?_⟩ | refine ⟨u64_eq (by first | omega | (simp only; omega)), ?_⟩)) (Seals.trans (Seals.box (d := .one (.int .i64 (deg (vv p)))) 0 rfl h6 rfl) (Seals.trans (Seals.box (d := .one (.int .i64 (deg (vv q)))) 0 rfl h7 rfl) (Seals.sub (by repeat (first | exact Sub.nil _ | refine Sub.cons (by repeat (first | exact List.Mem.head _ | apply List.Mem.tail)) ?_)))))
  · rintro ⟨pp, pq, t6, t7⟩ _
    simp only
    refine load_one (u := .int .i64 (deg (vv p))) (by repeat (first | exact List.Mem.head _ | apply List.Mem.tail)) ?_
    refine cmp_split _ rfl (fun h1 => ?_) (fun h1 => ?_)
    · rw [if_pos (show bare (vv p) (vv q) from .inl h1), if_pos (show bare (vv p) (vv q) from .inl h1)]
      exact fin ⟨rfl, .slice none 0 0, rfl, rfl⟩ (Seals.cons (Knw.nil 1 _) (Seals.nil _ _))
    refine load_one (u := .int .i64 (deg (vv q))) (by repeat (first | exact List.Mem.head _ | apply List.Mem.tail)) ?_
    refine cmp_split _ rfl (fun h2 => ?_) (fun h2 => ?_)
    · rw [if_pos (show bare (vv p) (vv q) from .inr (.inl h2)), if_pos (show bare (vv p) (vv q) from .inr (.inl h2))]
      exact fin ⟨rfl, .slice none 0 0, rfl, rfl⟩ (Seals.cons (Knw.nil 1 _) (Seals.nil _ _))
    refine load_one (u := .int .i64 (deg (vv p))) (by repeat (first | exact List.Mem.head _ | apply List.Mem.tail)) ?_
    refine load_one (u := .int .i64 (deg (vv q))) (by repeat (first | exact List.Mem.head _ | apply List.Mem.tail)) ?_
    refine ar rfl (by first | exact ⟨by omega, by omega⟩ | (simp only [inK]; omega)) ?_
    refine cmp_split _ rfl (fun h3 => ?_) (fun h3 => ?_)
    · rw [if_pos (show bare (vv p) (vv q) from .inr (.inr h3)), if_pos (show bare (vv p) (vv q) from .inr (.inr h3))]
      exact fin ⟨rfl, .slice none 0 0, rfl, rfl⟩ (Seals.cons (Knw.nil 1 _) (Seals.nil _ _))
    have hb : ¬ bare (vv p) (vv q) := fun h => h.elim h1 fun h => h.elim h2 h3
    rw [if_neg hb, if_neg hb]
    obtain ⟨dp, hdp'⟩ : ∃ dp : Nat, deg (vv p) = dp := ⟨(deg (vv p)).toNat, by omega⟩
    obtain ⟨dq, hdq'⟩ : ∃ dq : Nat, deg (vv q) = dq := ⟨(deg (vv q)).toNat, by omega⟩
    have hdp2 : dp < p.length := by omega
    have hdq2 : dq < q.length := by omega
    unfold syl sylRows
    rw [hdp', hdq']
    refine load_one (u := .int .i64 (dp : Nat)) (by repeat (first | exact List.Mem.head _ | apply List.Mem.tail)) ?_
    refine load_one (u := .int .i64 (dq : Nat)) (by repeat (first | exact List.Mem.head _ | apply List.Mem.tail)) ?_
    refine ar rfl (by first | exact ⟨by omega, by omega⟩ | (simp only [inK]; omega)) ?_
    refine load_one (u := .int .i64 (dp : Nat)) (by repeat (first | exact List.Mem.head _ | apply List.Mem.tail)) ?_
    refine load_one (u := .int .i64 (dq : Nat)) (by repeat (first | exact List.Mem.head _ | apply List.Mem.tail)) ?_
    refine ar rfl (by first | exact ⟨by omega, by omega⟩ | (simp only [inK]; omega)) ?_
    rw [show (dp : Int) + (dq : Int) = ((dp + dq : Nat) : Int) by omega]
    refine call_fn (mmade_meets (dp + dq) (dp + dq) 66 [pp, t6, t7, pq] [(pp, .ptr (V p)), (t6, .ptr (.one (.int .i64 (dp : Nat)))), (t7, .ptr (.one (.int .i64 (dq : Nat)))), (pq, .ptr (V q))] (sylF p q dp dq)
      (fun i j hi hj => sylAtP_meets pp t6 t7 pq p q dp dq i j (by omega) (by omega) (by omega) (by omega) (by omega) (by omega))
      (fun i j _ _ => by
        have h1 := hp.get (dp + i - j)
        have h2 := hq.get (i - j)
        have h3 : Lim z0.2 ∧ z0.2.length ≤ 1099511627776 := ⟨Lim.nil, Nat.zero_le _⟩
        unfold sylF
        split
        · split
          · exact ⟨h1.1, by omega⟩
          · exact h3
        · split
          · exact ⟨h2.1, by omega⟩
          · exact h3) (by omega) (by omega)) (Seals.refl _ _) (by repeat (first | exact Sub.nil _ | refine Sub.cons (by repeat (first | exact List.Mem.head _ | apply List.Mem.tail)) ?_)) ?_
    rintro r _ _ ⟨hv, vs, hvs, rfl, rfl⟩
    refine fin ⟨rfl, r, rfl, rfl⟩ (Seals.trans (Seals.made hv hvs) (Seals.cons ((Knw.fact (by repeat (first | exact List.Mem.head _ | apply List.Mem.tail))).cast ?_) (Seals.nil _ _)))
    congr 1
    unfold matL
    rw [Int.toNat_natCast, Int.toNat_natCast, Int.toNat_natCast, show List.range (dp + dq) = List.range (dq + dp) by rw [Nat.add_comm], List.range_add, List.map_append, List.map_map]
    congr 1
    · refine List.map_congr_left fun i hi => ?_
      have hi' := List.mem_range.1 hi
      rw [← List.range_add]
      refine List.map_congr_left fun j hj => ?_
      show jv (sylF p q dp dq i j) = _
      unfold sylF sylAt
      rw [if_pos hi', apply_ite jv, z0_zero]
      by_cases h : i ≤ j ∧ j ≤ i + dp
      · rw [if_pos h, if_pos (by omega), if_neg (by omega), ← vv_get p _ (by omega)]
        congr 1; omega
      · rw [if_neg h, if_neg (by omega)]
    · refine List.map_congr_left fun i hi => ?_
      have hi' := List.mem_range.1 hi
      simp only [Function.comp]
      rw [← List.range_add]
      refine List.map_congr_left fun j hj => ?_
      show jv (sylF p q dp dq (dq + i) j) = _
      unfold sylF sylAt
      rw [if_neg (by omega), apply_ite jv, z0_zero]
      by_cases h : i ≤ j ∧ j ≤ i + dq
      · rw [if_pos (by omega), if_pos (by omega), if_neg (by omega), ← vv_get q _ (by omega)]
        congr 1; omega
      · rw [if_neg (by omega), if_neg (by omega)]
def mres (p q : List Int) : Int := if deg p < 0 ∨ deg q < 0 then 0 else if bare p q then 1 else det (syl p q).length (mx (syl p q))
theorem mResultant_meets (v w : Value) (p q : Row) (k : Nat) (hp : Fit k p) (hq : Fit k q) (lp : p.length ≤ 262144) (lq : q.length ≤ 262144) (hk : Eb k (p.length + q.length) ≤ 17179869184) :
    Meets Try.prog 31 [v, w] [(v, V p), (w, V q)] (fun r os fs => os = [] ∧ fs = [(r, zd (mres (vv p) (vv q)))]) := by
  have hk0 : k + 1 ≤ Eb k (p.length + q.length) := Eb_mono k (Nat.zero_le _)
  have hdp := deg_lt (vv p)
  have hdq := deg_lt (vv q)
  rw [vv_len] at hdp hdq
  refine meets_of_vc Try.func31 (by kernel_rfl) rfl (by kernel_rfl) (Nat.le_of_ble_eq_true rfl) ?_
  refine alloc_rule (d := I false []) fun o ho => ?_
  refine call_fn (pDegree_meets v p (hp.mono (by omega))) (Seals.refl _ _) (by repeat (first | exact Sub.nil _ | refine Sub.cons (by repeat (first | exact List.Mem.head _ | apply List.Mem.tail)) ?_)) ?_
  rintro _ _ _ ⟨rfl, rfl, rfl⟩
  refine cmp_split _ rfl (fun h1 => ?_) (fun h1 => ?_)
  · refine build0 (da := .one (.bool false)) (db := U (lims 0)) (fun S w => ⟨[.bool false], [.slice none 0 0], rfl, rd_false S w, by rw [lims_zero]; exact rd_nil S w 1 _⟩) fun z => ?_
    refine store_box (d := zd 0) 0 rfl ho rfl (by kernel_rfl) ?_ ?_; exact Reads.fact (by repeat (first | exact List.Mem.head _ | apply List.Mem.tail))
    refine load_box (d := zd 0) 0 rfl ho rfl (load_I _ _) fun r => ?_
    rw [show mres (vv p) (vv q) = 0 from if_pos (.inl h1)]
    exact fin ⟨rfl, rfl⟩ (Seals.trans (Seals.drop 0 _ _) (Seals.sub (by repeat (first | exact Sub.nil _ | refine Sub.cons (by repeat (first | exact List.Mem.head _ | apply List.Mem.tail)) ?_))))
  refine call_fn (pDegree_meets w q (hq.mono (by omega))) (Seals.refl _ _) (by repeat (first | exact Sub.nil _ | refine Sub.cons (by repeat (first | exact List.Mem.head _ | apply List.Mem.tail)) ?_)) ?_
  rintro _ _ _ ⟨rfl, rfl, rfl⟩
  refine cmp_split _ rfl (fun h2 => ?_) (fun h2 => ?_)
  · refine build0 (da := .one (.bool false)) (db := U (lims 0)) (fun S w => ⟨[.bool false], [.slice none 0 0], rfl, rd_false S w, by rw [lims_zero]; exact rd_nil S w 1 _⟩) fun z => ?_
    refine store_box (d := zd 0) 0 rfl ho rfl (by kernel_rfl) ?_ ?_; exact Reads.fact (by repeat (first | exact List.Mem.head _ | apply List.Mem.tail))
    refine load_box (d := zd 0) 0 rfl ho rfl (load_I _ _) fun r => ?_
    rw [show mres (vv p) (vv q) = 0 from if_pos (.inr h2)]
    exact fin ⟨rfl, rfl⟩ (Seals.trans (Seals.drop 0 _ _) (Seals.sub (by repeat (first | exact Sub.nil _ | refine Sub.cons (by repeat (first | exact List.Mem.head _ | apply List.Mem.tail)) ?_))))
  refine call_fn (mSylvester_meets v w p q k hp hq (by omega) lp lq) (Seals.refl _ _) (by repeat (first | exact Sub.nil _ | refine Sub.cons (by repeat (first | exact List.Mem.head _ | apply List.Mem.tail)) ?_)) ?_
  rintro _ _ _ ⟨rfl, u, rfl, rfl⟩
  have hn : ¬ (deg (vv p) < 0 ∨ deg (vv q) < 0) := fun h => h.elim h1 h2
  have hres : mres (vv p) (vv q) = if bare (vv p) (vv q) then 1 else det (syl (vv p) (vv q)).length (mx (syl (vv p) (vv q))) := if_neg hn
  by_cases hb : bare (vv p) (vv q)
  · rw [if_pos hb, if_pos hb] at *
    refine cmp_true rfl (by omega) ?_
    refine call_fn (zof_meets 1 (by decide) (by decide)) (Seals.refl _ _) (by repeat (first | exact Sub.nil _ | refine Sub.cons (by repeat (first | exact List.Mem.head _ | apply List.Mem.tail)) ?_)) ?_
    rintro y _ _ ⟨rfl, rfl⟩
    refine store_box (d := zd 1) 0 rfl ho rfl (by kernel_rfl) ?_ ?_; exact Reads.fact (by repeat (first | exact List.Mem.head _ | apply List.Mem.tail))
    refine load_box (d := zd 1) 0 rfl ho rfl (load_I _ _) fun r => ?_
    rw [hres]
    exact fin ⟨rfl, rfl⟩ (Seals.trans (Seals.drop 0 _ _) (Seals.sub (by repeat (first | exact Sub.nil _ | refine Sub.cons (by repeat (first | exact List.Mem.head _ | apply List.Mem.tail)) ?_))))
  · rw [if_neg hb, if_neg hb] at *
    refine cmp_false rfl (by omega) ?_
    obtain ⟨dp, hdp'⟩ : ∃ dp : Nat, deg (vv p) = dp := ⟨(deg (vv p)).toNat, by omega⟩
    obtain ⟨dq, hdq'⟩ : ∃ dq : Nat, deg (vv q) = dq := ⟨(deg (vv q)).toNat, by omega⟩
    have hsq := syl_sq hp hq hdp' hdq'
    have hlen : (syl (vv p) (vv q)).length = dp + dq := by have := hsq.rows; rwa [List.length_map] at this
    have hpos : 0 < dp + dq := by
      have : ¬ (deg (vv p) + deg (vv q) = 0) := fun e => hb (.inr (.inr e))
      omega
    have hsqr : square ((syl (vv p) (vv q)).map (·.map cn)) := by
      have h0 := hsq.cols _ (getD_mem (i := 0) [] (by rw [hsq.rows]; exact hpos))
      exact ⟨⟨by rw [hsq.rows]; exact hpos, fun r hr => by rw [hsq.cols r hr, h0]; exact ⟨hpos, rfl⟩⟩, by rw [hsq.rows, h0]⟩
    refine call_fn (mdet_meets u ((syl (vv p) (vv q)).map (·.map cn)) k hsqr hsq.fits (by rw [hsq.rows]; omega) (by rw [hsq.rows]; exact Nat.le_trans (Eb_mono k (by omega)) hk)) (Seals.refl _ _) (by repeat (first | exact Sub.nil _ | refine Sub.cons (by repeat (first | exact List.Mem.head _ | apply List.Mem.tail)) ?_)) ?_
    rintro y _ _ ⟨rfl, rfl⟩
    rw [ww_cn, List.length_map, ← hres]
    refine store_box (d := zd (mres (vv p) (vv q))) 0 rfl ho rfl (by kernel_rfl) ?_ ?_; exact Reads.fact (by repeat (first | exact List.Mem.head _ | apply List.Mem.tail))
    refine load_box (d := zd (mres (vv p) (vv q))) 0 rfl ho rfl (load_I _ _) fun r => ?_
    exact fin ⟨rfl, rfl⟩ (Seals.trans (Seals.drop 0 _ _) (Seals.sub (by repeat (first | exact Sub.nil _ | refine Sub.cons (by repeat (first | exact List.Mem.head _ | apply List.Mem.tail)) ?_))))
end Go.Proofs.Ytajkjlgddmkkaaa

namespace Go.Proofs.Ytajkjlgddmkkaaa
open Go.RowKit
end Go.Proofs.Ytajkjlgddmkkaaa

namespace Go.Proofs.Ytajkjlgddmkkaaa
open Go.RowKit
/-- Whatever order is drawn, it comes to one of the states of I; from these it goes on. -/
theorem draw_join {P : Program} {N id : Nat} {L : List Oper} {f : Fr} {os : List Own} {fs : List Fact} {K : Next1} {X : Type} (I : X → Fr × List Own × List Fact) (ok : X → Prop)
    (h : DrawK P N id L f os fs fun f os fs => AtK I ok f os fs fun _ => True) (k : ∀ x, ok x → K (I x).1 (I x).2.1 (I x).2.2) : DrawK P N id L f os fs K := by
  refine ⟨fun G Q hQ a w hk hw => ?_⟩
  let Q' : Post := fun e => match e with
    | .normal => fun f os fs => AtK I ok f os fs fun _ => True
    | e => Q e
  refine wp_mono (h.out G Q' rfl a w hk hw) ?_
  rintro e a' w' ⟨f', os', fs', hk', hw', hq⟩
  cases e with
  | normal =>
    obtain ⟨⟨x, hx, _, g1, g2⟩⟩ := hq
    exact ⟨_, _, _, hk'.sub g1, g2 G w' hw', by rw [hQ]; exact k x hx⟩
  | exit id => exact ⟨f', os', fs', hk', hw', hq⟩
  | goto l => exact ⟨f', os', fs', hk', hw', hq⟩
  | ret => exact ⟨f', os', fs', hk', hw', hq⟩
  | panic ch => exact ⟨f', os', fs', hk', hw', hq⟩
  | outgrown => exact ⟨f', os', fs', hk', hw', hq⟩
end Go.Proofs.Ytajkjlgddmkkaaa

namespace Go.Proofs.Ytajkjlgddmkkaaa
open Go.RowKit
theorem get_cn (m : List (List Int)) (i : Nat) : ((m.map (·.map cn)).getD i []) = (m.getD i []).map cn := by
  by_cases h : i < m.length
  · simp [List.getD_eq_getElem?_getD, h]
  · simp [List.getD_eq_getElem?_getD, h]
theorem right_cn (m : List (List Int)) : right (m.map (·.map cn)) ↔ right m := by
  unfold right
  rw [List.length_map, get_cn, List.length_map]
  constructor
  · rintro ⟨h1, h2⟩
    exact ⟨h1, fun r hr => by have := h2 _ (List.mem_map.2 ⟨r, hr, rfl⟩); rwa [List.length_map] at this⟩
  · rintro ⟨h1, h2⟩
    refine ⟨h1, fun r hr => ?_⟩
    obtain ⟨r', hr', rfl⟩ := List.mem_map.1 hr
    rw [List.length_map]; exact h2 r' hr'
theorem square_cn (m : List (List Int)) : square (m.map (·.map cn)) ↔ square m := by
  unfold square
  rw [right_cn, get_cn, List.length_map, List.length_map]
/-- All numbers are of at most e limbs. -/
def szM (e : Nat) (m : List (List Int)) : Prop := ∀ r, r ∈ m → ∀ x, x ∈ r → sz x e
def szR (e : Nat) (l : List Int) : Prop := ∀ x, x ∈ l → sz x e
theorem szM.fits {e : Nat} {m : List (List Int)} (h : szM e m) : Fits e (m.map (·.map cn)) := fun r hr => by
  obtain ⟨r', hr', rfl⟩ := List.mem_map.1 hr
  exact Fit_cn fun x hx => h r' hr' x hx
-- Told matrices.
theorem detW (v : Value) (m : List (List Int)) (e : Nat) (d : Int) (hs : square m) (hd : det m.length (mx m) = d) (hz : szM e m) (lm : m.length ≤ 1048576) (hk : Eb e m.length ≤ 17179869184) :
    Meets Try.prog 16 [v] [(v, wd m)] (fun r os fs => os = [] ∧ ∃ q, r = .tuple #[q, .int .i64 0] ∧ fs = [(q, zd d)]) := by
  have h := mDet_meets v (m.map (·.map cn)) e hz.fits (by rw [List.length_map]; exact lm) (by rw [List.length_map]; exact hk)
  rw [if_pos ((square_cn m).2 hs), if_pos ((square_cn m).2 hs), ww_cn, List.length_map, hd] at h
  exact h
theorem rankW (v : Value) (m : List (List Int)) (e : Nat) (n : Nat) (hs : right m) (hn : (bar m.length (m.getD 0 []).length (mx m)).step = n) (hz : szM e m) (lm : m.length ≤ 1048576) (lc : (m.getD 0 []).length ≤ 1048576) (hk : Eb e (m.getD 0 []).length ≤ 17179869184) :
    Meets Try.prog 18 [v] [(v, wd m)] (fun r os fs => os = [] ∧ fs = [] ∧ r = .tuple #[.int .i64 (n : Nat), .int .i64 0]) := by
  have hl : ((m.map (·.map cn)).getD 0 []).length = (m.getD 0 []).length := by rw [get_cn, List.length_map]
  have h := mRank_meets v (m.map (·.map cn)) e hz.fits (by rw [List.length_map]; exact lm) (by rw [hl]; exact lc) (by rw [hl]; exact hk)
  rw [if_pos ((right_cn m).2 hs), if_pos ((right_cn m).2 hs), ww_cn, List.length_map, hl, hn] at h
  exact h
theorem adjW (v : Value) (m : List (List Int)) (e : Nat) (x : List (List Int)) (hs : square m) (hx : madj m = x) (hz : szM e m) (lm : m.length ≤ 1048575) (hk : Eb e m.length ≤ 17179869184) :
    Meets Try.prog 24 [v] [(v, wd m)] (fun r os fs => os = [] ∧ ∃ q, r = .tuple #[q, .int .i64 0] ∧ fs = [(q, wd x)]) := by
  have h := mAdjugate_meets v (m.map (·.map cn)) e hz.fits (by rw [List.length_map]; exact lm) (by rw [List.length_map]; exact hk)
  rw [if_pos ((square_cn m).2 hs), if_pos ((square_cn m).2 hs), ww_cn, hx] at h
  exact h
theorem solW (v w : Value) (m : List (List Int)) (b : List Int) (e : Nat) (x : List Int) (d : Int) (hs : square m) (hb : b.length = m.length) (hd : det m.length (mx m) = d) (h0 : d ≠ 0)
    (hx : ((List.range m.length).map fun c => det m.length (cw (mx m) c fun i => b.getD i 0)) = x) (hz : szM e m) (hzb : szR e b) (lm : m.length ≤ 1048575) (hk : Eb e m.length ≤ 17179869184) :
    Meets Try.prog 26 [v, w] [(v, wd m), (w, vd b)] (fun r os fs => os = [] ∧ ∃ q u, r = .tuple #[q, u, .int .i64 0] ∧ fs = [(q, vd x), (u, zd d)]) := by
  have h := mSolve_meets v w (m.map (·.map cn)) (b.map cn) e hz.fits (Fit_cn hzb) (by rw [List.length_map]; exact lm) (by rw [List.length_map]; exact hk)
  have hm : msolve (m.map (·.map cn)) (b.map cn) = (x, d, 0) := by
    unfold msolve
    rw [if_neg (fun h => h ⟨(square_cn m).2 hs, by rw [List.length_map, List.length_map, hb]⟩), ww_cn, List.length_map, hd, if_neg h0, vv_cn, hx]
  rw [hm] at h
  exact h
theorem sylW (v w : Value) (p q : List Int) (e : Nat) (x : List (List Int)) (hs : ¬ bare p q) (hx : syl p q = x) (hp : szR e p) (hq : szR e q) (hk : e ≤ 137438953472) (lp : p.length ≤ 262144) (lq : q.length ≤ 262144) :
    Meets Try.prog 29 [v, w] [(v, vd p), (w, vd q)] (fun r os fs => os = [] ∧ ∃ u, r = .tuple #[u, .int .i64 0] ∧ fs = [(u, wd x)]) := by
  have h := mSylvester_meets v w (p.map cn) (q.map cn) e (Fit_cn hp) (Fit_cn hq) hk (by rw [List.length_map]; exact lp) (by rw [List.length_map]; exact lq)
  rw [vv_cn, vv_cn, if_neg hs, if_neg hs, hx] at h
  exact h
theorem resW (v w : Value) (p q : List Int) (e : Nat) (x : Int) (hx : mres p q = x) (hp : szR e p) (hq : szR e q) (lp : p.length ≤ 262144) (lq : q.length ≤ 262144) (hk : Eb e (p.length + q.length) ≤ 17179869184) :
    Meets Try.prog 31 [v, w] [(v, vd p), (w, vd q)] (fun r os fs => os = [] ∧ fs = [(r, zd x)]) := by
  have h := mResultant_meets v w (p.map cn) (q.map cn) e (Fit_cn hp) (Fit_cn hq) (by rw [List.length_map]; exact lp) (by rw [List.length_map]; exact lq) (by rw [List.length_map, List.length_map]; exact hk)
  rw [vv_cn, vv_cn, hx] at h
  exact h
theorem exactW (v w : Value) (x y : Int) : Meets Try.prog 20 [v, w] [(v, zd x), (w, zd y)] (fun r os fs => os = [] ∧ fs = [] ∧ r = .bool (decide (x = y))) := by
  have h := exact_meets v w (cn x) (cn y)
  have e : (cn x = cn y) ↔ x = y := ⟨fun h => by rw [← jv_cn x, h, jv_cn], fun h => by rw [h]⟩
  rw [decide_eq_decide.2 e] at h
  exact h
theorem map_cn_inj {l m : List Int} : l.map cn = m.map cn ↔ l = m := ⟨fun h => by rw [← vv_cn l, h, vv_cn], fun h => by rw [h]⟩
theorem mapm_cn_inj {l m : List (List Int)} : l.map (·.map cn) = m.map (·.map cn) ↔ l = m := ⟨fun h => by rw [← ww_cn l, h, ww_cn], fun h => by rw [h]⟩
theorem exactAllW (v w : Value) (x y : List Int) : Meets Try.prog 28 [v, w] [(v, vd x), (w, vd y)] (fun r os fs => os = [] ∧ fs = [] ∧ r = .bool (decide (x = y))) := by
  have h := exactAll_meets v w (x.map cn) (y.map cn)
  rw [decide_eq_decide.2 map_cn_inj] at h
  exact h
theorem same_meets (v w : Value) (a b : List Row) :
    Meets Try.prog 21 [v, w] [(v, W a), (w, W b)] (fun r os fs => os = [] ∧ fs = [] ∧ r = .bool (decide (a = b))) := by
  refine meets_of_vc Try.func21 (by kernel_rfl) rfl (by kernel_rfl) (Nat.le_of_ble_eq_true rfl) ?_
  refine call_fn (rowsExact_meets v w a b) (Seals.refl _ _) (by repeat (first | exact Sub.nil _ | refine Sub.cons (by repeat (first | exact List.Mem.head _ | apply List.Mem.tail)) ?_)) ?_
  rintro _ _ _ ⟨rfl, rfl, rfl⟩
  exact fin ⟨rfl, rfl, rfl⟩ (Seals.nil _ _)
theorem sameW (v w : Value) (x y : List (List Int)) : Meets Try.prog 21 [v, w] [(v, wd x), (w, wd y)] (fun r os fs => os = [] ∧ fs = [] ∧ r = .bool (decide (x = y))) := by
  have h := same_meets v w (x.map (·.map cn)) (y.map (·.map cn))
  rw [decide_eq_decide.2 mapm_cn_inj] at h
  exact h
/-- Small numbers. -/
def IL (l : List Int) : Dat := .sl 1 l.length fun i => .one (.int .i64 (l.getD i 0))
theorem lit_IL {P : Program} {t e : TypeId} {os : List Own} {fs : List Fact} {K : Cont} [ht : TSl P t e 1] [he : TEl P e 1 8] {n : Nat} (l : List Int) {ps : List (Nat × Value)} (hps : ps = enumP 0 (l.map fun x => Value.int .i64 x)) (hn : n = l.length) (hl : l.length ≤ 1000) (k : ∀ v, K v os ((v, IL l) :: fs)) :
    BuildSliceK P t n ps os fs K := by
  have hr : ∀ l : List Int, ReadsAll os fs 1 (l.map fun x => Value.int .i64 x) (l.map fun x => Dat.one (.int .i64 x)) := fun l => by
    induction l with
    | nil => trivial
    | cons x l ih => exact ⟨Reads.one rfl, rfl, ih⟩
  have h1 := buildSlice_fact (P := P) (t := t) (os := os) (fs := fs) (K := fun u os' fs' => ∃ os'' fs'', Seals os' fs' os'' fs'' ∧ K u os'' fs'') (n := n) (l.map fun x => Value.int .i64 x) (l.map fun x => Dat.one (.int .i64 x)) hps (by rw [hn, List.length_map]) (by omega) (by decide) (hr l)
  refine ⟨Grw.sealed (h1 fun v => ⟨_, _, ?_, k v⟩).out⟩
  exact Seals.knw_cong hn fun i hi => by
    have hi' : i < l.length := by omega
    simp [List.getD_eq_getElem?_getD, hi']
theorem of_meets (v : Value) (R C : Nat) (l : List Int) (hl : l.length = R * C) (hC : 0 < C) (lC : C ≤ 1000) (lR : R ≤ 1000) (hz : ∀ i, -9223372036854775808 ≤ l.getD i 0 ∧ l.getD i 0 < 9223372036854775808) :
    Meets Try.prog 49 [.int .i64 (C : Nat), v] [(v, IL l)] (fun r os fs => os = [] ∧ fs = [(r, wd (matL R C fun i k => l.getD (i * C + k) 0))]) := by
  have hRC : R * C ≤ 1000 * 1000 := Nat.mul_le_mul lR lC
  refine meets_of_vc Try.func49 (by kernel_rfl) rfl (by kernel_rfl) (Nat.le_of_ble_eq_true rfl) ?_
  refine empty_L V [] (by decide) fun w hw => ?_
  refine loop_rule (X := Nat × Value) (fun x => ([(0, .int .i64 (C : Nat)), (1, v), (5, x.2), (6, .int .i64 (x.1 * C : Nat))], [ownL 1 V [] x.2 ((List.range x.1).map fun i => (List.range C).map fun k => cn (l.getD (i * C + k) 0))], [(v, IL l)]))
    (fun x => x.1 ≤ R ∧ isSl x.2) (fun x => R - x.1) rfl ?_ ?_
  · exact again (0, w) ⟨Nat.zero_le _, hw⟩ trivial (by repeat (first | exact trivial | refine ⟨rfl, ?_⟩ | refine ⟨i64_eq (by first | omega | (simp only; omega)), ?_⟩ | refine ⟨u64_eq (by first | omega | (simp only; omega)), ?_⟩)) (Seals.sub (by repeat (first | exact Sub.nil _ | refine Sub.cons (by repeat (first | exact List.Mem.head _ | apply List.Mem.tail)) ?_)))
  · rintro ⟨i, w⟩ ⟨h1, hw⟩
    simp only at h1 hw ⊢
    have hiC : i * C ≤ R * C := Nat.mul_le_mul_right _ h1
    refine len_fact (by repeat (first | exact List.Mem.head _ | apply List.Mem.tail)) fun _ => ?_
    refine cmp_split _ rfl (fun hi => ?_) (fun hi => ?_)
    · have hiR : i < R := by
        rcases Nat.lt_or_ge i R with h | h
        · exact h
        · have := Nat.mul_le_mul_right C h; omega
      have hi1 : (i + 1) * C ≤ R * C := Nat.mul_le_mul_right _ hiR
      have hi2 : (i + 1) * C = i * C + C := Nat.succ_mul _ _
      refine empty_L J z0 (by decide) fun u hu => ?_
      refine loop_rule (X := Nat × Value) (fun x => ([(0, .int .i64 (C : Nat)), (1, v), (5, w), (6, .int .i64 (i * C : Nat)), (7, x.2), (8, .int .i64 (i * C + x.1 : Nat))], [ownL 2 J z0 x.2 ((List.range x.1).map fun k => cn (l.getD (i * C + k) 0)), ownL 1 V [] w ((List.range i).map fun i => (List.range C).map fun k => cn (l.getD (i * C + k) 0))], [(v, IL l)]))
        (fun x => x.1 ≤ C ∧ isSl x.2) (fun x => C - x.1) rfl ?_ ?_
      · exact again (0, u) ⟨Nat.zero_le _, hu⟩ trivial (by repeat (first | exact trivial | refine ⟨rfl, ?_⟩ | refine ⟨i64_eq (by first | omega | (simp only; omega)), ?_⟩ | refine ⟨u64_eq (by first | omega | (simp only; omega)), ?_⟩)) (Seals.sub (by repeat (first | exact Sub.nil _ | refine Sub.cons (by repeat (first | exact List.Mem.head _ | apply List.Mem.tail)) ?_)))
      · rintro ⟨k, u⟩ ⟨g1, hu⟩
        simp only at g1 hu ⊢
        refine ar rfl (by first | exact ⟨by omega, by omega⟩ | (simp only [inK]; omega)) ?_
        refine cmp_split _ rfl (fun hk => ?_) (fun hk => ?_)
        · have hkC : k < C := by omega
          refine index_fact (by repeat (first | exact List.Mem.head _ | apply List.Mem.tail)) (i * C + k) rfl (by omega) fun a1 => ?_
          refine load_one (by repeat (first | exact List.Mem.head _ | apply List.Mem.tail)) ?_
          refine call_fn (rOf_meets (l.getD (i * C + k) 0) (hz _).1 (hz _).2) (Seals.refl _ _) (by repeat (first | exact Sub.nil _ | refine Sub.cons (by repeat (first | exact List.Mem.head _ | apply List.Mem.tail)) ?_)) ?_
          rintro y _ _ ⟨rfl, rfl⟩
          refine lit_L (size := 2) J z0 (cn (l.getD (i * C + k) 0)) (by decide) (Reads.fact (d := zd (l.getD (i * C + k) 0)) (by repeat (first | exact List.Mem.head _ | apply List.Mem.tail))) rfl fun l1 => ?_
          refine append_L 0 rfl hu (Knw.fact (by repeat (first | exact List.Mem.head _ | apply List.Mem.tail))) (by simp; omega) (by simp; omega) fun u2 hu2 => ?_
          refine ar rfl (by first | exact ⟨by omega, by omega⟩ | (simp only [inK]; omega)) ?_
          refine again (k + 1, u2) ⟨by simp only; omega, hu2⟩ (by simp only; omega) (by repeat (first | exact trivial | refine ⟨rfl, ?_⟩ | refine ⟨i64_eq (by first | omega | (simp only; omega)), ?_⟩ | refine ⟨u64_eq (by first | omega | (simp only; omega)), ?_⟩)) ?_
          simp only [range_snoc_map]
          exact Seals.sub (by repeat (first | exact Sub.nil _ | refine Sub.cons (by repeat (first | exact List.Mem.head _ | apply List.Mem.tail)) ?_))
        · have hkC : k = C := by omega
          subst hkC
          refine BuildSliceK.pre (Seals.L 0 rfl hu) ?_
          refine lit_L (size := 1) V [] ((List.range k).map fun j => cn (l.getD (i * k + j) 0)) (by decide) (Reads.fact (d := V ((List.range k).map fun j => cn (l.getD (i * k + j) 0))) (by repeat (first | exact List.Mem.head _ | apply List.Mem.tail))) rfl fun l1 => ?_
          refine append_L 0 rfl hw (Knw.fact (by repeat (first | exact List.Mem.head _ | apply List.Mem.tail))) (by simp; omega) (by simp; omega) fun w2 hw2 => ?_
          refine ar rfl (by first | exact ⟨by omega, by omega⟩ | (simp only [inK]; omega)) ?_
          refine again (i + 1, w2) ⟨by simp only; omega, hw2⟩ (by simp only; omega) (by repeat (first | exact trivial | refine ⟨rfl, ?_⟩ | refine ⟨i64_eq (by first | omega | (simp only; omega)), ?_⟩ | refine ⟨u64_eq (by first | omega | (simp only; omega)), ?_⟩)) ?_
          simp only [range_snoc_map]
          exact Seals.sub (by repeat (first | exact Sub.nil _ | refine Sub.cons (by repeat (first | exact List.Mem.head _ | apply List.Mem.tail)) ?_))
    · have hiR : i = R := by
        rcases Nat.lt_or_ge i R with h | h
        · have h2 := Nat.mul_le_mul_right C h
          have h3 : (i + 1) * C = i * C + C := Nat.succ_mul _ _
          simp only [Nat.succ_eq_add_one] at h2
          omega
        · omega
      subst hiR
      refine fin ⟨rfl, rfl⟩ (Seals.trans (Seals.L 0 rfl hw) (Seals.cons ((Knw.fact (by repeat (first | exact List.Mem.head _ | apply List.Mem.tail))).cast ?_) (Seals.nil _ _)))
      unfold wd matL
      congr 1
      simp [Function.comp_def]
theorem ofW (v : Value) (R C : Nat) (l : List Int) (m : List (List Int)) (hl : l.length = R * C) (hm : (matL R C fun i k => l.getD (i * C + k) 0) = m) (hC : 0 < C) (lC : C ≤ 1000) (lR : R ≤ 1000) (hz : ∀ x, x ∈ l → -9223372036854775808 ≤ x ∧ x < 9223372036854775808) :
    Meets Try.prog 49 [.int .i64 (C : Nat), v] [(v, IL l)] (fun r os fs => os = [] ∧ fs = [(r, wd m)]) := by
  subst hm
  refine of_meets v R C l hl hC lC lR fun i => ?_
  by_cases h : i < l.length
  · exact hz _ (getD_mem 0 h)
  · rw [List.getD_eq_getElem?_getD, List.getElem?_eq_none (by omega)]; decide
end Go.Proofs.Ytajkjlgddmkkaaa

namespace Go.Proofs.Ytajkjlgddmkkaaa
-- The rank.
def at' (S : List (List Int)) (j k : Nat) : Int := (S.getD j []).getD k 0
/-- Steps: each begins where those behind it have a nought. -/
structure Steps (C : Nat) (S : List (List Int)) : Prop where
  len : ∀ s, s ∈ S → s.length = C
  lead : ∀ s, s ∈ S → lead0 s < C
  stair : ∀ i j, i < j → j < S.length → at' S j (lead0 (S.getD i [])) = 0
/-- What the first rows have come to. -/
structure RInv (C : Nat) (A : Mx) (i : Nat) (S : List (List Int)) : Prop where
  steps : Steps C S
  made : ∃ X : Mx, ∀ j k, j < S.length → k < C → at' S j k = isum (fun t => X j t * A t k) i
  told : ∀ t, t < i → ∃ d : Int, d ≠ 0 ∧ ∃ b : Nat → Int, ∀ k, k < C → d * A t k = isum (fun j => b j * at' S j k) S.length
end Go.Proofs.Ytajkjlgddmkkaaa

namespace Go.Proofs.Ytajkjlgddmkkaaa
open Go.RowKit
instance (x : Int) (e : Nat) : Decidable (sz x e) := inferInstanceAs (Decidable (_ < _))
theorem sz1 : szR 1 [1, 2] := by unfold szR; decide
theorem sz3 : szR 1 [3, 0, 1] := by unfold szR; decide
theorem shown_meets : Meets Try.prog 13 [] [] (fun r os fs => os = [] ∧ fs = [] ∧ r = .bool true) := by
  refine meets_of_vc Try.func13 (by kernel_rfl) rfl (by kernel_rfl) (Nat.le_of_ble_eq_true rfl) ?_
  refine lit_IL [1, 2, 3, 4] rfl rfl (by decide) fun s0 => ?_
  refine call_fn (ofW s0 2 2 [1, 2, 3, 4] [[1, 2], [3, 4]] rfl rfl (by decide) (by decide) (by decide) (by decide)) (Seals.refl _ _) (by repeat (first | exact Sub.nil _ | refine Sub.cons (by repeat (first | exact List.Mem.head _ | apply List.Mem.tail)) ?_)) ?_
  rintro a _ _ ⟨rfl, rfl⟩
  have hs : square [[(1 : Int), 2], [3, 4]] := by decide
  have hz : szM 1 [[(1 : Int), 2], [3, 4]] := by unfold szM; decide
  refine call_fn (detW a [[1, 2], [3, 4]] 1 (-2) hs (by decide) hz (by decide) (by decide)) (Seals.refl _ _) (by repeat (first | exact Sub.nil _ | refine Sub.cons (by repeat (first | exact List.Mem.head _ | apply List.Mem.tail)) ?_)) ?_
  rintro _ _ _ ⟨rfl, d0, rfl, rfl⟩
  refine alloc_rule (d := I false []) fun d hd => ?_
  refine store_box (d := zd (-2)) 0 rfl hd rfl (by kernel_rfl) ?_ ?_; exact Reads.fact (by repeat (first | exact List.Mem.head _ | apply List.Mem.tail))
  refine lit_IL [1, 2, 2, 4] rfl rfl (by decide) fun s1 => ?_
  refine call_fn (ofW s1 2 2 [1, 2, 2, 4] [[1, 2], [2, 4]] rfl rfl (by decide) (by decide) (by decide) (by decide)) (Seals.refl _ _) (by repeat (first | exact Sub.nil _ | refine Sub.cons (by repeat (first | exact List.Mem.head _ | apply List.Mem.tail)) ?_)) ?_
  rintro b _ _ ⟨rfl, rfl⟩
  refine call_fn (rankW b [[1, 2], [2, 4]] 1 1 (by decide) (by decide) (by unfold szM; decide) (by decide) (by decide) (by decide)) (Seals.refl _ _) (by repeat (first | exact Sub.nil _ | refine Sub.cons (by repeat (first | exact List.Mem.head _ | apply List.Mem.tail)) ?_)) ?_
  rintro _ _ _ ⟨rfl, rfl, rfl⟩
  refine call_fn (adjW a [[1, 2], [3, 4]] 1 [[4, -2], [-3, 1]] hs (by decide) hz (by decide) (by decide)) (Seals.refl _ _) (by repeat (first | exact Sub.nil _ | refine Sub.cons (by repeat (first | exact List.Mem.head _ | apply List.Mem.tail)) ?_)) ?_
  rintro _ _ _ ⟨rfl, x, rfl, rfl⟩
  refine lit_IL [5, 6] rfl rfl (by decide) fun s2 => ?_
  refine call_fn (ofW s2 1 2 [5, 6] [[5, 6]] rfl rfl (by decide) (by decide) (by decide) (by decide)) (Seals.refl _ _) (by repeat (first | exact Sub.nil _ | refine Sub.cons (by repeat (first | exact List.Mem.head _ | apply List.Mem.tail)) ?_)) ?_
  rintro c _ _ ⟨rfl, rfl⟩
  refine index_fact (n := 1) (by repeat (first | exact List.Mem.head _ | apply List.Mem.tail)) 0 rfl (by decide) fun c1 => ?_
  refine load_fact (d := vd [5, 6]) (by repeat (first | exact List.Mem.head _ | apply List.Mem.tail)) (load_V _) fun c2 => ?_
  refine call_fn (solW a c2 [[1, 2], [3, 4]] [5, 6] 1 [8, -9] (-2) hs (by decide) (by decide) (by decide) (by decide) hz (by unfold szR; decide) (by decide) (by decide)) (Seals.refl _ _) (by repeat (first | exact Sub.nil _ | refine Sub.cons (by repeat (first | exact List.Mem.head _ | apply List.Mem.tail)) ?_)) ?_
  rintro _ _ _ ⟨rfl, y, z0', rfl, rfl⟩
  refine alloc_rule (d := I false []) fun z hz' => ?_
  refine store_box (d := zd (-2)) 0 rfl hz' rfl (by kernel_rfl) ?_ ?_; exact Reads.fact (by repeat (first | exact List.Mem.head _ | apply List.Mem.tail))
  refine draw_join (X := Value) (fun s => ([(2, d), (3, .int .i64 0), (4, .int .i64 1), (5, .int .i64 0), (6, x), (7, .int .i64 0), (8, y), (9, z), (10, .int .i64 0), (11, s), (12, .int .i64 0)],
    [own1 z 2 1 (fun _ => zd (-2)), own1 d 2 1 (fun _ => zd (-2))], [(s, wd [[2, 1, 0], [0, 2, 1], [1, 0, 3]]), (x, wd [[4, -2], [-3, 1]]), (y, vd [8, -9])])) (fun _ => True) ?_ ?_
  · refine draw_ord [0, 1, 2, 3, 4, 5, 6, 7, 8, 9, 10, 12, 11, 13] (by kernel_rfl) ?_
    refine ord_split 4 0 (by kernel_rfl) (by kernel_rfl) (by kernel_rfl) ?_ ?_
    · refine ord_go [4, 0, 1, 2, 3, 5, 6, 7, 8, 9, 10, 11, 12, 13] (by kernel_rfl) (by kernel_rfl) ?_
      refine lit_IL [3, 0, 1] rfl rfl (by decide) fun s2 => ?_
      refine lit_IL [1, 2] rfl rfl (by decide) fun s1 => ?_
      refine call_fn (ofW s1 1 2 [1, 2] [[1, 2]] rfl rfl (by decide) (by decide) (by decide) (by decide)) (Seals.refl _ _) (by repeat (first | exact Sub.nil _ | refine Sub.cons (by repeat (first | exact List.Mem.head _ | apply List.Mem.tail)) ?_)) ?_
      rintro m1 _ _ ⟨rfl, rfl⟩
      refine index_fact (n := 1) (by repeat (first | exact List.Mem.head _ | apply List.Mem.tail)) 0 rfl (by decide) fun i1 => ?_
      refine load_fact (d := vd [1, 2]) (by repeat (first | exact List.Mem.head _ | apply List.Mem.tail)) (load_V _) fun p1 => ?_
      refine call_fn (ofW s2 1 3 [3, 0, 1] [[3, 0, 1]] rfl rfl (by decide) (by decide) (by decide) (by decide)) (Seals.refl _ _) (by repeat (first | exact Sub.nil _ | refine Sub.cons (by repeat (first | exact List.Mem.head _ | apply List.Mem.tail)) ?_)) ?_
      rintro m2 _ _ ⟨rfl, rfl⟩
      refine index_fact (n := 1) (by repeat (first | exact List.Mem.head _ | apply List.Mem.tail)) 0 rfl (by decide) fun i2 => ?_
      refine load_fact (d := vd [3, 0, 1]) (by repeat (first | exact List.Mem.head _ | apply List.Mem.tail)) (load_V _) fun p2 => ?_
      refine call_fn (sylW p1 p2 [1, 2] [3, 0, 1] 1 [[2, 1, 0], [0, 2, 1], [1, 0, 3]] (by decide) (by decide) sz1 sz3 (by decide) (by decide) (by decide)) (Seals.refl _ _) (by repeat (first | exact Sub.nil _ | refine Sub.cons (by repeat (first | exact List.Mem.head _ | apply List.Mem.tail)) ?_)) ?_
      rintro _ _ _ ⟨rfl, s, rfl, rfl⟩
      exact again s trivial trivial (by repeat (first | exact trivial | refine ⟨rfl, ?_⟩ | refine ⟨i64_eq (by first | omega | (simp only; omega)), ?_⟩ | refine ⟨u64_eq (by first | omega | (simp only; omega)), ?_⟩)) (Seals.trans (Seals.box0 rfl) (Seals.trans (Seals.box1 rfl) (Seals.sub (by repeat (first | exact Sub.nil _ | refine Sub.cons (by repeat (first | exact List.Mem.head _ | apply List.Mem.tail)) ?_)))))
    · refine ord_split 4 1 (by kernel_rfl) (by kernel_rfl) (by kernel_rfl) ?_ ?_
      · refine ord_go [0, 4, 1, 2, 3, 5, 6, 7, 8, 9, 10, 11, 12, 13] (by kernel_rfl) (by kernel_rfl) ?_
        refine lit_IL [1, 2] rfl rfl (by decide) fun s1 => ?_
        refine lit_IL [3, 0, 1] rfl rfl (by decide) fun s2 => ?_
        refine call_fn (ofW s1 1 2 [1, 2] [[1, 2]] rfl rfl (by decide) (by decide) (by decide) (by decide)) (Seals.refl _ _) (by repeat (first | exact Sub.nil _ | refine Sub.cons (by repeat (first | exact List.Mem.head _ | apply List.Mem.tail)) ?_)) ?_
        rintro m1 _ _ ⟨rfl, rfl⟩
        refine index_fact (n := 1) (by repeat (first | exact List.Mem.head _ | apply List.Mem.tail)) 0 rfl (by decide) fun i1 => ?_
        refine load_fact (d := vd [1, 2]) (by repeat (first | exact List.Mem.head _ | apply List.Mem.tail)) (load_V _) fun p1 => ?_
        refine call_fn (ofW s2 1 3 [3, 0, 1] [[3, 0, 1]] rfl rfl (by decide) (by decide) (by decide) (by decide)) (Seals.refl _ _) (by repeat (first | exact Sub.nil _ | refine Sub.cons (by repeat (first | exact List.Mem.head _ | apply List.Mem.tail)) ?_)) ?_
        rintro m2 _ _ ⟨rfl, rfl⟩
        refine index_fact (n := 1) (by repeat (first | exact List.Mem.head _ | apply List.Mem.tail)) 0 rfl (by decide) fun i2 => ?_
        refine load_fact (d := vd [3, 0, 1]) (by repeat (first | exact List.Mem.head _ | apply List.Mem.tail)) (load_V _) fun p2 => ?_
        refine call_fn (sylW p1 p2 [1, 2] [3, 0, 1] 1 [[2, 1, 0], [0, 2, 1], [1, 0, 3]] (by decide) (by decide) sz1 sz3 (by decide) (by decide) (by decide)) (Seals.refl _ _) (by repeat (first | exact Sub.nil _ | refine Sub.cons (by repeat (first | exact List.Mem.head _ | apply List.Mem.tail)) ?_)) ?_
        rintro _ _ _ ⟨rfl, s, rfl, rfl⟩
        exact again s trivial trivial (by repeat (first | exact trivial | refine ⟨rfl, ?_⟩ | refine ⟨i64_eq (by first | omega | (simp only; omega)), ?_⟩ | refine ⟨u64_eq (by first | omega | (simp only; omega)), ?_⟩)) (Seals.trans (Seals.box0 rfl) (Seals.trans (Seals.box1 rfl) (Seals.sub (by repeat (first | exact Sub.nil _ | refine Sub.cons (by repeat (first | exact List.Mem.head _ | apply List.Mem.tail)) ?_)))))
      · refine ord_go [0, 1, 2, 3, 4, 5, 6, 7, 8, 9, 10, 11, 12, 13] (by kernel_rfl) (by kernel_rfl) ?_
        refine lit_IL [1, 2] rfl rfl (by decide) fun s1 => ?_
        refine call_fn (ofW s1 1 2 [1, 2] [[1, 2]] rfl rfl (by decide) (by decide) (by decide) (by decide)) (Seals.refl _ _) (by repeat (first | exact Sub.nil _ | refine Sub.cons (by repeat (first | exact List.Mem.head _ | apply List.Mem.tail)) ?_)) ?_
        rintro m1 _ _ ⟨rfl, rfl⟩
        refine index_fact (n := 1) (by repeat (first | exact List.Mem.head _ | apply List.Mem.tail)) 0 rfl (by decide) fun i1 => ?_
        refine load_fact (d := vd [1, 2]) (by repeat (first | exact List.Mem.head _ | apply List.Mem.tail)) (load_V _) fun p1 => ?_
        refine lit_IL [3, 0, 1] rfl rfl (by decide) fun s2 => ?_
        refine call_fn (ofW s2 1 3 [3, 0, 1] [[3, 0, 1]] rfl rfl (by decide) (by decide) (by decide) (by decide)) (Seals.refl _ _) (by repeat (first | exact Sub.nil _ | refine Sub.cons (by repeat (first | exact List.Mem.head _ | apply List.Mem.tail)) ?_)) ?_
        rintro m2 _ _ ⟨rfl, rfl⟩
        refine index_fact (n := 1) (by repeat (first | exact List.Mem.head _ | apply List.Mem.tail)) 0 rfl (by decide) fun i2 => ?_
        refine load_fact (d := vd [3, 0, 1]) (by repeat (first | exact List.Mem.head _ | apply List.Mem.tail)) (load_V _) fun p2 => ?_
        refine call_fn (sylW p1 p2 [1, 2] [3, 0, 1] 1 [[2, 1, 0], [0, 2, 1], [1, 0, 3]] (by decide) (by decide) sz1 sz3 (by decide) (by decide) (by decide)) (Seals.refl _ _) (by repeat (first | exact Sub.nil _ | refine Sub.cons (by repeat (first | exact List.Mem.head _ | apply List.Mem.tail)) ?_)) ?_
        rintro _ _ _ ⟨rfl, s, rfl, rfl⟩
        exact again s trivial trivial (by repeat (first | exact trivial | refine ⟨rfl, ?_⟩ | refine ⟨i64_eq (by first | omega | (simp only; omega)), ?_⟩ | refine ⟨u64_eq (by first | omega | (simp only; omega)), ?_⟩)) (Seals.trans (Seals.box0 rfl) (Seals.trans (Seals.box1 rfl) (Seals.sub (by repeat (first | exact Sub.nil _ | refine Sub.cons (by repeat (first | exact List.Mem.head _ | apply List.Mem.tail)) ?_)))))
  rintro s -
  simp only
  refine draw_join (X := Value) (fun r => ([(2, d), (3, .int .i64 0), (4, .int .i64 1), (5, .int .i64 0), (6, x), (7, .int .i64 0), (8, y), (9, z), (10, .int .i64 0), (11, s), (12, .int .i64 0), (13, r)],
    [own1 z 2 1 (fun _ => zd (-2)), own1 d 2 1 (fun _ => zd (-2))], [(r, .ptr (zd 13)), (s, wd [[2, 1, 0], [0, 2, 1], [1, 0, 3]]), (x, wd [[4, -2], [-3, 1]]), (y, vd [8, -9])])) (fun _ => True) ?_ ?_
  · refine draw_ord [0, 1, 2, 3, 4, 5, 6, 7, 8, 9, 10] (by kernel_rfl) ?_
    refine ord_split 9 0 (by kernel_rfl) (by kernel_rfl) (by kernel_rfl) ?_ ?_
    · refine ord_split 4 0 (by kernel_rfl) (by kernel_rfl) (by kernel_rfl) ?_ ?_
      · refine ord_split 4 9 (by kernel_rfl) (by kernel_rfl) (by kernel_rfl) ?_ ?_
        · refine ord_go [4, 9, 0, 1, 2, 3, 5, 6, 7, 8, 10] (by kernel_rfl) (by kernel_rfl) ?_
          refine lit_IL [3, 0, 1] rfl rfl (by decide) fun s2 => ?_
          refine alloc_rule (d := I false []) fun r hr => ?_
          refine lit_IL [1, 2] rfl rfl (by decide) fun s1 => ?_
          refine call_fn (ofW s1 1 2 [1, 2] [[1, 2]] rfl rfl (by decide) (by decide) (by decide) (by decide)) (Seals.refl _ _) (by repeat (first | exact Sub.nil _ | refine Sub.cons (by repeat (first | exact List.Mem.head _ | apply List.Mem.tail)) ?_)) ?_
          rintro m1 _ _ ⟨rfl, rfl⟩
          refine index_fact (n := 1) (by repeat (first | exact List.Mem.head _ | apply List.Mem.tail)) 0 rfl (by decide) fun i1 => ?_
          refine load_fact (d := vd [1, 2]) (by repeat (first | exact List.Mem.head _ | apply List.Mem.tail)) (load_V _) fun p1 => ?_
          refine call_fn (ofW s2 1 3 [3, 0, 1] [[3, 0, 1]] rfl rfl (by decide) (by decide) (by decide) (by decide)) (Seals.refl _ _) (by repeat (first | exact Sub.nil _ | refine Sub.cons (by repeat (first | exact List.Mem.head _ | apply List.Mem.tail)) ?_)) ?_
          rintro m2 _ _ ⟨rfl, rfl⟩
          refine index_fact (n := 1) (by repeat (first | exact List.Mem.head _ | apply List.Mem.tail)) 0 rfl (by decide) fun i2 => ?_
          refine load_fact (d := vd [3, 0, 1]) (by repeat (first | exact List.Mem.head _ | apply List.Mem.tail)) (load_V _) fun p2 => ?_
          refine call_fn (resW p1 p2 [1, 2] [3, 0, 1] 1 13 (by decide) sz1 sz3 (by decide) (by decide) (by decide)) (Seals.refl _ _) (by repeat (first | exact Sub.nil _ | refine Sub.cons (by repeat (first | exact List.Mem.head _ | apply List.Mem.tail)) ?_)) ?_
          rintro rv _ _ ⟨rfl, rfl⟩
          refine store_box (d := zd 13) 0 rfl hr rfl (by kernel_rfl) ?_ ?_; exact Reads.fact (by repeat (first | exact List.Mem.head _ | apply List.Mem.tail))
          exact again r trivial trivial (by repeat (first | exact trivial | refine ⟨rfl, ?_⟩ | refine ⟨i64_eq (by first | omega | (simp only; omega)), ?_⟩ | refine ⟨u64_eq (by first | omega | (simp only; omega)), ?_⟩)) (Seals.trans (Seals.box (d := zd 13) 0 rfl hr rfl) (Seals.sub (by repeat (first | exact Sub.nil _ | refine Sub.cons (by repeat (first | exact List.Mem.head _ | apply List.Mem.tail)) ?_))))
        · refine ord_go [9, 4, 0, 1, 2, 3, 5, 6, 7, 8, 10] (by kernel_rfl) (by kernel_rfl) ?_
          refine alloc_rule (d := I false []) fun r hr => ?_
          refine lit_IL [3, 0, 1] rfl rfl (by decide) fun s2 => ?_
          refine lit_IL [1, 2] rfl rfl (by decide) fun s1 => ?_
          refine call_fn (ofW s1 1 2 [1, 2] [[1, 2]] rfl rfl (by decide) (by decide) (by decide) (by decide)) (Seals.refl _ _) (by repeat (first | exact Sub.nil _ | refine Sub.cons (by repeat (first | exact List.Mem.head _ | apply List.Mem.tail)) ?_)) ?_
          rintro m1 _ _ ⟨rfl, rfl⟩
          refine index_fact (n := 1) (by repeat (first | exact List.Mem.head _ | apply List.Mem.tail)) 0 rfl (by decide) fun i1 => ?_
          refine load_fact (d := vd [1, 2]) (by repeat (first | exact List.Mem.head _ | apply List.Mem.tail)) (load_V _) fun p1 => ?_
          refine call_fn (ofW s2 1 3 [3, 0, 1] [[3, 0, 1]] rfl rfl (by decide) (by decide) (by decide) (by decide)) (Seals.refl _ _) (by repeat (first | exact Sub.nil _ | refine Sub.cons (by repeat (first | exact List.Mem.head _ | apply List.Mem.tail)) ?_)) ?_
          rintro m2 _ _ ⟨rfl, rfl⟩
          refine index_fact (n := 1) (by repeat (first | exact List.Mem.head _ | apply List.Mem.tail)) 0 rfl (by decide) fun i2 => ?_
          refine load_fact (d := vd [3, 0, 1]) (by repeat (first | exact List.Mem.head _ | apply List.Mem.tail)) (load_V _) fun p2 => ?_
          refine call_fn (resW p1 p2 [1, 2] [3, 0, 1] 1 13 (by decide) sz1 sz3 (by decide) (by decide) (by decide)) (Seals.refl _ _) (by repeat (first | exact Sub.nil _ | refine Sub.cons (by repeat (first | exact List.Mem.head _ | apply List.Mem.tail)) ?_)) ?_
          rintro rv _ _ ⟨rfl, rfl⟩
          refine store_box (d := zd 13) 0 rfl hr rfl (by kernel_rfl) ?_ ?_; exact Reads.fact (by repeat (first | exact List.Mem.head _ | apply List.Mem.tail))
          exact again r trivial trivial (by repeat (first | exact trivial | refine ⟨rfl, ?_⟩ | refine ⟨i64_eq (by first | omega | (simp only; omega)), ?_⟩ | refine ⟨u64_eq (by first | omega | (simp only; omega)), ?_⟩)) (Seals.trans (Seals.box (d := zd 13) 0 rfl hr rfl) (Seals.sub (by repeat (first | exact Sub.nil _ | refine Sub.cons (by repeat (first | exact List.Mem.head _ | apply List.Mem.tail)) ?_))))
      · refine ord_split 4 1 (by kernel_rfl) (by kernel_rfl) (by kernel_rfl) ?_ ?_
        · refine ord_go [9, 0, 4, 1, 2, 3, 5, 6, 7, 8, 10] (by kernel_rfl) (by kernel_rfl) ?_
          refine alloc_rule (d := I false []) fun r hr => ?_
          refine lit_IL [1, 2] rfl rfl (by decide) fun s1 => ?_
          refine lit_IL [3, 0, 1] rfl rfl (by decide) fun s2 => ?_
          refine call_fn (ofW s1 1 2 [1, 2] [[1, 2]] rfl rfl (by decide) (by decide) (by decide) (by decide)) (Seals.refl _ _) (by repeat (first | exact Sub.nil _ | refine Sub.cons (by repeat (first | exact List.Mem.head _ | apply List.Mem.tail)) ?_)) ?_
          rintro m1 _ _ ⟨rfl, rfl⟩
          refine index_fact (n := 1) (by repeat (first | exact List.Mem.head _ | apply List.Mem.tail)) 0 rfl (by decide) fun i1 => ?_
          refine load_fact (d := vd [1, 2]) (by repeat (first | exact List.Mem.head _ | apply List.Mem.tail)) (load_V _) fun p1 => ?_
          refine call_fn (ofW s2 1 3 [3, 0, 1] [[3, 0, 1]] rfl rfl (by decide) (by decide) (by decide) (by decide)) (Seals.refl _ _) (by repeat (first | exact Sub.nil _ | refine Sub.cons (by repeat (first | exact List.Mem.head _ | apply List.Mem.tail)) ?_)) ?_
          rintro m2 _ _ ⟨rfl, rfl⟩
          refine index_fact (n := 1) (by repeat (first | exact List.Mem.head _ | apply List.Mem.tail)) 0 rfl (by decide) fun i2 => ?_
          refine load_fact (d := vd [3, 0, 1]) (by repeat (first | exact List.Mem.head _ | apply List.Mem.tail)) (load_V _) fun p2 => ?_
          refine call_fn (resW p1 p2 [1, 2] [3, 0, 1] 1 13 (by decide) sz1 sz3 (by decide) (by decide) (by decide)) (Seals.refl _ _) (by repeat (first | exact Sub.nil _ | refine Sub.cons (by repeat (first | exact List.Mem.head _ | apply List.Mem.tail)) ?_)) ?_
          rintro rv _ _ ⟨rfl, rfl⟩
          refine store_box (d := zd 13) 0 rfl hr rfl (by kernel_rfl) ?_ ?_; exact Reads.fact (by repeat (first | exact List.Mem.head _ | apply List.Mem.tail))
          exact again r trivial trivial (by repeat (first | exact trivial | refine ⟨rfl, ?_⟩ | refine ⟨i64_eq (by first | omega | (simp only; omega)), ?_⟩ | refine ⟨u64_eq (by first | omega | (simp only; omega)), ?_⟩)) (Seals.trans (Seals.box (d := zd 13) 0 rfl hr rfl) (Seals.sub (by repeat (first | exact Sub.nil _ | refine Sub.cons (by repeat (first | exact List.Mem.head _ | apply List.Mem.tail)) ?_))))
        · refine ord_go [9, 0, 1, 2, 3, 4, 5, 6, 7, 8, 10] (by kernel_rfl) (by kernel_rfl) ?_
          refine alloc_rule (d := I false []) fun r hr => ?_
          refine lit_IL [1, 2] rfl rfl (by decide) fun s1 => ?_
          refine call_fn (ofW s1 1 2 [1, 2] [[1, 2]] rfl rfl (by decide) (by decide) (by decide) (by decide)) (Seals.refl _ _) (by repeat (first | exact Sub.nil _ | refine Sub.cons (by repeat (first | exact List.Mem.head _ | apply List.Mem.tail)) ?_)) ?_
          rintro m1 _ _ ⟨rfl, rfl⟩
          refine index_fact (n := 1) (by repeat (first | exact List.Mem.head _ | apply List.Mem.tail)) 0 rfl (by decide) fun i1 => ?_
          refine load_fact (d := vd [1, 2]) (by repeat (first | exact List.Mem.head _ | apply List.Mem.tail)) (load_V _) fun p1 => ?_
          refine lit_IL [3, 0, 1] rfl rfl (by decide) fun s2 => ?_
          refine call_fn (ofW s2 1 3 [3, 0, 1] [[3, 0, 1]] rfl rfl (by decide) (by decide) (by decide) (by decide)) (Seals.refl _ _) (by repeat (first | exact Sub.nil _ | refine Sub.cons (by repeat (first | exact List.Mem.head _ | apply List.Mem.tail)) ?_)) ?_
          rintro m2 _ _ ⟨rfl, rfl⟩
          refine index_fact (n := 1) (by repeat (first | exact List.Mem.head _ | apply List.Mem.tail)) 0 rfl (by decide) fun i2 => ?_
          refine load_fact (d := vd [3, 0, 1]) (by repeat (first | exact List.Mem.head _ | apply List.Mem.tail)) (load_V _) fun p2 => ?_
          refine call_fn (resW p1 p2 [1, 2] [3, 0, 1] 1 13 (by decide) sz1 sz3 (by decide) (by decide) (by decide)) (Seals.refl _ _) (by repeat (first | exact Sub.nil _ | refine Sub.cons (by repeat (first | exact List.Mem.head _ | apply List.Mem.tail)) ?_)) ?_
          rintro rv _ _ ⟨rfl, rfl⟩
          refine store_box (d := zd 13) 0 rfl hr rfl (by kernel_rfl) ?_ ?_; exact Reads.fact (by repeat (first | exact List.Mem.head _ | apply List.Mem.tail))
          exact again r trivial trivial (by repeat (first | exact trivial | refine ⟨rfl, ?_⟩ | refine ⟨i64_eq (by first | omega | (simp only; omega)), ?_⟩ | refine ⟨u64_eq (by first | omega | (simp only; omega)), ?_⟩)) (Seals.trans (Seals.box (d := zd 13) 0 rfl hr rfl) (Seals.sub (by repeat (first | exact Sub.nil _ | refine Sub.cons (by repeat (first | exact List.Mem.head _ | apply List.Mem.tail)) ?_))))
    · refine ord_split 9 1 (by kernel_rfl) (by kernel_rfl) (by kernel_rfl) ?_ ?_
      · refine ord_split 4 0 (by kernel_rfl) (by kernel_rfl) (by kernel_rfl) ?_ ?_
        · refine ord_go [4, 0, 9, 1, 2, 3, 5, 6, 7, 8, 10] (by kernel_rfl) (by kernel_rfl) ?_
          refine lit_IL [3, 0, 1] rfl rfl (by decide) fun s2 => ?_
          refine lit_IL [1, 2] rfl rfl (by decide) fun s1 => ?_
          refine alloc_rule (d := I false []) fun r hr => ?_
          refine call_fn (ofW s1 1 2 [1, 2] [[1, 2]] rfl rfl (by decide) (by decide) (by decide) (by decide)) (Seals.refl _ _) (by repeat (first | exact Sub.nil _ | refine Sub.cons (by repeat (first | exact List.Mem.head _ | apply List.Mem.tail)) ?_)) ?_
          rintro m1 _ _ ⟨rfl, rfl⟩
          refine index_fact (n := 1) (by repeat (first | exact List.Mem.head _ | apply List.Mem.tail)) 0 rfl (by decide) fun i1 => ?_
          refine load_fact (d := vd [1, 2]) (by repeat (first | exact List.Mem.head _ | apply List.Mem.tail)) (load_V _) fun p1 => ?_
          refine call_fn (ofW s2 1 3 [3, 0, 1] [[3, 0, 1]] rfl rfl (by decide) (by decide) (by decide) (by decide)) (Seals.refl _ _) (by repeat (first | exact Sub.nil _ | refine Sub.cons (by repeat (first | exact List.Mem.head _ | apply List.Mem.tail)) ?_)) ?_
          rintro m2 _ _ ⟨rfl, rfl⟩
          refine index_fact (n := 1) (by repeat (first | exact List.Mem.head _ | apply List.Mem.tail)) 0 rfl (by decide) fun i2 => ?_
          refine load_fact (d := vd [3, 0, 1]) (by repeat (first | exact List.Mem.head _ | apply List.Mem.tail)) (load_V _) fun p2 => ?_
          refine call_fn (resW p1 p2 [1, 2] [3, 0, 1] 1 13 (by decide) sz1 sz3 (by decide) (by decide) (by decide)) (Seals.refl _ _) (by repeat (first | exact Sub.nil _ | refine Sub.cons (by repeat (first | exact List.Mem.head _ | apply List.Mem.tail)) ?_)) ?_
          rintro rv _ _ ⟨rfl, rfl⟩
          refine store_box (d := zd 13) 0 rfl hr rfl (by kernel_rfl) ?_ ?_; exact Reads.fact (by repeat (first | exact List.Mem.head _ | apply List.Mem.tail))
          exact again r trivial trivial (by repeat (first | exact trivial | refine ⟨rfl, ?_⟩ | refine ⟨i64_eq (by first | omega | (simp only; omega)), ?_⟩ | refine ⟨u64_eq (by first | omega | (simp only; omega)), ?_⟩)) (Seals.trans (Seals.box (d := zd 13) 0 rfl hr rfl) (Seals.sub (by repeat (first | exact Sub.nil _ | refine Sub.cons (by repeat (first | exact List.Mem.head _ | apply List.Mem.tail)) ?_))))
        · refine ord_split 4 1 (by kernel_rfl) (by kernel_rfl) (by kernel_rfl) ?_ ?_
          · refine ord_split 4 9 (by kernel_rfl) (by kernel_rfl) (by kernel_rfl) ?_ ?_
            · refine ord_go [0, 4, 9, 1, 2, 3, 5, 6, 7, 8, 10] (by kernel_rfl) (by kernel_rfl) ?_
              refine lit_IL [1, 2] rfl rfl (by decide) fun s1 => ?_
              refine lit_IL [3, 0, 1] rfl rfl (by decide) fun s2 => ?_
              refine alloc_rule (d := I false []) fun r hr => ?_
              refine call_fn (ofW s1 1 2 [1, 2] [[1, 2]] rfl rfl (by decide) (by decide) (by decide) (by decide)) (Seals.refl _ _) (by repeat (first | exact Sub.nil _ | refine Sub.cons (by repeat (first | exact List.Mem.head _ | apply List.Mem.tail)) ?_)) ?_
              rintro m1 _ _ ⟨rfl, rfl⟩
              refine index_fact (n := 1) (by repeat (first | exact List.Mem.head _ | apply List.Mem.tail)) 0 rfl (by decide) fun i1 => ?_
              refine load_fact (d := vd [1, 2]) (by repeat (first | exact List.Mem.head _ | apply List.Mem.tail)) (load_V _) fun p1 => ?_
              refine call_fn (ofW s2 1 3 [3, 0, 1] [[3, 0, 1]] rfl rfl (by decide) (by decide) (by decide) (by decide)) (Seals.refl _ _) (by repeat (first | exact Sub.nil _ | refine Sub.cons (by repeat (first | exact List.Mem.head _ | apply List.Mem.tail)) ?_)) ?_
              rintro m2 _ _ ⟨rfl, rfl⟩
              refine index_fact (n := 1) (by repeat (first | exact List.Mem.head _ | apply List.Mem.tail)) 0 rfl (by decide) fun i2 => ?_
              refine load_fact (d := vd [3, 0, 1]) (by repeat (first | exact List.Mem.head _ | apply List.Mem.tail)) (load_V _) fun p2 => ?_
              refine call_fn (resW p1 p2 [1, 2] [3, 0, 1] 1 13 (by decide) sz1 sz3 (by decide) (by decide) (by decide)) (Seals.refl _ _) (by repeat (first | exact Sub.nil _ | refine Sub.cons (by repeat (first | exact List.Mem.head _ | apply List.Mem.tail)) ?_)) ?_
              rintro rv _ _ ⟨rfl, rfl⟩
              refine store_box (d := zd 13) 0 rfl hr rfl (by kernel_rfl) ?_ ?_; exact Reads.fact (by repeat (first | exact List.Mem.head _ | apply List.Mem.tail))
              exact again r trivial trivial (by repeat (first | exact trivial | refine ⟨rfl, ?_⟩ | refine ⟨i64_eq (by first | omega | (simp only; omega)), ?_⟩ | refine ⟨u64_eq (by first | omega | (simp only; omega)), ?_⟩)) (Seals.trans (Seals.box (d := zd 13) 0 rfl hr rfl) (Seals.sub (by repeat (first | exact Sub.nil _ | refine Sub.cons (by repeat (first | exact List.Mem.head _ | apply List.Mem.tail)) ?_))))
            · refine ord_go [0, 9, 4, 1, 2, 3, 5, 6, 7, 8, 10] (by kernel_rfl) (by kernel_rfl) ?_
              refine lit_IL [1, 2] rfl rfl (by decide) fun s1 => ?_
              refine alloc_rule (d := I false []) fun r hr => ?_
              refine lit_IL [3, 0, 1] rfl rfl (by decide) fun s2 => ?_
              refine call_fn (ofW s1 1 2 [1, 2] [[1, 2]] rfl rfl (by decide) (by decide) (by decide) (by decide)) (Seals.refl _ _) (by repeat (first | exact Sub.nil _ | refine Sub.cons (by repeat (first | exact List.Mem.head _ | apply List.Mem.tail)) ?_)) ?_
              rintro m1 _ _ ⟨rfl, rfl⟩
              refine index_fact (n := 1) (by repeat (first | exact List.Mem.head _ | apply List.Mem.tail)) 0 rfl (by decide) fun i1 => ?_
              refine load_fact (d := vd [1, 2]) (by repeat (first | exact List.Mem.head _ | apply List.Mem.tail)) (load_V _) fun p1 => ?_
              refine call_fn (ofW s2 1 3 [3, 0, 1] [[3, 0, 1]] rfl rfl (by decide) (by decide) (by decide) (by decide)) (Seals.refl _ _) (by repeat (first | exact Sub.nil _ | refine Sub.cons (by repeat (first | exact List.Mem.head _ | apply List.Mem.tail)) ?_)) ?_
              rintro m2 _ _ ⟨rfl, rfl⟩
              refine index_fact (n := 1) (by repeat (first | exact List.Mem.head _ | apply List.Mem.tail)) 0 rfl (by decide) fun i2 => ?_
              refine load_fact (d := vd [3, 0, 1]) (by repeat (first | exact List.Mem.head _ | apply List.Mem.tail)) (load_V _) fun p2 => ?_
              refine call_fn (resW p1 p2 [1, 2] [3, 0, 1] 1 13 (by decide) sz1 sz3 (by decide) (by decide) (by decide)) (Seals.refl _ _) (by repeat (first | exact Sub.nil _ | refine Sub.cons (by repeat (first | exact List.Mem.head _ | apply List.Mem.tail)) ?_)) ?_
              rintro rv _ _ ⟨rfl, rfl⟩
              refine store_box (d := zd 13) 0 rfl hr rfl (by kernel_rfl) ?_ ?_; exact Reads.fact (by repeat (first | exact List.Mem.head _ | apply List.Mem.tail))
              exact again r trivial trivial (by repeat (first | exact trivial | refine ⟨rfl, ?_⟩ | refine ⟨i64_eq (by first | omega | (simp only; omega)), ?_⟩ | refine ⟨u64_eq (by first | omega | (simp only; omega)), ?_⟩)) (Seals.trans (Seals.box (d := zd 13) 0 rfl hr rfl) (Seals.sub (by repeat (first | exact Sub.nil _ | refine Sub.cons (by repeat (first | exact List.Mem.head _ | apply List.Mem.tail)) ?_))))
          · refine ord_go [0, 9, 1, 2, 3, 4, 5, 6, 7, 8, 10] (by kernel_rfl) (by kernel_rfl) ?_
            refine lit_IL [1, 2] rfl rfl (by decide) fun s1 => ?_
            refine alloc_rule (d := I false []) fun r hr => ?_
            refine call_fn (ofW s1 1 2 [1, 2] [[1, 2]] rfl rfl (by decide) (by decide) (by decide) (by decide)) (Seals.refl _ _) (by repeat (first | exact Sub.nil _ | refine Sub.cons (by repeat (first | exact List.Mem.head _ | apply List.Mem.tail)) ?_)) ?_
            rintro m1 _ _ ⟨rfl, rfl⟩
            refine index_fact (n := 1) (by repeat (first | exact List.Mem.head _ | apply List.Mem.tail)) 0 rfl (by decide) fun i1 => ?_
            refine load_fact (d := vd [1, 2]) (by repeat (first | exact List.Mem.head _ | apply List.Mem.tail)) (load_V _) fun p1 => ?_
            refine lit_IL [3, 0, 1] rfl rfl (by decide) fun s2 => ?_
            refine call_fn (ofW s2 1 3 [3, 0, 1] [[3, 0, 1]] rfl rfl (by decide) (by decide) (by decide) (by decide)) (Seals.refl _ _) (by repeat (first | exact Sub.nil _ | refine Sub.cons (by repeat (first | exact List.Mem.head _ | apply List.Mem.tail)) ?_)) ?_
            rintro m2 _ _ ⟨rfl, rfl⟩
            refine index_fact (n := 1) (by repeat (first | exact List.Mem.head _ | apply List.Mem.tail)) 0 rfl (by decide) fun i2 => ?_
            refine load_fact (d := vd [3, 0, 1]) (by repeat (first | exact List.Mem.head _ | apply List.Mem.tail)) (load_V _) fun p2 => ?_
            refine call_fn (resW p1 p2 [1, 2] [3, 0, 1] 1 13 (by decide) sz1 sz3 (by decide) (by decide) (by decide)) (Seals.refl _ _) (by repeat (first | exact Sub.nil _ | refine Sub.cons (by repeat (first | exact List.Mem.head _ | apply List.Mem.tail)) ?_)) ?_
            rintro rv _ _ ⟨rfl, rfl⟩
            refine store_box (d := zd 13) 0 rfl hr rfl (by kernel_rfl) ?_ ?_; exact Reads.fact (by repeat (first | exact List.Mem.head _ | apply List.Mem.tail))
            exact again r trivial trivial (by repeat (first | exact trivial | refine ⟨rfl, ?_⟩ | refine ⟨i64_eq (by first | omega | (simp only; omega)), ?_⟩ | refine ⟨u64_eq (by first | omega | (simp only; omega)), ?_⟩)) (Seals.trans (Seals.box (d := zd 13) 0 rfl hr rfl) (Seals.sub (by repeat (first | exact Sub.nil _ | refine Sub.cons (by repeat (first | exact List.Mem.head _ | apply List.Mem.tail)) ?_))))
      · refine ord_split 9 5 (by kernel_rfl) (by kernel_rfl) (by kernel_rfl) ?_ ?_
        · refine ord_split 4 0 (by kernel_rfl) (by kernel_rfl) (by kernel_rfl) ?_ ?_
          · refine ord_go [4, 0, 1, 2, 3, 9, 5, 6, 7, 8, 10] (by kernel_rfl) (by kernel_rfl) ?_
            refine lit_IL [3, 0, 1] rfl rfl (by decide) fun s2 => ?_
            refine lit_IL [1, 2] rfl rfl (by decide) fun s1 => ?_
            refine call_fn (ofW s1 1 2 [1, 2] [[1, 2]] rfl rfl (by decide) (by decide) (by decide) (by decide)) (Seals.refl _ _) (by repeat (first | exact Sub.nil _ | refine Sub.cons (by repeat (first | exact List.Mem.head _ | apply List.Mem.tail)) ?_)) ?_
            rintro m1 _ _ ⟨rfl, rfl⟩
            refine index_fact (n := 1) (by repeat (first | exact List.Mem.head _ | apply List.Mem.tail)) 0 rfl (by decide) fun i1 => ?_
            refine load_fact (d := vd [1, 2]) (by repeat (first | exact List.Mem.head _ | apply List.Mem.tail)) (load_V _) fun p1 => ?_
            refine alloc_rule (d := I false []) fun r hr => ?_
            refine call_fn (ofW s2 1 3 [3, 0, 1] [[3, 0, 1]] rfl rfl (by decide) (by decide) (by decide) (by decide)) (Seals.refl _ _) (by repeat (first | exact Sub.nil _ | refine Sub.cons (by repeat (first | exact List.Mem.head _ | apply List.Mem.tail)) ?_)) ?_
            rintro m2 _ _ ⟨rfl, rfl⟩
            refine index_fact (n := 1) (by repeat (first | exact List.Mem.head _ | apply List.Mem.tail)) 0 rfl (by decide) fun i2 => ?_
            refine load_fact (d := vd [3, 0, 1]) (by repeat (first | exact List.Mem.head _ | apply List.Mem.tail)) (load_V _) fun p2 => ?_
            refine call_fn (resW p1 p2 [1, 2] [3, 0, 1] 1 13 (by decide) sz1 sz3 (by decide) (by decide) (by decide)) (Seals.refl _ _) (by repeat (first | exact Sub.nil _ | refine Sub.cons (by repeat (first | exact List.Mem.head _ | apply List.Mem.tail)) ?_)) ?_
            rintro rv _ _ ⟨rfl, rfl⟩
            refine store_box (d := zd 13) 0 rfl hr rfl (by kernel_rfl) ?_ ?_; exact Reads.fact (by repeat (first | exact List.Mem.head _ | apply List.Mem.tail))
            exact again r trivial trivial (by repeat (first | exact trivial | refine ⟨rfl, ?_⟩ | refine ⟨i64_eq (by first | omega | (simp only; omega)), ?_⟩ | refine ⟨u64_eq (by first | omega | (simp only; omega)), ?_⟩)) (Seals.trans (Seals.box (d := zd 13) 0 rfl hr rfl) (Seals.sub (by repeat (first | exact Sub.nil _ | refine Sub.cons (by repeat (first | exact List.Mem.head _ | apply List.Mem.tail)) ?_))))
          · refine ord_split 4 1 (by kernel_rfl) (by kernel_rfl) (by kernel_rfl) ?_ ?_
            · refine ord_go [0, 4, 1, 2, 3, 9, 5, 6, 7, 8, 10] (by kernel_rfl) (by kernel_rfl) ?_
              refine lit_IL [1, 2] rfl rfl (by decide) fun s1 => ?_
              refine lit_IL [3, 0, 1] rfl rfl (by decide) fun s2 => ?_
              refine call_fn (ofW s1 1 2 [1, 2] [[1, 2]] rfl rfl (by decide) (by decide) (by decide) (by decide)) (Seals.refl _ _) (by repeat (first | exact Sub.nil _ | refine Sub.cons (by repeat (first | exact List.Mem.head _ | apply List.Mem.tail)) ?_)) ?_
              rintro m1 _ _ ⟨rfl, rfl⟩
              refine index_fact (n := 1) (by repeat (first | exact List.Mem.head _ | apply List.Mem.tail)) 0 rfl (by decide) fun i1 => ?_
              refine load_fact (d := vd [1, 2]) (by repeat (first | exact List.Mem.head _ | apply List.Mem.tail)) (load_V _) fun p1 => ?_
              refine alloc_rule (d := I false []) fun r hr => ?_
              refine call_fn (ofW s2 1 3 [3, 0, 1] [[3, 0, 1]] rfl rfl (by decide) (by decide) (by decide) (by decide)) (Seals.refl _ _) (by repeat (first | exact Sub.nil _ | refine Sub.cons (by repeat (first | exact List.Mem.head _ | apply List.Mem.tail)) ?_)) ?_
              rintro m2 _ _ ⟨rfl, rfl⟩
              refine index_fact (n := 1) (by repeat (first | exact List.Mem.head _ | apply List.Mem.tail)) 0 rfl (by decide) fun i2 => ?_
              refine load_fact (d := vd [3, 0, 1]) (by repeat (first | exact List.Mem.head _ | apply List.Mem.tail)) (load_V _) fun p2 => ?_
              refine call_fn (resW p1 p2 [1, 2] [3, 0, 1] 1 13 (by decide) sz1 sz3 (by decide) (by decide) (by decide)) (Seals.refl _ _) (by repeat (first | exact Sub.nil _ | refine Sub.cons (by repeat (first | exact List.Mem.head _ | apply List.Mem.tail)) ?_)) ?_
              rintro rv _ _ ⟨rfl, rfl⟩
              refine store_box (d := zd 13) 0 rfl hr rfl (by kernel_rfl) ?_ ?_; exact Reads.fact (by repeat (first | exact List.Mem.head _ | apply List.Mem.tail))
              exact again r trivial trivial (by repeat (first | exact trivial | refine ⟨rfl, ?_⟩ | refine ⟨i64_eq (by first | omega | (simp only; omega)), ?_⟩ | refine ⟨u64_eq (by first | omega | (simp only; omega)), ?_⟩)) (Seals.trans (Seals.box (d := zd 13) 0 rfl hr rfl) (Seals.sub (by repeat (first | exact Sub.nil _ | refine Sub.cons (by repeat (first | exact List.Mem.head _ | apply List.Mem.tail)) ?_))))
            · refine ord_split 4 9 (by kernel_rfl) (by kernel_rfl) (by kernel_rfl) ?_ ?_
              · refine ord_go [0, 1, 2, 3, 4, 9, 5, 6, 7, 8, 10] (by kernel_rfl) (by kernel_rfl) ?_
                refine lit_IL [1, 2] rfl rfl (by decide) fun s1 => ?_
                refine call_fn (ofW s1 1 2 [1, 2] [[1, 2]] rfl rfl (by decide) (by decide) (by decide) (by decide)) (Seals.refl _ _) (by repeat (first | exact Sub.nil _ | refine Sub.cons (by repeat (first | exact List.Mem.head _ | apply List.Mem.tail)) ?_)) ?_
                rintro m1 _ _ ⟨rfl, rfl⟩
                refine index_fact (n := 1) (by repeat (first | exact List.Mem.head _ | apply List.Mem.tail)) 0 rfl (by decide) fun i1 => ?_
                refine load_fact (d := vd [1, 2]) (by repeat (first | exact List.Mem.head _ | apply List.Mem.tail)) (load_V _) fun p1 => ?_
                refine lit_IL [3, 0, 1] rfl rfl (by decide) fun s2 => ?_
                refine alloc_rule (d := I false []) fun r hr => ?_
                refine call_fn (ofW s2 1 3 [3, 0, 1] [[3, 0, 1]] rfl rfl (by decide) (by decide) (by decide) (by decide)) (Seals.refl _ _) (by repeat (first | exact Sub.nil _ | refine Sub.cons (by repeat (first | exact List.Mem.head _ | apply List.Mem.tail)) ?_)) ?_
                rintro m2 _ _ ⟨rfl, rfl⟩
                refine index_fact (n := 1) (by repeat (first | exact List.Mem.head _ | apply List.Mem.tail)) 0 rfl (by decide) fun i2 => ?_
                refine load_fact (d := vd [3, 0, 1]) (by repeat (first | exact List.Mem.head _ | apply List.Mem.tail)) (load_V _) fun p2 => ?_
                refine call_fn (resW p1 p2 [1, 2] [3, 0, 1] 1 13 (by decide) sz1 sz3 (by decide) (by decide) (by decide)) (Seals.refl _ _) (by repeat (first | exact Sub.nil _ | refine Sub.cons (by repeat (first | exact List.Mem.head _ | apply List.Mem.tail)) ?_)) ?_
                rintro rv _ _ ⟨rfl, rfl⟩
                refine store_box (d := zd 13) 0 rfl hr rfl (by kernel_rfl) ?_ ?_; exact Reads.fact (by repeat (first | exact List.Mem.head _ | apply List.Mem.tail))
                exact again r trivial trivial (by repeat (first | exact trivial | refine ⟨rfl, ?_⟩ | refine ⟨i64_eq (by first | omega | (simp only; omega)), ?_⟩ | refine ⟨u64_eq (by first | omega | (simp only; omega)), ?_⟩)) (Seals.trans (Seals.box (d := zd 13) 0 rfl hr rfl) (Seals.sub (by repeat (first | exact Sub.nil _ | refine Sub.cons (by repeat (first | exact List.Mem.head _ | apply List.Mem.tail)) ?_))))
              · refine ord_go [0, 1, 2, 3, 9, 4, 5, 6, 7, 8, 10] (by kernel_rfl) (by kernel_rfl) ?_
                refine lit_IL [1, 2] rfl rfl (by decide) fun s1 => ?_
                refine call_fn (ofW s1 1 2 [1, 2] [[1, 2]] rfl rfl (by decide) (by decide) (by decide) (by decide)) (Seals.refl _ _) (by repeat (first | exact Sub.nil _ | refine Sub.cons (by repeat (first | exact List.Mem.head _ | apply List.Mem.tail)) ?_)) ?_
                rintro m1 _ _ ⟨rfl, rfl⟩
                refine index_fact (n := 1) (by repeat (first | exact List.Mem.head _ | apply List.Mem.tail)) 0 rfl (by decide) fun i1 => ?_
                refine load_fact (d := vd [1, 2]) (by repeat (first | exact List.Mem.head _ | apply List.Mem.tail)) (load_V _) fun p1 => ?_
                refine alloc_rule (d := I false []) fun r hr => ?_
                refine lit_IL [3, 0, 1] rfl rfl (by decide) fun s2 => ?_
                refine call_fn (ofW s2 1 3 [3, 0, 1] [[3, 0, 1]] rfl rfl (by decide) (by decide) (by decide) (by decide)) (Seals.refl _ _) (by repeat (first | exact Sub.nil _ | refine Sub.cons (by repeat (first | exact List.Mem.head _ | apply List.Mem.tail)) ?_)) ?_
                rintro m2 _ _ ⟨rfl, rfl⟩
                refine index_fact (n := 1) (by repeat (first | exact List.Mem.head _ | apply List.Mem.tail)) 0 rfl (by decide) fun i2 => ?_
                refine load_fact (d := vd [3, 0, 1]) (by repeat (first | exact List.Mem.head _ | apply List.Mem.tail)) (load_V _) fun p2 => ?_
                refine call_fn (resW p1 p2 [1, 2] [3, 0, 1] 1 13 (by decide) sz1 sz3 (by decide) (by decide) (by decide)) (Seals.refl _ _) (by repeat (first | exact Sub.nil _ | refine Sub.cons (by repeat (first | exact List.Mem.head _ | apply List.Mem.tail)) ?_)) ?_
                rintro rv _ _ ⟨rfl, rfl⟩
                refine store_box (d := zd 13) 0 rfl hr rfl (by kernel_rfl) ?_ ?_; exact Reads.fact (by repeat (first | exact List.Mem.head _ | apply List.Mem.tail))
                exact again r trivial trivial (by repeat (first | exact trivial | refine ⟨rfl, ?_⟩ | refine ⟨i64_eq (by first | omega | (simp only; omega)), ?_⟩ | refine ⟨u64_eq (by first | omega | (simp only; omega)), ?_⟩)) (Seals.trans (Seals.box (d := zd 13) 0 rfl hr rfl) (Seals.sub (by repeat (first | exact Sub.nil _ | refine Sub.cons (by repeat (first | exact List.Mem.head _ | apply List.Mem.tail)) ?_))))
        · refine ord_split 9 8 (by kernel_rfl) (by kernel_rfl) (by kernel_rfl) ?_ ?_
          · refine ord_split 4 0 (by kernel_rfl) (by kernel_rfl) (by kernel_rfl) ?_ ?_
            · refine ord_go [4, 0, 1, 2, 3, 5, 6, 7, 9, 8, 10] (by kernel_rfl) (by kernel_rfl) ?_
              refine lit_IL [3, 0, 1] rfl rfl (by decide) fun s2 => ?_
              refine lit_IL [1, 2] rfl rfl (by decide) fun s1 => ?_
              refine call_fn (ofW s1 1 2 [1, 2] [[1, 2]] rfl rfl (by decide) (by decide) (by decide) (by decide)) (Seals.refl _ _) (by repeat (first | exact Sub.nil _ | refine Sub.cons (by repeat (first | exact List.Mem.head _ | apply List.Mem.tail)) ?_)) ?_
              rintro m1 _ _ ⟨rfl, rfl⟩
              refine index_fact (n := 1) (by repeat (first | exact List.Mem.head _ | apply List.Mem.tail)) 0 rfl (by decide) fun i1 => ?_
              refine load_fact (d := vd [1, 2]) (by repeat (first | exact List.Mem.head _ | apply List.Mem.tail)) (load_V _) fun p1 => ?_
              refine call_fn (ofW s2 1 3 [3, 0, 1] [[3, 0, 1]] rfl rfl (by decide) (by decide) (by decide) (by decide)) (Seals.refl _ _) (by repeat (first | exact Sub.nil _ | refine Sub.cons (by repeat (first | exact List.Mem.head _ | apply List.Mem.tail)) ?_)) ?_
              rintro m2 _ _ ⟨rfl, rfl⟩
              refine index_fact (n := 1) (by repeat (first | exact List.Mem.head _ | apply List.Mem.tail)) 0 rfl (by decide) fun i2 => ?_
              refine load_fact (d := vd [3, 0, 1]) (by repeat (first | exact List.Mem.head _ | apply List.Mem.tail)) (load_V _) fun p2 => ?_
              refine alloc_rule (d := I false []) fun r hr => ?_
              refine call_fn (resW p1 p2 [1, 2] [3, 0, 1] 1 13 (by decide) sz1 sz3 (by decide) (by decide) (by decide)) (Seals.refl _ _) (by repeat (first | exact Sub.nil _ | refine Sub.cons (by repeat (first | exact List.Mem.head _ | apply List.Mem.tail)) ?_)) ?_
              rintro rv _ _ ⟨rfl, rfl⟩
              refine store_box (d := zd 13) 0 rfl hr rfl (by kernel_rfl) ?_ ?_; exact Reads.fact (by repeat (first | exact List.Mem.head _ | apply List.Mem.tail))
              exact again r trivial trivial (by repeat (first | exact trivial | refine ⟨rfl, ?_⟩ | refine ⟨i64_eq (by first | omega | (simp only; omega)), ?_⟩ | refine ⟨u64_eq (by first | omega | (simp only; omega)), ?_⟩)) (Seals.trans (Seals.box (d := zd 13) 0 rfl hr rfl) (Seals.sub (by repeat (first | exact Sub.nil _ | refine Sub.cons (by repeat (first | exact List.Mem.head _ | apply List.Mem.tail)) ?_))))
            · refine ord_split 4 1 (by kernel_rfl) (by kernel_rfl) (by kernel_rfl) ?_ ?_
              · refine ord_go [0, 4, 1, 2, 3, 5, 6, 7, 9, 8, 10] (by kernel_rfl) (by kernel_rfl) ?_
                refine lit_IL [1, 2] rfl rfl (by decide) fun s1 => ?_
                refine lit_IL [3, 0, 1] rfl rfl (by decide) fun s2 => ?_
                refine call_fn (ofW s1 1 2 [1, 2] [[1, 2]] rfl rfl (by decide) (by decide) (by decide) (by decide)) (Seals.refl _ _) (by repeat (first | exact Sub.nil _ | refine Sub.cons (by repeat (first | exact List.Mem.head _ | apply List.Mem.tail)) ?_)) ?_
                rintro m1 _ _ ⟨rfl, rfl⟩
                refine index_fact (n := 1) (by repeat (first | exact List.Mem.head _ | apply List.Mem.tail)) 0 rfl (by decide) fun i1 => ?_
                refine load_fact (d := vd [1, 2]) (by repeat (first | exact List.Mem.head _ | apply List.Mem.tail)) (load_V _) fun p1 => ?_
                refine call_fn (ofW s2 1 3 [3, 0, 1] [[3, 0, 1]] rfl rfl (by decide) (by decide) (by decide) (by decide)) (Seals.refl _ _) (by repeat (first | exact Sub.nil _ | refine Sub.cons (by repeat (first | exact List.Mem.head _ | apply List.Mem.tail)) ?_)) ?_
                rintro m2 _ _ ⟨rfl, rfl⟩
                refine index_fact (n := 1) (by repeat (first | exact List.Mem.head _ | apply List.Mem.tail)) 0 rfl (by decide) fun i2 => ?_
                refine load_fact (d := vd [3, 0, 1]) (by repeat (first | exact List.Mem.head _ | apply List.Mem.tail)) (load_V _) fun p2 => ?_
                refine alloc_rule (d := I false []) fun r hr => ?_
                refine call_fn (resW p1 p2 [1, 2] [3, 0, 1] 1 13 (by decide) sz1 sz3 (by decide) (by decide) (by decide)) (Seals.refl _ _) (by repeat (first | exact Sub.nil _ | refine Sub.cons (by repeat (first | exact List.Mem.head _ | apply List.Mem.tail)) ?_)) ?_
                rintro rv _ _ ⟨rfl, rfl⟩
                refine store_box (d := zd 13) 0 rfl hr rfl (by kernel_rfl) ?_ ?_; exact Reads.fact (by repeat (first | exact List.Mem.head _ | apply List.Mem.tail))
                exact again r trivial trivial (by repeat (first | exact trivial | refine ⟨rfl, ?_⟩ | refine ⟨i64_eq (by first | omega | (simp only; omega)), ?_⟩ | refine ⟨u64_eq (by first | omega | (simp only; omega)), ?_⟩)) (Seals.trans (Seals.box (d := zd 13) 0 rfl hr rfl) (Seals.sub (by repeat (first | exact Sub.nil _ | refine Sub.cons (by repeat (first | exact List.Mem.head _ | apply List.Mem.tail)) ?_))))
              · refine ord_go [0, 1, 2, 3, 4, 5, 6, 7, 9, 8, 10] (by kernel_rfl) (by kernel_rfl) ?_
                refine lit_IL [1, 2] rfl rfl (by decide) fun s1 => ?_
                refine call_fn (ofW s1 1 2 [1, 2] [[1, 2]] rfl rfl (by decide) (by decide) (by decide) (by decide)) (Seals.refl _ _) (by repeat (first | exact Sub.nil _ | refine Sub.cons (by repeat (first | exact List.Mem.head _ | apply List.Mem.tail)) ?_)) ?_
                rintro m1 _ _ ⟨rfl, rfl⟩
                refine index_fact (n := 1) (by repeat (first | exact List.Mem.head _ | apply List.Mem.tail)) 0 rfl (by decide) fun i1 => ?_
                refine load_fact (d := vd [1, 2]) (by repeat (first | exact List.Mem.head _ | apply List.Mem.tail)) (load_V _) fun p1 => ?_
                refine lit_IL [3, 0, 1] rfl rfl (by decide) fun s2 => ?_
                refine call_fn (ofW s2 1 3 [3, 0, 1] [[3, 0, 1]] rfl rfl (by decide) (by decide) (by decide) (by decide)) (Seals.refl _ _) (by repeat (first | exact Sub.nil _ | refine Sub.cons (by repeat (first | exact List.Mem.head _ | apply List.Mem.tail)) ?_)) ?_
                rintro m2 _ _ ⟨rfl, rfl⟩
                refine index_fact (n := 1) (by repeat (first | exact List.Mem.head _ | apply List.Mem.tail)) 0 rfl (by decide) fun i2 => ?_
                refine load_fact (d := vd [3, 0, 1]) (by repeat (first | exact List.Mem.head _ | apply List.Mem.tail)) (load_V _) fun p2 => ?_
                refine alloc_rule (d := I false []) fun r hr => ?_
                refine call_fn (resW p1 p2 [1, 2] [3, 0, 1] 1 13 (by decide) sz1 sz3 (by decide) (by decide) (by decide)) (Seals.refl _ _) (by repeat (first | exact Sub.nil _ | refine Sub.cons (by repeat (first | exact List.Mem.head _ | apply List.Mem.tail)) ?_)) ?_
                rintro rv _ _ ⟨rfl, rfl⟩
                refine store_box (d := zd 13) 0 rfl hr rfl (by kernel_rfl) ?_ ?_; exact Reads.fact (by repeat (first | exact List.Mem.head _ | apply List.Mem.tail))
                exact again r trivial trivial (by repeat (first | exact trivial | refine ⟨rfl, ?_⟩ | refine ⟨i64_eq (by first | omega | (simp only; omega)), ?_⟩ | refine ⟨u64_eq (by first | omega | (simp only; omega)), ?_⟩)) (Seals.trans (Seals.box (d := zd 13) 0 rfl hr rfl) (Seals.sub (by repeat (first | exact Sub.nil _ | refine Sub.cons (by repeat (first | exact List.Mem.head _ | apply List.Mem.tail)) ?_))))
          · refine ord_split 4 0 (by kernel_rfl) (by kernel_rfl) (by kernel_rfl) ?_ ?_
            · refine ord_go [4, 0, 1, 2, 3, 5, 6, 7, 8, 9, 10] (by kernel_rfl) (by kernel_rfl) ?_
              refine lit_IL [3, 0, 1] rfl rfl (by decide) fun s2 => ?_
              refine lit_IL [1, 2] rfl rfl (by decide) fun s1 => ?_
              refine call_fn (ofW s1 1 2 [1, 2] [[1, 2]] rfl rfl (by decide) (by decide) (by decide) (by decide)) (Seals.refl _ _) (by repeat (first | exact Sub.nil _ | refine Sub.cons (by repeat (first | exact List.Mem.head _ | apply List.Mem.tail)) ?_)) ?_
              rintro m1 _ _ ⟨rfl, rfl⟩
              refine index_fact (n := 1) (by repeat (first | exact List.Mem.head _ | apply List.Mem.tail)) 0 rfl (by decide) fun i1 => ?_
              refine load_fact (d := vd [1, 2]) (by repeat (first | exact List.Mem.head _ | apply List.Mem.tail)) (load_V _) fun p1 => ?_
              refine call_fn (ofW s2 1 3 [3, 0, 1] [[3, 0, 1]] rfl rfl (by decide) (by decide) (by decide) (by decide)) (Seals.refl _ _) (by repeat (first | exact Sub.nil _ | refine Sub.cons (by repeat (first | exact List.Mem.head _ | apply List.Mem.tail)) ?_)) ?_
              rintro m2 _ _ ⟨rfl, rfl⟩
              refine index_fact (n := 1) (by repeat (first | exact List.Mem.head _ | apply List.Mem.tail)) 0 rfl (by decide) fun i2 => ?_
              refine load_fact (d := vd [3, 0, 1]) (by repeat (first | exact List.Mem.head _ | apply List.Mem.tail)) (load_V _) fun p2 => ?_
              refine call_fn (resW p1 p2 [1, 2] [3, 0, 1] 1 13 (by decide) sz1 sz3 (by decide) (by decide) (by decide)) (Seals.refl _ _) (by repeat (first | exact Sub.nil _ | refine Sub.cons (by repeat (first | exact List.Mem.head _ | apply List.Mem.tail)) ?_)) ?_
              rintro rv _ _ ⟨rfl, rfl⟩
              refine alloc_rule (d := I false []) fun r hr => ?_
              refine store_box (d := zd 13) 0 rfl hr rfl (by kernel_rfl) ?_ ?_; exact Reads.fact (by repeat (first | exact List.Mem.head _ | apply List.Mem.tail))
              exact again r trivial trivial (by repeat (first | exact trivial | refine ⟨rfl, ?_⟩ | refine ⟨i64_eq (by first | omega | (simp only; omega)), ?_⟩ | refine ⟨u64_eq (by first | omega | (simp only; omega)), ?_⟩)) (Seals.trans (Seals.box (d := zd 13) 0 rfl hr rfl) (Seals.sub (by repeat (first | exact Sub.nil _ | refine Sub.cons (by repeat (first | exact List.Mem.head _ | apply List.Mem.tail)) ?_))))
            · refine ord_split 4 1 (by kernel_rfl) (by kernel_rfl) (by kernel_rfl) ?_ ?_
              · refine ord_go [0, 4, 1, 2, 3, 5, 6, 7, 8, 9, 10] (by kernel_rfl) (by kernel_rfl) ?_
                refine lit_IL [1, 2] rfl rfl (by decide) fun s1 => ?_
                refine lit_IL [3, 0, 1] rfl rfl (by decide) fun s2 => ?_
                refine call_fn (ofW s1 1 2 [1, 2] [[1, 2]] rfl rfl (by decide) (by decide) (by decide) (by decide)) (Seals.refl _ _) (by repeat (first | exact Sub.nil _ | refine Sub.cons (by repeat (first | exact List.Mem.head _ | apply List.Mem.tail)) ?_)) ?_
                rintro m1 _ _ ⟨rfl, rfl⟩
                refine index_fact (n := 1) (by repeat (first | exact List.Mem.head _ | apply List.Mem.tail)) 0 rfl (by decide) fun i1 => ?_
                refine load_fact (d := vd [1, 2]) (by repeat (first | exact List.Mem.head _ | apply List.Mem.tail)) (load_V _) fun p1 => ?_
                refine call_fn (ofW s2 1 3 [3, 0, 1] [[3, 0, 1]] rfl rfl (by decide) (by decide) (by decide) (by decide)) (Seals.refl _ _) (by repeat (first | exact Sub.nil _ | refine Sub.cons (by repeat (first | exact List.Mem.head _ | apply List.Mem.tail)) ?_)) ?_
                rintro m2 _ _ ⟨rfl, rfl⟩
                refine index_fact (n := 1) (by repeat (first | exact List.Mem.head _ | apply List.Mem.tail)) 0 rfl (by decide) fun i2 => ?_
                refine load_fact (d := vd [3, 0, 1]) (by repeat (first | exact List.Mem.head _ | apply List.Mem.tail)) (load_V _) fun p2 => ?_
                refine call_fn (resW p1 p2 [1, 2] [3, 0, 1] 1 13 (by decide) sz1 sz3 (by decide) (by decide) (by decide)) (Seals.refl _ _) (by repeat (first | exact Sub.nil _ | refine Sub.cons (by repeat (first | exact List.Mem.head _ | apply List.Mem.tail)) ?_)) ?_
                rintro rv _ _ ⟨rfl, rfl⟩
                refine alloc_rule (d := I false []) fun r hr => ?_
                refine store_box (d := zd 13) 0 rfl hr rfl (by kernel_rfl) ?_ ?_; exact Reads.fact (by repeat (first | exact List.Mem.head _ | apply List.Mem.tail))
                exact again r trivial trivial (by repeat (first | exact trivial | refine ⟨rfl, ?_⟩ | refine ⟨i64_eq (by first | omega | (simp only; omega)), ?_⟩ | refine ⟨u64_eq (by first | omega | (simp only; omega)), ?_⟩)) (Seals.trans (Seals.box (d := zd 13) 0 rfl hr rfl) (Seals.sub (by repeat (first | exact Sub.nil _ | refine Sub.cons (by repeat (first | exact List.Mem.head _ | apply List.Mem.tail)) ?_))))
              · refine ord_go [0, 1, 2, 3, 4, 5, 6, 7, 8, 9, 10] (by kernel_rfl) (by kernel_rfl) ?_
                refine lit_IL [1, 2] rfl rfl (by decide) fun s1 => ?_
                refine call_fn (ofW s1 1 2 [1, 2] [[1, 2]] rfl rfl (by decide) (by decide) (by decide) (by decide)) (Seals.refl _ _) (by repeat (first | exact Sub.nil _ | refine Sub.cons (by repeat (first | exact List.Mem.head _ | apply List.Mem.tail)) ?_)) ?_
                rintro m1 _ _ ⟨rfl, rfl⟩
                refine index_fact (n := 1) (by repeat (first | exact List.Mem.head _ | apply List.Mem.tail)) 0 rfl (by decide) fun i1 => ?_
                refine load_fact (d := vd [1, 2]) (by repeat (first | exact List.Mem.head _ | apply List.Mem.tail)) (load_V _) fun p1 => ?_
                refine lit_IL [3, 0, 1] rfl rfl (by decide) fun s2 => ?_
                refine call_fn (ofW s2 1 3 [3, 0, 1] [[3, 0, 1]] rfl rfl (by decide) (by decide) (by decide) (by decide)) (Seals.refl _ _) (by repeat (first | exact Sub.nil _ | refine Sub.cons (by repeat (first | exact List.Mem.head _ | apply List.Mem.tail)) ?_)) ?_
                rintro m2 _ _ ⟨rfl, rfl⟩
                refine index_fact (n := 1) (by repeat (first | exact List.Mem.head _ | apply List.Mem.tail)) 0 rfl (by decide) fun i2 => ?_
                refine load_fact (d := vd [3, 0, 1]) (by repeat (first | exact List.Mem.head _ | apply List.Mem.tail)) (load_V _) fun p2 => ?_
                refine call_fn (resW p1 p2 [1, 2] [3, 0, 1] 1 13 (by decide) sz1 sz3 (by decide) (by decide) (by decide)) (Seals.refl _ _) (by repeat (first | exact Sub.nil _ | refine Sub.cons (by repeat (first | exact List.Mem.head _ | apply List.Mem.tail)) ?_)) ?_
                rintro rv _ _ ⟨rfl, rfl⟩
                refine alloc_rule (d := I false []) fun r hr => ?_
                refine store_box (d := zd 13) 0 rfl hr rfl (by kernel_rfl) ?_ ?_; exact Reads.fact (by repeat (first | exact List.Mem.head _ | apply List.Mem.tail))
                exact again r trivial trivial (by repeat (first | exact trivial | refine ⟨rfl, ?_⟩ | refine ⟨i64_eq (by first | omega | (simp only; omega)), ?_⟩ | refine ⟨u64_eq (by first | omega | (simp only; omega)), ?_⟩)) (Seals.trans (Seals.box (d := zd 13) 0 rfl hr rfl) (Seals.sub (by repeat (first | exact Sub.nil _ | refine Sub.cons (by repeat (first | exact List.Mem.head _ | apply List.Mem.tail)) ?_))))
  rintro r -
  simp only
  refine draw_rule [0, 1, 2, 3, 4, 5, 6, 7, 8, 9, 10, 11, 12, 13, 14, 15, 16, 17, 18, 19, 20, 21, 22, 23, 24, 25, 26, 27, 28, 29] [0, 1, 2, 3, 4, 5, 6, 7, 8, 9, 10, 11, 12, 13, 14, 15, 16, 17, 18, 19, 20, 21, 22, 23, 24, 25, 26, 27, 28, 29] (by kernel_rfl) (by kernel_rfl) ?_
  refine load_box (d := zd (-2)) 1 rfl hd rfl (load_I _ _) fun y1 => ?_
  refine call_fn (rOf_meets (-2) (by decide) (by decide)) (Seals.refl _ _) (by repeat (first | exact Sub.nil _ | refine Sub.cons (by repeat (first | exact List.Mem.head _ | apply List.Mem.tail)) ?_)) ?_
  rintro y2 _ _ ⟨rfl, rfl⟩
  refine call_fn (exactW y1 y2 (-2) (-2)) (Seals.refl _ _) (by repeat (first | exact Sub.nil _ | refine Sub.cons (by repeat (first | exact List.Mem.head _ | apply List.Mem.tail)) ?_)) ?_
  rintro _ _ _ ⟨rfl, rfl, rfl⟩
  refine cmp_false rfl (by decide) ?_
  refine lit_IL [4, -2, -3, 1] rfl rfl (by decide) fun s3 => ?_
  refine call_fn (ofW s3 2 2 [4, -2, -3, 1] [[4, -2], [-3, 1]] rfl rfl (by decide) (by decide) (by decide) (by decide)) (Seals.refl _ _) (by repeat (first | exact Sub.nil _ | refine Sub.cons (by repeat (first | exact List.Mem.head _ | apply List.Mem.tail)) ?_)) ?_
  rintro m3 _ _ ⟨rfl, rfl⟩
  refine call_fn (sameW x m3 [[4, -2], [-3, 1]] [[4, -2], [-3, 1]]) (Seals.refl _ _) (by repeat (first | exact Sub.nil _ | refine Sub.cons (by repeat (first | exact List.Mem.head _ | apply List.Mem.tail)) ?_)) ?_
  rintro _ _ _ ⟨rfl, rfl, rfl⟩
  refine lit_IL [8, -9] rfl rfl (by decide) fun s4 => ?_
  refine call_fn (ofW s4 1 2 [8, -9] [[8, -9]] rfl rfl (by decide) (by decide) (by decide) (by decide)) (Seals.refl _ _) (by repeat (first | exact Sub.nil _ | refine Sub.cons (by repeat (first | exact List.Mem.head _ | apply List.Mem.tail)) ?_)) ?_
  rintro m4 _ _ ⟨rfl, rfl⟩
  refine index_fact (n := 1) (by repeat (first | exact List.Mem.head _ | apply List.Mem.tail)) 0 rfl (by decide) fun i4 => ?_
  refine load_fact (d := vd [8, -9]) (by repeat (first | exact List.Mem.head _ | apply List.Mem.tail)) (load_V _) fun p4 => ?_
  refine call_fn (exactAllW y p4 [8, -9] [8, -9]) (Seals.refl _ _) (by repeat (first | exact Sub.nil _ | refine Sub.cons (by repeat (first | exact List.Mem.head _ | apply List.Mem.tail)) ?_)) ?_
  rintro _ _ _ ⟨rfl, rfl, rfl⟩
  refine load_box (d := zd (-2)) 0 rfl hz' rfl (load_I _ _) fun y3 => ?_
  refine call_fn (rOf_meets (-2) (by decide) (by decide)) (Seals.refl _ _) (by repeat (first | exact Sub.nil _ | refine Sub.cons (by repeat (first | exact List.Mem.head _ | apply List.Mem.tail)) ?_)) ?_
  rintro y4 _ _ ⟨rfl, rfl⟩
  refine call_fn (exactW y3 y4 (-2) (-2)) (Seals.refl _ _) (by repeat (first | exact Sub.nil _ | refine Sub.cons (by repeat (first | exact List.Mem.head _ | apply List.Mem.tail)) ?_)) ?_
  rintro _ _ _ ⟨rfl, rfl, rfl⟩
  refine draw_rule [0, 1, 2, 3, 4, 5, 6, 7, 8, 9, 10, 11, 12, 13, 14, 15, 16, 17, 18, 19, 20, 21, 22, 23, 24, 25, 26, 27, 28, 29] [0, 1, 2, 3, 4, 5, 6, 7, 8, 9, 10, 11, 12, 13, 14, 15, 16, 17, 18, 19, 20, 21, 22, 23, 24, 25, 26, 27, 28, 29] (by kernel_rfl) (by kernel_rfl) ?_
  refine lit_IL [2, 1, 0, 0, 2, 1, 1, 0, 3] rfl rfl (by decide) fun s5 => ?_
  refine call_fn (ofW s5 3 3 [2, 1, 0, 0, 2, 1, 1, 0, 3] [[2, 1, 0], [0, 2, 1], [1, 0, 3]] rfl rfl (by decide) (by decide) (by decide) (by decide)) (Seals.refl _ _) (by repeat (first | exact Sub.nil _ | refine Sub.cons (by repeat (first | exact List.Mem.head _ | apply List.Mem.tail)) ?_)) ?_
  rintro m5 _ _ ⟨rfl, rfl⟩
  refine call_fn (sameW s m5 [[2, 1, 0], [0, 2, 1], [1, 0, 3]] [[2, 1, 0], [0, 2, 1], [1, 0, 3]]) (Seals.refl _ _) (by repeat (first | exact Sub.nil _ | refine Sub.cons (by repeat (first | exact List.Mem.head _ | apply List.Mem.tail)) ?_)) ?_
  rintro _ _ _ ⟨rfl, rfl, rfl⟩
  refine load_fact (d := zd 13) (by repeat (first | exact List.Mem.head _ | apply List.Mem.tail)) (load_I _ _) fun y5 => ?_
  refine call_fn (rOf_meets 13 (by decide) (by decide)) (Seals.refl _ _) (by repeat (first | exact Sub.nil _ | refine Sub.cons (by repeat (first | exact List.Mem.head _ | apply List.Mem.tail)) ?_)) ?_
  rintro y6 _ _ ⟨rfl, rfl⟩
  refine call_fn (exactW y5 y6 13 13) (Seals.refl _ _) (by repeat (first | exact Sub.nil _ | refine Sub.cons (by repeat (first | exact List.Mem.head _ | apply List.Mem.tail)) ?_)) ?_
  rintro _ _ _ ⟨rfl, rfl, rfl⟩
  refine cmp_true rfl rfl ?_
  refine cmp_true rfl rfl ?_
  refine cmp_true rfl rfl ?_
  refine cmp_true rfl rfl ?_
  refine cmp_true rfl rfl ?_
  exact fin ⟨rfl, rfl, rfl⟩ (Seals.trans (Seals.drop 0 _ _) (Seals.trans (Seals.drop 0 _ _) (Seals.nil _ _)))
end Go.Proofs.Ytajkjlgddmkkaaa

namespace Go.Proofs.Ytajkjlgddmkkaaa
open Go.RowKit
/-- Each limb of each number is one. -/
def limM (m : List Row) : Prop := ∀ r, r ∈ m → ∀ x, x ∈ r → Lim x.2
theorem small.fits {n k c : Nat} {m : List Row} (h : small n k c m) (hl : limM m) : Fits c m := fun r hr x hx => ⟨hl r hr x hx, (h.2 r hr).2 x hx⟩
theorem small.cols {n k c : Nat} {m : List Row} (h : small n k c m) : (m.getD 0 []).length ≤ k := by
  by_cases h0 : 0 < m.length
  · exact (h.2 _ (getD_mem [] h0)).1
  · simp [List.getD_eq_getElem?_getD, show m.length = 0 by omega, List.eq_nil_of_length_eq_zero (show m.length = 0 by omega)]
end Go.Proofs.Ytajkjlgddmkkaaa

namespace Go.Proofs.Ytajkjlgddmkkaaa
open Go.RowKit
/-- A list that fits. -/
def limR (r : Row) : Prop := ∀ x, x ∈ r → Lim x.2
def smallR (n c : Nat) (r : Row) : Prop := r.length ≤ n ∧ ∀ x, x ∈ r → x.2.length ≤ c
instance (n c : Nat) (r : Row) : Decidable (smallR n c r) := inferInstanceAs (Decidable (_ ∧ _))
theorem smallR.fit {n c : Nat} {r : Row} (h : smallR n c r) (hl : limR r) : Fit c r := fun x hx => ⟨hl x hx, h.2 x hx⟩
end Go.Proofs.Ytajkjlgddmkkaaa

namespace Go.Proofs.Ytajkjlgddmkkaaa
open Go.RowKit Go.ChangeShapes Go.WideShapes Go.ChangeAt Go.Deep
section
variable {H : Type} {enc : TypeId × Value → H} {w : World} {base : Nat} {spare : Nat → Bool} {held : Bool}
theorem rd_u64 {fuel : Nat} {cs : List Value} {x : DataW H × List MemPlace} (h : DataW.trod enc Try.prog w base spare held fuel 67 cs = some x) : ∃ n : Nat, n < 18446744073709551616 ∧ cs = [.int .u64 (n : Int)] := by
  obtain ⟨n, rfl, _, hw⟩ := DataW.trod_int Try.underlying67 h
  have : 0 ≤ n ∧ n < 18446744073709551616 := by
    simp [Lit.wf, IntKind.min, IntKind.max, IntKind.signed, IntKind.bits] at hw
    omega
  exact ⟨n.toNat, by omega, by rw [Int.toNat_of_nonneg this.1]⟩
/-- A slice, if each element reads. -/
theorem rd_slice {α : Type} (f : α → Dat) (z : α) (ok : α → Prop) {t e : TypeId} {size : Nat} (ht : Try.prog.underlying t = some (.slice e)) (hc : Try.prog.cellsOf e = size) (hs : 0 < size)
    (el : ∀ n cs x, cs.length = size → DataW.trod enc Try.prog w base spare held n e cs = some x → ∃ a, ok a ∧ RdC (fun b => b < w.heap.size) w (f a) cs)
    {fuel : Nat} {cs : List Value} {x : DataW H × List MemPlace} (h : DataW.trod enc Try.prog w base spare held fuel t cs = some x) :
    ∃ l : List α, (∀ a, a ∈ l → ok a) ∧ RdC (fun b => b < w.heap.size) w (LD size f z l) cs := by
  rcases open_slice ht h with ⟨rfl, _⟩ | ⟨a, len, cap, m, n, D, Pl, rfl, hb, hl, hm, hmm, _, hx⟩
  · exact ⟨[], (fun _ h => by simp at h), rd_nil _ _ _ _⟩
  · have hle : len ≤ m := by rw [hmm]; split <;> omega
    rw [hc] at hx
    have hspot : 0 < len → a.spot = none := fun h0 => by
      obtain ⟨cs', h1, h2⟩ := hx 0 (by omega)
      obtain ⟨_, hlen, hcell⟩ := World.cells?_some h1
      have h0 := hcell 0 hs
      rw [List.getElem?_eq_getElem (by omega)] at h0
      have := World.cell?_spot h0
      simpa [Addr.add] using this
    have hel : ∀ i, ∃ y : α, i < len → ok y ∧ ∃ cs', RdC (fun b => b < w.heap.size) w (f y) cs' ∧ cs'.length = size ∧ a.spot = none ∧ CellsAt (fun b => b < w.heap.size) w a.block (a.off + i * size) cs' := by
      intro i
      by_cases hi : i < len
      · obtain ⟨cs', h1, h2⟩ := hx i (by omega)
        obtain ⟨_, hlen, hcell⟩ := World.cells?_some h1
        obtain ⟨y, hy1, hy2⟩ := el n cs' _ hlen h2
        have hsp := hspot (by omega)
        refine ⟨y, fun _ => ⟨hy1, cs', hy2, hlen, hsp, fun j hj => ?_⟩⟩
        have h0 := hcell j (by omega)
        have ha : (a.add (i * size)).add j = ⟨a.block, a.off + i * size + j, none⟩ := by
          obtain ⟨b, o, s⟩ := a
          simp only at hsp
          subst hsp
          rw [add_none, add_none]
        rw [ha] at h0
        refine ⟨?_, h0⟩
        rw [List.getElem?_eq_getElem hj] at h0
        unfold World.cell? at h0
        simp only at h0
        split at h0
        · rename_i heq
          exact (Array.getElem?_eq_some_iff.1 heq).1
        · simp at h0
      · exact ⟨z, fun h => absurd h hi⟩
    have hch := fun i => Classical.choose_spec (hel i)
    let g : Nat → α := fun i => Classical.choose (hel i)
    have hg : ∀ i, i < len → ((List.range len).map g).getD i z = g i := fun i hi => by simp [List.getD_eq_getElem?_getD, hi]
    refine ⟨(List.range len).map g, fun y hy => ?_, ?_⟩
    · obtain ⟨i, hi, rfl⟩ := List.mem_map.1 hy
      exact (hch i (List.mem_range.1 hi)).1
    · unfold LD
      rw [List.length_map, List.length_range]
      refine ⟨some a, cap, rfl, hl, hm, fun h => by simp at h, fun b hb' hpos => ?_, fun i hi => ?_⟩
      · simp only [Option.some.injEq] at hb'
        subst hb'
        obtain ⟨_, _, _, _, hsp, _⟩ := hch 0 hpos
        exact hsp
      · obtain ⟨_, cs', q1, q2, _, q3⟩ := hch i hi
        refine ⟨a, cs', rfl, ?_, q2, q3⟩
        show RdC _ _ (f (((List.range len).map g).getD i z)) cs'
        rw [hg i hi]; exact q1
theorem rd_limbs {fuel : Nat} {cs : List Value} {x : DataW H × List MemPlace} (h : DataW.trod enc Try.prog w base spare held fuel 26 cs = some x) : ∃ l : List Nat, Lim l ∧ RdC (fun b => b < w.heap.size) w (U l) cs := by
  obtain ⟨l, h1, h2⟩ := rd_slice (size := 1) (fun n : Nat => .one (.int .u64 (n : Int))) 0 (fun n => n < 18446744073709551616) Try.underlying26 (by kernel_rfl) (by decide) (fun n cs x _ h => by
    obtain ⟨n, hn, rfl⟩ := rd_u64 h
    exact ⟨n, hn, rfl, rfl⟩) h
  exact ⟨l, h1, h2⟩
theorem rd_int2 {P : Program} {t tb tl : TypeId} {f0 f1 : Field} (ht : P.underlying t = some (.struct #[f0, f1])) (h0t : f0.type = tb) (h0o : f0.offset = 0) (h1t : f1.type = tl) (h1o : f1.offset = 1)
    (cb : P.cellsOf tb = 1) (cl : P.cellsOf tl = 1) (hb : P.underlying tb = some .bool) (el : ∀ (n : Nat) (cs : List Value) (x : DataW H × List MemPlace), DataW.trod enc P w base spare held n tl cs = some x → ∃ l : List Nat, Lim l ∧ RdC (fun b => b < w.heap.size) w (U l) cs)
    {fuel : Nat} {cs : List Value} {x : DataW H × List MemPlace} (hl : cs.length = 2) (h : DataW.trod enc P w base spare held fuel t cs = some x) : ∃ y : Bool × List Nat, Lim y.2 ∧ RdC (fun b => b < w.heap.size) w (J y) cs := by
  obtain ⟨y0, y1, n, _, hlen, h0, h1⟩ := trod_struct2 ht h
  rw [h0t, h0o, cb] at h0
  rw [h1t, h1o, cl] at h1
  match cs, hl with
  | [c0, c1], _ =>
    obtain ⟨s, hs, _⟩ := DataW.trod_bool hb h0
    obtain ⟨l, hl1, hl2⟩ := el _ _ _ h1
    have hc0 : c0 = .bool s := by simpa using hs
    subst hc0
    exact ⟨(s, l), hl1, [.bool s], [c1], rfl, ⟨rfl, rfl⟩, hl2⟩
theorem rd_int {fuel : Nat} {cs : List Value} {x : DataW H × List MemPlace} (hl : cs.length = 2) (h : DataW.trod enc Try.prog w base spare held fuel 28 cs = some x) : ∃ y : Bool × List Nat, Lim y.2 ∧ RdC (fun b => b < w.heap.size) w (J y) cs :=
  rd_int2 Try.underlying28 rfl rfl rfl rfl (tb := 4) (tl := 26) (by kernel_rfl) (by kernel_rfl) Try.underlying4 (fun _ _ _ h => rd_limbs h) hl h
theorem rd_poly {fuel : Nat} {cs : List Value} {x : DataW H × List MemPlace} (h : DataW.trod enc Try.prog w base spare held fuel 46 cs = some x) : ∃ r : Row, (∀ y, y ∈ r → Lim y.2) ∧ RdC (fun b => b < w.heap.size) w (V r) cs := by
  obtain ⟨l, h1, h2⟩ := rd_slice (size := 2) J z0 (fun y => Lim y.2) Try.underlying46 (by kernel_rfl) (by decide) (fun n cs x hl h => rd_int hl h) h
  exact ⟨l, h1, h2⟩
end
theorem rd_val {S : Nat → Prop} {w : World} {a : Option Addr} {n c : Nat} {d : Dat} (hd : d.flat = true) (h : RdC S w d (Value.slice a n c).cells.toList) : Rd S w (.slice a n c) d := by
  refine ⟨_, h, ?_⟩
  obtain ⟨v, h1, _, h3⟩ := RdC.single hd h
  rw [h3]
  simpa [Value.cells] using h1
theorem rd_arg2 {P : Program} {t : TypeId} {fs : Array Field} {H : Type} {enc : TypeId × Value → H} {w : World} {r : Reach} {base base' : Nat} {spare : Nat → Bool} {held : Bool} {v : Value} {d : DataW H} {p : List MemPlace} (ht : P.underlying t = some (.struct fs)) (hc : P.cellsOf t = 2)
    (el : ∀ (n : Nat) (cs : List Value) (x : DataW H × List MemPlace), cs.length = 2 → DataW.trod enc P w base spare held n t cs = some x → ∃ y : Bool × List Nat, Lim y.2 ∧ RdC (fun b => b < w.heap.size) w (J y) cs)
    (hv : Value.okWide P w r base' t v) (h : DataW.Trod enc P w base spare held t v d p) : ∃ m : Bool × List Nat, Lim m.2 ∧ Rd (fun b => b < w.heap.size) w v (J m) := by
  obtain ⟨cs, rfl, hsz⟩ := okWide_struct ht hv
  obtain ⟨fuel, hf⟩ := h
  have hcs : (Value.agg cs).cells.toList = cs.toList := by simp [Value.cells]
  rw [hcs] at hf
  obtain ⟨y, h1, h2⟩ := el _ _ _ (by simpa using hsz.trans hc) hf
  exact ⟨y, h1, cs.toList, h2, by unfold J I pack; simp⟩
set_option maxRecDepth 100000 in
/-- A whole number that is handed in. -/
theorem rd_arg {H : Type} {enc : TypeId × Value → H} {w : World} {r : Reach} {base base' : Nat} {spare : Nat → Bool} {held : Bool} {v : Value} {d : DataW H} {p : List MemPlace} (hv : Value.okWide Try.prog w r base' 28 v)
    (h : DataW.Trod enc Try.prog w base spare held 28 v d p) : ∃ m : Bool × List Nat, Lim m.2 ∧ Rd (fun b => b < w.heap.size) w v (J m) :=
  have hc : Try.prog.cellsOf 28 = 2 := by kernel_rfl
  have el : ∀ (n : Nat) (cs : List Value) (x : DataW H × List MemPlace), cs.length = 2 → DataW.trod enc Try.prog w base spare held n 28 cs = some x → ∃ y : Bool × List Nat, Lim y.2 ∧ RdC (fun b => b < w.heap.size) w (J y) cs := fun _ _ _ hl h => rd_int hl h
  rd_arg2 (P := Try.prog) (t := 28) (v := v) (r := r) (base := base) (base' := base') Try.underlying28 hc el hv h
theorem calls_of_meets {g : FuncId} {args : List Value} {fs : List Fact} {w : World} (h : Meets Try.prog g args fs (fun r os fs' => os = [] ∧ fs' = [] ∧ r = .bool true)) (hf : HF (fun b => b < w.heap.size) w fs) :
    Calls Try.prog g args.toArray w fun e w' => e = .returned (.bool true) ∧ Below w.heap.size w w' := by
  refine (h.calls (fun _ => False) w (fun _ h => h.elim) (hf.mono (fun _ _ => rfl) fun b hb => ⟨hb, id⟩)).mono ?_
  rintro e w' ⟨v, os', fs', rfl, ⟨rfl, rfl, rfl⟩, hh⟩
  exact ⟨rfl, hh.below⟩
theorem own0 : ownKnob Try.prog.godebug = none := by kernel_rfl
theorem laid0 : laidOutB Try.prog = true := by kernel_rfl
end Go.Proofs.Ytajkjlgddmkkaaa

namespace Go.Proofs.Ytajkjlgddmkkaaa
open Go.RowKit
theorem index_vd {P : Program} {t e : TypeId} {v : Value} {l : List Int} {k : IntKind} {i : Int} {os : List Own} {fs : List Fact} {K : Cont} [ht : TSl P t e 2] (hm : (v, vd l) ∈ fs) (j : Nat) (hj : i = (j : Int)) (hlt : j < l.length)
    (k' : ∀ p, K p os ((p, .ptr (zd (l.getD j 0))) :: fs)) : IndexAddrK P t v (.int k i) os fs K :=
  index_fact hm j hj (by rw [List.length_map]; exact hlt) fun p => by
    have := k' p
    rw [map_cn_get hlt]; exact this
theorem len_vd {P : Program} {t e ty : TypeId} {v : Value} {l : List Int} {os : List Own} {fs : List Fact} {K : Cont} [ht : TSl P t e 2] (hm : (v, vd l) ∈ fs) (k : K (.int .i64 l.length) os fs) : LenK P [t] ty v os fs K :=
  len_fact hm fun _ => by rw [List.length_map]; exact k
theorem rMulZJ (v w : Value) (x : Int) (y : Bool × List Nat) (e : Nat) (hx : sz x e) (he : e ≤ 137438953472) (hy : Lim y.2) (ly : y.2.length ≤ 137438953472) :
    Meets Try.prog 33 [v, w] [(v, zd x), (w, J y)] (fun r os fs => os = [] ∧ fs = [(r, zd (x * jv y))]) := by
  have h := rZMul_meets v w (decide (x < 0)) y.1 (lims x.natAbs) y.2 (Lim_lims _) hy (Nat.le_trans hx.len he) ly
  rw [iv_zd] at h
  exact h
theorem rSignZ (v : Value) (x : Int) (e : Nat) (hx : sz x e) (he : e ≤ 1099511627776) :
    Meets Try.prog 36 [v] [(v, zd x)] (fun r os fs => os = [] ∧ fs = [] ∧ r = .int .i64 x.sign) := by
  have h := rSign_meets v (decide (x < 0)) (lims x.natAbs) (Lim_lims _) (Nat.le_trans hx.len he)
  rw [iv_zd] at h
  exact h
end Go.Proofs.Ytajkjlgddmkkaaa

namespace Go.Proofs.Ytajkjlgddmkkaaa
open Go.RowKit
end Go.Proofs.Ytajkjlgddmkkaaa

namespace Go.Proofs.Ytajkjlgddmkkaaa
open Go.RowKit
end Go.Proofs.Ytajkjlgddmkkaaa

namespace Go.Proofs.Ytajkjlgddmkkaaa
/-- The value at x. -/
def pev : List Int → Int → Int
  | [], _ => 0
  | c :: l, x => c + x * pev l x
/-- Without noughts on top. -/
def nrm : List Int → List Int
  | [] => []
  | c :: l => match nrm l with
    | [] => if c = 0 then [] else [c]
    | d :: m => c :: d :: m
theorem nrm_cons (c : Int) (l : List Int) : nrm (c :: l) = if nrm l = [] ∧ c = 0 then [] else c :: nrm l := by
  rw [nrm]
  cases h : nrm l with
  | nil => by_cases hc : c = 0 <;> simp [hc]
  | cons d m => simp
theorem nrm_nrm (l : List Int) : nrm (nrm l) = nrm l := by
  induction l with
  | nil => rfl
  | cons c l ih =>
    rw [nrm_cons]
    by_cases h : nrm l = [] ∧ c = 0
    · rw [if_pos h]; rfl
    · rw [if_neg h, nrm_cons, ih, if_neg h]
theorem ev_nrm (l : List Int) (x : Int) : pev (nrm l) x = pev l x := by
  induction l with
  | nil => rfl
  | cons c l ih =>
    rw [nrm_cons]
    by_cases h : nrm l = [] ∧ c = 0
    · rw [if_pos h, h.2]
      rw [h.1] at ih
      simp only [pev] at ih ⊢
      rw [← ih]; simp
    · rw [if_neg h]; simp only [pev]; rw [ih]
theorem co_nrm (l : List Int) (i : Nat) : (nrm l).getD i 0 = l.getD i 0 := by
  induction l generalizing i with
  | nil => rfl
  | cons c l ih =>
    rw [nrm_cons]
    by_cases h : nrm l = [] ∧ c = 0
    · rw [if_pos h]
      cases i with
      | zero => simp [h.2]
      | succ i => rw [List.getD_cons_succ, ← ih i, h.1]; simp
    · rw [if_neg h]
      cases i with
      | zero => rfl
      | succ i => rw [List.getD_cons_succ, List.getD_cons_succ, ih]
theorem nrm_length_le (l : List Int) : (nrm l).length ≤ l.length := by
  induction l with
  | nil => exact Nat.le_refl _
  | cons c l ih =>
    rw [nrm_cons]
    split
    · simp
    · simp only [List.length_cons]; omega
/-- The last number is not a nought. -/
theorem nrm_last (l : List Int) (h : 0 < (nrm l).length) : (nrm l).getD ((nrm l).length - 1) 0 ≠ 0 := by
  induction l with
  | nil => simp [nrm] at h
  | cons c l ih =>
    rw [nrm_cons] at h ⊢
    by_cases hc : nrm l = [] ∧ c = 0
    · rw [if_pos hc] at h; simp at h
    · rw [if_neg hc] at h ⊢
      cases e : nrm l with
      | nil =>
        have : c ≠ 0 := fun h0 => hc ⟨e, h0⟩
        simpa using this
      | cons d m =>
        have := ih (by rw [e]; simp)
        rw [e] at this
        simpa using this
theorem nrm_of_last {l : List Int} (h : l = [] ∨ l.getD (l.length - 1) 0 ≠ 0) : nrm l = l := by
  induction l with
  | nil => rfl
  | cons c l ih =>
    rcases h with h | h
    · simp at h
    · rw [nrm_cons]
      cases l with
      | nil =>
        have : c ≠ 0 := by simpa using h
        simp [nrm, this]
      | cons d m =>
        have h' : (d :: m).getD ((d :: m).length - 1) 0 ≠ 0 := by simpa using h
        rw [ih (.inr h')]
        simp
/-- Lists of the same numbers, but for noughts on top. -/
theorem nrm_ext : ∀ {l m : List Int}, (∀ i, l.getD i 0 = m.getD i 0) → nrm l = nrm m
  | [], [], _ => rfl
  | [], d :: m, h => by
    have h0 : d = 0 := by have := h 0; simpa using this.symm
    have h1 := nrm_ext (l := []) (m := m) fun i => by have := h (i + 1); simpa using this
    rw [nrm_cons, ← h1, if_pos ⟨rfl, h0⟩]; rfl
  | c :: l, [], h => by
    have h0 : c = 0 := by have := h 0; simpa using this
    have h1 := nrm_ext (l := l) (m := []) fun i => by have := h (i + 1); simpa using this
    rw [nrm_cons, h1, if_pos ⟨rfl, h0⟩]; rfl
  | c :: l, d :: m, h => by
    have h0 : c = d := by have := h 0; simpa using this
    have h1 := nrm_ext (l := l) (m := m) fun i => by have := h (i + 1); simpa using this
    rw [nrm_cons, nrm_cons, h1, h0]
theorem small_dvd {c k x : Int} (h : c = x * k) (hx : c.natAbs < x.natAbs) : c = 0 := by
  by_cases hk : k = 0
  · rw [h, hk, Int.mul_zero]
  · exfalso
    have h1 : c.natAbs = x.natAbs * k.natAbs := by rw [h, Int.natAbs_mul]
    have h2 : 1 ≤ k.natAbs := by omega
    have h3 : x.natAbs * 1 ≤ x.natAbs * k.natAbs := Nat.mul_le_mul_left _ h2
    omega
/-- Polynomials that have one value at all great numbers are one. -/
theorem ev_ext_great : ∀ {l m : List Int} (N : Nat), (∀ x : Int, (N : Int) ≤ x → pev l x = pev m x) → nrm l = nrm m
  | [], [], _, _ => rfl
  | [], d :: m, N, h => by
    have h0 : d = 0 := by
      have := h (N + d.natAbs + 1) (by omega)
      simp only [pev] at this
      refine small_dvd (x := (N : Int) + d.natAbs + 1) (k := - pev m ((N : Int) + d.natAbs + 1)) ?_ (by omega)
      rw [Int.mul_neg]; omega
    have h1 := ev_ext_great (l := []) (m := m) (N + 1) fun x hx => by
      have := h x (by omega)
      simp only [pev, h0] at this ⊢
      have : x * pev m x = 0 := by omega
      rcases Int.mul_eq_zero.1 this with h2 | h2
      · omega
      · exact h2.symm
    rw [nrm_cons, ← h1, if_pos ⟨rfl, h0⟩]; rfl
  | c :: l, [], N, h => by
    have h0 : c = 0 := by
      have := h (N + c.natAbs + 1) (by omega)
      simp only [pev] at this
      refine small_dvd (x := (N : Int) + c.natAbs + 1) (k := - pev l ((N : Int) + c.natAbs + 1)) ?_ (by omega)
      rw [Int.mul_neg]; omega
    have h1 := ev_ext_great (l := l) (m := []) (N + 1) fun x hx => by
      have := h x (by omega)
      simp only [pev, h0] at this ⊢
      have : x * pev l x = 0 := by omega
      rcases Int.mul_eq_zero.1 this with h2 | h2
      · omega
      · exact h2
    rw [nrm_cons, h1, if_pos ⟨rfl, h0⟩]; rfl
  | c :: l, d :: m, N, h => by
    have h0 : c - d = 0 := by
      have := h (N + (c - d).natAbs + 1) (by omega)
      simp only [pev] at this
      refine small_dvd (x := (N : Int) + (c - d).natAbs + 1) (k := pev m ((N : Int) + (c - d).natAbs + 1) - pev l ((N : Int) + (c - d).natAbs + 1)) ?_ (by omega)
      rw [Int.mul_sub]; omega
    have h1 := ev_ext_great (l := l) (m := m) (N + 1) fun x hx => by
      have := h x (by omega)
      simp only [pev] at this
      have h2 : x * (pev l x - pev m x) = 0 := by rw [Int.mul_sub]; omega
      rcases Int.mul_eq_zero.1 h2 with h3 | h3 <;> omega
    rw [nrm_cons, nrm_cons, h1, show c = d by omega]
theorem ev_ext {l m : List Int} (h : ∀ x, pev l x = pev m x) : nrm l = nrm m := ev_ext_great 0 fun x _ => h x
theorem ev_of_nrm {l m : List Int} (h : nrm l = nrm m) (x : Int) : pev l x = pev m x := by rw [← ev_nrm l, h, ev_nrm]
theorem ev_append (l m : List Int) (x : Int) : pev (l ++ m) x = pev l x + x ^ l.length * pev m x := by
  induction l with
  | nil => simp [pev]
  | cons c l ih => simp only [List.cons_append, pev, ih, List.length_cons, Int.pow_succ]; grind
theorem ev_map_mul (c : Int) (l : List Int) (x : Int) : pev (l.map fun y => c * y) x = c * pev l x := by
  induction l with
  | nil => simp [pev]
  | cons d l ih => simp only [List.map_cons, pev, ih]; grind
theorem ev_replicate (n : Nat) (x : Int) : pev (List.replicate n 0) x = 0 := by
  induction n with
  | zero => rfl
  | succ n ih => rw [List.replicate_succ, pev, ih]; simp
theorem ev_take_succ {l : List Int} {i : Nat} (h : i < l.length) (x : Int) : pev (l.take (i + 1)) x = pev (l.take i) x + x ^ i * l.getD i 0 := by
  have e : l.take (i + 1) = l.take i ++ [l.getD i 0] := by rw [List.take_add_one]; simp [List.getD_eq_getElem?_getD, h]
  rw [e, ev_append, List.length_take, Nat.min_eq_left (Nat.le_of_lt h)]
  simp [pev]
/-- The degree is less than n. -/
theorem ev_getD {l : List Int} {n : Nat} (h : l.length ≤ n) (x : Int) : pev ((List.range n).map fun i => l.getD i 0) x = pev l x := by
  have : nrm ((List.range n).map fun i => l.getD i 0) = nrm l := nrm_ext fun i => by
    by_cases hi : i < n
    · simp [List.getD_eq_getElem?_getD, hi]
    · have : l.length ≤ i := by omega
      simp [List.getD_eq_getElem?_getD, hi, this]
  exact ev_of_nrm this x
end Go.Proofs.Ytajkjlgddmkkaaa

namespace Go.Proofs.Ytajkjlgddmkkaaa
open Go.RowKit
/-- An answer that is looked at in another way. -/
theorem Meets.closed {P : Program} {g : FuncId} {args : List Value} {fs : List Fact} {R R' : Value → List Own → List Fact → Prop} (h : Meets P g args fs R)
    (hr : ∀ v os fs, R v os fs → ∃ os' fs', R' v os' fs' ∧ Seals os fs os' fs') : Meets P g args fs R' := by
  refine ⟨h.enter, fun A w hA hf => (h.calls A w hA hf).mono ?_⟩
  rintro e w' ⟨v, os', fs', he, hv, hh⟩
  obtain ⟨os2, fs2, h2, hs⟩ := hr v os' fs' hv
  exact ⟨v, os2, fs2, he, h2, hs _ _ hh⟩
theorem nrm_take {l : List Int} {n : Nat} (hn : n ≤ l.length) (hz : ∀ j, n ≤ j → l.getD j 0 = 0) (h : n = 0 ∨ l.getD (n - 1) 0 ≠ 0) : nrm l = l.take n := by
  have e : nrm l = nrm (l.take n) := nrm_ext fun i => by
    by_cases hi : i < n
    · simp [List.getD_eq_getElem?_getD, List.getElem?_take_of_lt hi]
    · rw [hz i (by omega)]
      have : (l.take n).length ≤ i := by rw [List.length_take]; omega
      rw [List.getD_eq_getElem?_getD, List.getElem?_eq_none this]; rfl
  rw [e]
  refine nrm_of_last ?_
  have hl : (l.take n).length = n := by rw [List.length_take]; omega
  rcases h with h | h
  · left; rw [h]; rfl
  · by_cases h0 : n = 0
    · left; rw [h0]; rfl
    · right
      rw [hl]
      simpa [List.getD_eq_getElem?_getD, List.getElem?_take_of_lt (show n - 1 < n by omega)] using h
theorem take_range (l : List Int) {n : Nat} (h : n ≤ l.length) : l.take n = (List.range n).map fun i => l.getD i 0 := by
  refine ext_getD' (by rw [List.length_take]; simp; omega) fun i hi => ?_
  rw [List.length_take] at hi
  have : i < n := by omega
  simp [List.getD_eq_getElem?_getD, List.getElem?_take_of_lt this, this]
where
  ext_getD' {l m : List Int} (hl : l.length = m.length) (h : ∀ i, i < l.length → l.getD i 0 = m.getD i 0) : l = m := row_eq_of_getD 0 hl h
/-- A told list of one's own becomes a fact. -/
theorem Seals.told {v : Value} {n : Nat} {g : Nat → Int} {e : Nat → Dat} {os : List Own} {fs : List Fact} (hv : isSl v) (he : ∀ i, i < n → e i = zd (g i)) :
    Seals (own1 v 2 n e :: os) fs os ((v, vd ((List.range n).map g)) :: fs) :=
  Seals.trans (Seals.slice (os := own1 v 2 n e :: os) 0 (fun i => J ((((List.range n).map g).map cn).getD i z0)) rfl hv fun i hi => by rw [he i hi, range_cn g hi]; rfl)
    (Seals.cons (Knw.vd_of (Knw.fact (List.Mem.head _))) (Seals.sub fun _ hF => .tail _ hF))
theorem Seals.toldL {v : Value} {l : List Int} {os : List Own} {fs : List Fact} (hv : isSl v) : Seals (ownL 2 J z0 v (l.map cn) :: os) fs os ((v, vd l) :: fs) := Seals.L (os := ownL 2 J z0 v (l.map cn) :: os) 0 rfl hv
theorem own_range {v : Value} {n : Nat} {g : Nat → Int} {e : Nat → Dat} {os : List Own} {fs : List Fact} (he : ∀ i, i < n → e i = zd (g i)) :
    Seals (own1 v 2 n e :: os) fs (ownL 2 J z0 v (((List.range n).map g).map cn) :: os) fs := by
  have h := Seals.own_cong (os := own1 v 2 n e :: os) (fs := fs) 0 (n' := (((List.range n).map g).map cn).length) (fun i => J ((((List.range n).map g).map cn).getD i z0)) rfl (by simp) fun i hi => by rw [he i hi, range_cn g hi]; rfl
  exact h
theorem zero_zd : I false [] = zd 0 := zd_zero.symm
theorem upd_if {g : Nat → Int} {i : Nat} (y : Nat) : upd (fun y => if y < i then zd (g y) else I false []) i (zd (g i)) y = if y < i + 1 then zd (g y) else I false [] := by
  unfold upd
  by_cases hy : y = i
  · subst hy
    rw [if_pos rfl, if_pos (by omega)]
  · by_cases hy2 : y < i
    · rw [if_neg hy, if_pos (show y < i + 1 by omega)]; exact if_pos hy2
    · rw [if_neg hy, if_neg (show ¬ y < i + 1 by omega)]; exact if_neg hy2
theorem pNormO_meets (v : Value) (p : Row) (hp : Fit 137438953472 p) (lp : p.length ≤ 1099511627776) :
    Meets Try.prog 83 [v] [(v, V p)] (fun r os fs => isSl r ∧ os = [ownL 2 J z0 r ((nrm (vv p)).map cn)] ∧ fs = []) := by
  refine meets_of_vc Try.func83 (by kernel_rfl) rfl (by kernel_rfl) (Nat.le_of_ble_eq_true rfl) ?_
  refine len_fact (by repeat (first | exact List.Mem.head _ | apply List.Mem.tail)) fun _ => ?_
  refine loop_rule (X := Nat) (fun n => ([(0, v), (3, .int .i64 (n : Nat))], [], [(v, V p)])) (fun n => n ≤ p.length ∧ ∀ j, n ≤ j → j < p.length → (vv p).getD j 0 = 0) (fun n => n) rfl ?_ ?_
  · exact again p.length ⟨Nat.le_refl _, fun j h1 h2 => by omega⟩ trivial (by repeat (first | exact trivial | refine ⟨rfl, ?_⟩ | refine ⟨i64_eq (by first | omega | (simp only; omega)), ?_⟩ | refine ⟨u64_eq (by first | omega | (simp only; omega)), ?_⟩)) (Seals.sub (by repeat (first | exact Sub.nil _ | refine Sub.cons (by repeat (first | exact List.Mem.head _ | apply List.Mem.tail)) ?_)))
  · rintro n ⟨h1, h2⟩
    have fin' : (n = 0 ∨ (vv p).getD (n - 1) 0 ≠ 0) → nrm (vv p) = (List.range n).map fun i => (vv p).getD i 0 := fun h => by
      rw [nrm_take (by rw [vv_len]; exact h1) (fun j hj => ?_) h, take_range _ (by rw [vv_len]; exact h1)]
      by_cases e : j < p.length
      · exact h2 j hj e
      · rw [List.getD_eq_getElem?_getD, List.getElem?_eq_none (by rw [vv_len]; omega)]; rfl
    refine cmp_split _ rfl (fun hn => ?_) (fun hn => ?_)
    · have hn' : n - 1 < p.length := by omega
      have hg := vv_get p (n - 1) hn'
      refine ar rfl (by first | exact ⟨by omega, by omega⟩ | (simp only [inK]; omega)) ?_
      refine index_fact (by repeat (first | exact List.Mem.head _ | apply List.Mem.tail)) (n - 1) (by omega) hn' fun a1 => ?_
      refine load_fact (d := J (p.getD (n - 1) z0)) (by repeat (first | exact List.Mem.head _ | apply List.Mem.tail)) (load_J _) fun x1 => ?_
      refine call_fn (zsign_meets x1 (p.getD (n - 1) z0).1 (p.getD (n - 1) z0).2 (hp.get _).1 (hp.get _).2) (Seals.refl _ _) (by repeat (first | exact Sub.nil _ | refine Sub.cons (by repeat (first | exact List.Mem.head _ | apply List.Mem.tail)) ?_)) ?_
      rintro _ _ _ ⟨rfl, rfl, rfl⟩
      refine cmp_split _ rfl (fun hz => ?_) (fun hz => ?_)
      · refine ar rfl (by first | exact ⟨by omega, by omega⟩ | (simp only [inK]; omega)) ?_
        refine again (n - 1) ⟨by omega, fun j h3 h4 => ?_⟩ (by simp only; omega) (by repeat (first | exact trivial | refine ⟨rfl, ?_⟩ | refine ⟨i64_eq (by first | omega | (simp only; omega)), ?_⟩ | refine ⟨u64_eq (by first | omega | (simp only; omega)), ?_⟩)) (Seals.sub (by repeat (first | exact Sub.nil _ | refine Sub.cons (by repeat (first | exact List.Mem.head _ | apply List.Mem.tail)) ?_)))
        by_cases e : j = n - 1
        · rw [e, hg]; exact Int.sign_eq_zero_iff_zero.1 hz
        · exact h2 j (by omega) h4
      · have hfin := fin' (.inr (by rw [hg]; exact fun e => hz (Int.sign_eq_zero_iff_zero.2 e)))
        refine make_rule (t := 46) (d := I false []) n rfl rfl (by omega) (by omega) fun u hu => ?_
        refine loop_rule (X := Nat) (fun i => ([(0, v), (3, .int .i64 (n : Nat)), (4, u), (23, .int .i64 (n : Nat)), (24, .int .i64 (i : Nat))], [own1 u 2 n (fun y => if y < i then zd ((vv p).getD y 0) else I false [])], [(v, V p)])) (fun i => i ≤ n) (fun i => n - i) rfl ?_ ?_
        · exact again 0 (Nat.zero_le _) trivial (by repeat (first | exact trivial | refine ⟨rfl, ?_⟩ | refine ⟨i64_eq (by first | omega | (simp only; omega)), ?_⟩ | refine ⟨u64_eq (by first | omega | (simp only; omega)), ?_⟩)) (Seals.trans (Seals.own_cong (os := [_]) 0 _ rfl rfl fun y _ => (if_neg (Nat.not_lt_zero _)).symm) (Seals.sub (by repeat (first | exact Sub.nil _ | refine Sub.cons (by repeat (first | exact List.Mem.head _ | apply List.Mem.tail)) ?_))))
        · rintro i hi
          refine cmp_split _ rfl (fun hlt => ?_) (fun hlt => ?_)
          · have hin : i < n := by omega
            have hpi := hp.get i
            have hgi := vv_get p i (by omega)
            refine index_fact (n := p.length) (by repeat (first | exact List.Mem.head _ | apply List.Mem.tail)) i rfl (by omega) fun b1 => ?_
            refine load_fact (d := J (p.getD i z0)) (by repeat (first | exact List.Mem.head _ | apply List.Mem.tail)) (load_J _) fun y1 => ?_
            have hnm := znorm_meets y1 (p.getD i z0).1 (p.getD i z0).2 hpi.1 (by omega)
            rw [show iv (p.getD i z0).1 (p.getD i z0).2 = (vv p).getD i 0 from hgi.symm] at hnm
            refine call_fn hnm (Seals.refl _ _) (by repeat (first | exact Sub.nil _ | refine Sub.cons (by repeat (first | exact List.Mem.head _ | apply List.Mem.tail)) ?_)) ?_
            rintro y2 _ _ ⟨rfl, rfl⟩
            refine index_elem 0 rfl hu i rfl hin ?_
            refine StoreK.post (store_elem (d := zd ((vv p).getD i 0)) 0 rfl i hin rfl (by kernel_rfl) (Reads.fact (by repeat (first | exact List.Mem.head _ | apply List.Mem.tail))) ⟨_, _, Seals.own_cong (os := [_]) 0 (fun y => if y < i + 1 then zd ((vv p).getD y 0) else I false []) rfl rfl (fun y _ => upd_if y), ?_⟩)
            refine ar rfl (by first | exact ⟨by omega, by omega⟩ | (simp only [inK]; omega)) ?_
            exact again (i + 1) (by omega) (by simp only; omega) (by repeat (first | exact trivial | refine ⟨rfl, ?_⟩ | refine ⟨i64_eq (by first | omega | (simp only; omega)), ?_⟩ | refine ⟨u64_eq (by first | omega | (simp only; omega)), ?_⟩)) (Seals.sub (by repeat (first | exact Sub.nil _ | refine Sub.cons (by repeat (first | exact List.Mem.head _ | apply List.Mem.tail)) ?_)))
          · refine fin ⟨hu, rfl, rfl⟩ (Seals.trans (own_range (g := fun i => (vv p).getD i 0) fun y hy => if_pos (by omega)) ?_)
            rw [hfin]
            exact Seals.nil _ _
    · have hfin := fin' (.inl (by omega))
      refine make_rule (t := 46) (d := I false []) n rfl rfl (by omega) (by omega) fun u hu => ?_
      refine loop_rule (X := Nat) (fun i => ([(0, v), (3, .int .i64 (n : Nat)), (4, u), (23, .int .i64 (n : Nat)), (24, .int .i64 (i : Nat))], [own1 u 2 n (fun y => if y < i then zd ((vv p).getD y 0) else I false [])], [(v, V p)])) (fun i => i ≤ n) (fun i => n - i) rfl ?_ ?_
      · exact again 0 (Nat.zero_le _) trivial (by repeat (first | exact trivial | refine ⟨rfl, ?_⟩ | refine ⟨i64_eq (by first | omega | (simp only; omega)), ?_⟩ | refine ⟨u64_eq (by first | omega | (simp only; omega)), ?_⟩)) (Seals.trans (Seals.own_cong (os := [_]) 0 _ rfl rfl fun y _ => (if_neg (Nat.not_lt_zero _)).symm) (Seals.sub (by repeat (first | exact Sub.nil _ | refine Sub.cons (by repeat (first | exact List.Mem.head _ | apply List.Mem.tail)) ?_))))
      · rintro i hi
        refine cmp_split _ rfl (fun hlt => ?_) (fun hlt => ?_)
        · have hin : i < n := by omega
          have hpi := hp.get i
          have hgi := vv_get p i (by omega)
          refine index_fact (n := p.length) (by repeat (first | exact List.Mem.head _ | apply List.Mem.tail)) i rfl (by omega) fun b1 => ?_
          refine load_fact (d := J (p.getD i z0)) (by repeat (first | exact List.Mem.head _ | apply List.Mem.tail)) (load_J _) fun y1 => ?_
          have hnm := znorm_meets y1 (p.getD i z0).1 (p.getD i z0).2 hpi.1 (by omega)
          rw [show iv (p.getD i z0).1 (p.getD i z0).2 = (vv p).getD i 0 from hgi.symm] at hnm
          refine call_fn hnm (Seals.refl _ _) (by repeat (first | exact Sub.nil _ | refine Sub.cons (by repeat (first | exact List.Mem.head _ | apply List.Mem.tail)) ?_)) ?_
          rintro y2 _ _ ⟨rfl, rfl⟩
          refine index_elem 0 rfl hu i rfl hin ?_
          refine StoreK.post (store_elem (d := zd ((vv p).getD i 0)) 0 rfl i hin rfl (by kernel_rfl) (Reads.fact (by repeat (first | exact List.Mem.head _ | apply List.Mem.tail))) ⟨_, _, Seals.own_cong (os := [_]) 0 (fun y => if y < i + 1 then zd ((vv p).getD y 0) else I false []) rfl rfl (fun y _ => upd_if y), ?_⟩)
          refine ar rfl (by first | exact ⟨by omega, by omega⟩ | (simp only [inK]; omega)) ?_
          exact again (i + 1) (by omega) (by simp only; omega) (by repeat (first | exact trivial | refine ⟨rfl, ?_⟩ | refine ⟨i64_eq (by first | omega | (simp only; omega)), ?_⟩ | refine ⟨u64_eq (by first | omega | (simp only; omega)), ?_⟩)) (Seals.sub (by repeat (first | exact Sub.nil _ | refine Sub.cons (by repeat (first | exact List.Mem.head _ | apply List.Mem.tail)) ?_)))
        · refine fin ⟨hu, rfl, rfl⟩ (Seals.trans (own_range (g := fun i => (vv p).getD i 0) fun y hy => if_pos (by omega)) ?_)
          rw [hfin]
          exact Seals.nil _ _
end Go.Proofs.Ytajkjlgddmkkaaa

namespace Go.Proofs.Ytajkjlgddmkkaaa
def Nm (l : List Int) : Prop := nrm l = l
theorem Nm.nil : Nm [] := rfl
theorem Nm.nrm (l : List Int) : Nm (nrm l) := nrm_nrm l
theorem Nm.ext {l m : List Int} (hl : Nm l) (hm : Nm m) (h : ∀ x, pev l x = pev m x) : l = m := by rw [← hl, ← hm]; exact ev_ext h
/-- The list of the first n values. -/
def lst (n : Nat) (f : Nat → Int) : List Int := (List.range n).map f
theorem lst_len (n : Nat) (f : Nat → Int) : (lst n f).length = n := by simp [lst]
theorem lst_get {n : Nat} {f : Nat → Int} {i : Nat} (h : i < n) : (lst n f).getD i 0 = f i := by simp [lst, List.getD_eq_getElem?_getD, h]
theorem lst_get' (n : Nat) (f : Nat → Int) (i : Nat) : (lst n f).getD i 0 = if i < n then f i else 0 := by
  by_cases h : i < n
  · rw [lst_get h, if_pos h]
  · rw [if_neg h, List.getD_eq_getElem?_getD, List.getElem?_eq_none (by rw [lst_len]; omega)]; rfl
theorem lst_congr {n : Nat} {f g : Nat → Int} (h : ∀ i, i < n → f i = g i) : lst n f = lst n g := List.map_congr_left fun i hi => h i (List.mem_range.1 hi)
theorem mem_lst {n : Nat} {f : Nat → Int} {x : Int} (h : x ∈ lst n f) : ∃ i, i < n ∧ x = f i := by
  obtain ⟨i, h1, h2⟩ := List.mem_map.1 h
  exact ⟨i, List.mem_range.1 h1, h2.symm⟩
theorem lst_succ (n : Nat) (f : Nat → Int) : lst (n + 1) f = f 0 :: lst n fun i => f (i + 1) := by
  simp [lst, List.range_succ_eq_map, Function.comp_def]
theorem getD_none {l : List Int} {i : Nat} (h : l.length ≤ i) : l.getD i 0 = 0 := by rw [List.getD_eq_getElem?_getD, List.getElem?_eq_none h]; rfl
theorem ev_lst_succ (n : Nat) (f : Nat → Int) (x : Int) : pev (lst (n + 1) f) x = f 0 + x * pev (lst n fun i => f (i + 1)) x := by rw [lst_succ]; rfl
theorem ev_lst_add (n : Nat) (f g : Nat → Int) (x : Int) : pev (lst n fun i => f i + g i) x = pev (lst n f) x + pev (lst n g) x := by
  induction n generalizing f g with
  | zero => rfl
  | succ n ih => rw [ev_lst_succ, ev_lst_succ, ev_lst_succ, ih]; grind
theorem ev_lst_mul (n : Nat) (c : Int) (f : Nat → Int) (x : Int) : pev (lst n fun i => c * f i) x = c * pev (lst n f) x := by
  induction n generalizing f with
  | zero => simp [lst, pev]
  | succ n ih => rw [ev_lst_succ, ev_lst_succ, ih]; grind
theorem ev_lst_zero (n : Nat) (x : Int) : pev (lst n fun _ => 0) x = 0 := by
  induction n with
  | zero => rfl
  | succ n ih => rw [ev_lst_succ, ih]; simp
theorem ev_lst {l : List Int} {n : Nat} (h : l.length ≤ n) (x : Int) : pev (lst n fun i => l.getD i 0) x = pev l x := ev_getD h x
/-- Moved up by s. -/
def up (s : Nat) (l : List Int) : List Int := List.replicate s 0 ++ l
theorem ev_up (s : Nat) (l : List Int) (x : Int) : pev (up s l) x = x ^ s * pev l x := by
  rw [up, ev_append, ev_replicate, List.length_replicate]; simp
theorem up_len (s : Nat) (l : List Int) : (up s l).length = s + l.length := by simp [up]
theorem up_get (s : Nat) (l : List Int) (i : Nat) : (up s l).getD i 0 = if i < s then 0 else l.getD (i - s) 0 := by
  unfold up
  by_cases h : i < s
  · rw [if_pos h, List.getD_eq_getElem?_getD, List.getElem?_append_left (by simpa using h)]; simp [h]
  · rw [if_neg h, List.getD_eq_getElem?_getD, List.getElem?_append_right (by simpa using Nat.le_of_not_lt h)]; simp [List.getD_eq_getElem?_getD]
theorem up_lst (s n : Nat) (f : Nat → Int) : up s (lst n f) = lst (s + n) fun i => if i < s then 0 else f (i - s) := by
  refine List.ext_getElem? fun i => ?_
  by_cases h : i < s + n
  · rw [List.getElem?_eq_getElem (by rw [up_len, lst_len]; exact h), List.getElem?_eq_getElem (by rw [lst_len]; exact h)]
    have h1 := up_get s (lst n f) i
    have h2 := lst_get (n := s + n) (f := fun i => if i < s then 0 else f (i - s)) h
    rw [List.getD_eq_getElem?_getD, List.getElem?_eq_getElem (by rw [up_len, lst_len]; exact h)] at h1
    rw [List.getD_eq_getElem?_getD, List.getElem?_eq_getElem (by rw [lst_len]; exact h)] at h2
    simp only [Option.getD_some] at h1 h2
    rw [h1, h2]
    by_cases hs : i < s
    · simp [hs]
    · simp only [hs, if_false]; rw [lst_get (by omega)]
  · rw [List.getElem?_eq_none (by rw [up_len, lst_len]; omega), List.getElem?_eq_none (by rw [lst_len]; omega)]
def padd (l m : List Int) : List Int := nrm (lst (max l.length m.length) fun i => l.getD i 0 + m.getD i 0)
def psub (l m : List Int) : List Int := nrm (lst (max l.length m.length) fun i => l.getD i 0 - m.getD i 0)
def ptim (c : Int) (l : List Int) : List Int := nrm (l.map fun y => c * y)
def prai (c : Int) (s : Nat) (l : List Int) : List Int := nrm (up s (l.map fun y => c * y))
theorem ev_padd (l m : List Int) (x : Int) : pev (padd l m) x = pev l x + pev m x := by
  rw [padd, ev_nrm, ev_lst_add, ev_lst (Nat.le_max_left _ _), ev_lst (Nat.le_max_right _ _)]
theorem ev_psub (l m : List Int) (x : Int) : pev (psub l m) x = pev l x - pev m x := by
  have e : (fun i => l.getD i 0 - m.getD i 0) = fun i => l.getD i 0 + (-1) * m.getD i 0 := funext fun i => by omega
  rw [psub, ev_nrm, e, ev_lst_add, ev_lst_mul, ev_lst (Nat.le_max_left _ _), ev_lst (Nat.le_max_right _ _)]; omega
theorem ev_ptim (c : Int) (l : List Int) (x : Int) : pev (ptim c l) x = c * pev l x := by rw [ptim, ev_nrm, ev_map_mul]
theorem ev_prai (c : Int) (s : Nat) (l : List Int) (x : Int) : pev (prai c s l) x = x ^ s * (c * pev l x) := by rw [prai, ev_nrm, ev_up, ev_map_mul]
theorem ev_lst_isum (n m : Nat) (f : Nat → Nat → Int) (x : Int) : pev (lst n fun y => isum (fun t => f t y) m) x = isum (fun t => pev (lst n (f t)) x) m := by
  induction m with
  | zero => exact ev_lst_zero n x
  | succ m ih => simp only [isum]; rw [ev_lst_add, ih]
theorem ev_isum (l : List Int) (x : Int) : pev l x = isum (fun i => l.getD i 0 * x ^ i) l.length := by
  have : ∀ (l : List Int), pev l x = isum (fun i => l.getD i 0 * x ^ i) l.length := by
    intro l
    have h : ∀ n, n ≤ l.length → pev (l.take n) x = isum (fun i => l.getD i 0 * x ^ i) n := by
      intro n
      induction n with
      | zero => intro _; rfl
      | succ n ih => intro hn; rw [ev_take_succ (by omega), ih (by omega), isum, Int.mul_comm]
    have := h l.length (Nat.le_refl _)
    rwa [List.take_length] at this
  exact this l
/-- The product's coefficient at y, of the first m of a. -/
def conv (a b : List Int) (m y : Nat) : Int := isum (fun t => if t ≤ y then a.getD t 0 * b.getD (y - t) 0 else 0) m
def pmul (l m : List Int) : List Int :=
  let a := nrm l
  let b := nrm m
  if a = [] ∨ b = [] then [] else nrm (lst (a.length + b.length - 1) fun y => conv a b a.length y)
theorem ev_shifted (b : List Int) (t n : Nat) (h : t + b.length ≤ n) (c x : Int) : pev (lst n fun y => if t ≤ y then c * b.getD (y - t) 0 else 0) x = c * x ^ t * pev b x := by
  have e : pev (lst n fun y => if t ≤ y then c * b.getD (y - t) 0 else 0) x = pev (up t (b.map fun y => c * y)) x := by
    refine ev_of_nrm (nrm_ext fun i => ?_) x
    rw [up_get, lst_get']
    by_cases h1 : i < t
    · rw [if_pos h1, if_neg (by omega : ¬ t ≤ i)]; split <;> rfl
    · rw [if_neg h1]
      by_cases h2 : i < n
      · rw [if_pos h2, if_pos (by omega)]
        simp [List.getD_eq_getElem?_getD]
        cases b[i - t]? <;> simp
      · rw [if_neg h2, getD_none]; rw [List.length_map]; omega
  rw [e, ev_up, ev_map_mul]; grind
theorem ev_conv (a b : List Int) (x : Int) (hb : b ≠ []) (ha : a ≠ []) : pev (lst (a.length + b.length - 1) fun y => conv a b a.length y) x = pev a x * pev b x := by
  unfold conv
  rw [ev_lst_isum]
  have h : ∀ t, t < a.length → pev (lst (a.length + b.length - 1) fun y => if t ≤ y then a.getD t 0 * b.getD (y - t) 0 else 0) x = pev b x * (a.getD t 0 * x ^ t) := fun t ht => by
    rw [ev_shifted b t _ (by have := List.length_pos_iff.2 hb; omega)]; grind
  rw [isum_congr h, isum_mul, ← ev_isum, Int.mul_comm]
theorem ev_pmul (l m : List Int) (x : Int) : pev (pmul l m) x = pev l x * pev m x := by
  unfold pmul
  simp only
  split
  · rename_i h
    rcases h with h | h
    · rw [← ev_nrm l, h]; simp [pev]
    · rw [← ev_nrm m, h]; simp [pev]
  · rename_i h
    rw [ev_nrm, ev_conv _ _ _ (fun e => h (.inr e)) (fun e => h (.inl e)), ev_nrm, ev_nrm]
theorem padd_nm (l m : List Int) : Nm (padd l m) := nrm_nrm _
theorem psub_nm (l m : List Int) : Nm (psub l m) := nrm_nrm _
theorem ptim_nm (c : Int) (l : List Int) : Nm (ptim c l) := nrm_nrm _
theorem prai_nm (c : Int) (s : Nat) (l : List Int) : Nm (prai c s l) := nrm_nrm _
theorem pmul_nm (l m : List Int) : Nm (pmul l m) := by unfold pmul; simp only; split; exact rfl; exact nrm_nrm _
end Go.Proofs.Ytajkjlgddmkkaaa

namespace Go.Proofs.Ytajkjlgddmkkaaa
open Go.RowKit
theorem info_psl : (Try.prog.info? 46).map (fun i => (i.zero, i.size, i.bytes)) = some (some (.slice none 0 0), 1, 24) := by kernel_rfl
instance : TEl Try.prog 46 1 24 := tel info_psl rfl (by decide)
instance : TSl Try.prog 98 46 1 := ⟨Try.underlying98, by kernel_rfl⟩
theorem lit2_L {α : Type} {P : Program} {t e : TypeId} {size bytes : Nat} {os : List Own} {fs : List Fact} {K : Cont} [ht : TSl P t e size] [he : TEl P e size bytes] {x y : Value} (f : α → Dat) (z : α) (a b : α) (hsz : size ≤ 16) (hx : Reads os fs x (f a)) (hy : Reads os fs y (f b)) (hc : (f a).cells = size) (hc' : (f b).cells = size)
    (k : ∀ v, K v os ((v, LD size f z [a, b]) :: fs)) : BuildSliceK P t 2 [(0, x), (1, y)] os fs K := by
  have h1 := buildSlice_fact (P := P) (t := t) (os := os) (fs := fs) (K := fun u os' fs' => ∃ os'' fs'', Seals os' fs' os'' fs'' ∧ K u os'' fs'') (n := 2) [x, y] [f a, f b] rfl rfl (by decide) hsz ⟨hx, hc, hy, hc', trivial⟩
  refine ⟨Grw.sealed (h1 fun v => ⟨_, _, ?_, k v⟩).out⟩
  exact Seals.knw_cong rfl fun i hi => by
    have : i = 0 ∨ i = 1 := by omega
    rcases this with rfl | rfl <;> rfl
theorem pNorm_meets (v : Value) (p : Row) (hp : Fit 137438953472 p) (lp : p.length ≤ 1099511627776) :
    Meets Try.prog 83 [v] [(v, V p)] (fun r os fs => os = [] ∧ fs = [(r, vd (nrm (vv p)))]) :=
  (pNormO_meets v p hp lp).closed fun r os fs ⟨h1, h2, h3⟩ => ⟨_, _, ⟨rfl, rfl⟩, by
    subst h2 h3
    exact Seals.toldL h1⟩
theorem szR.fit {k : Nat} {l : List Int} (h : szR k l) : Fit k (l.map cn) := Fit_cn h
theorem szR.mono {k k' : Nat} {l : List Int} (h : szR k l) (hk : k ≤ k') : szR k' l := fun x hx => (h x hx).mono hk
theorem szR.get {k : Nat} {l : List Int} (h : szR k l) (i : Nat) : sz (l.getD i 0) k := by
  by_cases hi : i < l.length
  · exact h _ (getD_mem 0 hi)
  · rw [getD_none (by omega)]; exact sz_zero _
theorem Fit.szR {k : Nat} {p : Row} (h : Fit k p) : Go.Proofs.Ytajkjlgddmkkaaa.szR k (vv p) := fun x hx => by
  obtain ⟨y, hy, rfl⟩ := List.mem_map.1 hx
  exact sz_jv (h y hy).1 (h y hy).2
theorem mem_nrm {l : List Int} {x : Int} (h : x ∈ nrm l) : x ∈ l := by
  induction l with
  | nil => exact h
  | cons c l ih =>
    rw [nrm_cons] at h
    split at h
    · simp at h
    · rcases List.mem_cons.1 h with rfl | h
      · exact .head _
      · exact .tail _ (ih h)
theorem szR.nrm {k : Nat} {l : List Int} (h : szR k l) : szR k (nrm l) := fun x hx => h x (mem_nrm hx)
theorem szR.lst {k n : Nat} {f : Nat → Int} (h : ∀ i, i < n → sz (f i) k) : szR k (lst n f) := fun x hx => by
  obtain ⟨i, hi, rfl⟩ := mem_lst hx
  exact h i hi
/-- Norm, of what is told. -/
theorem pNormT (v : Value) (l : List Int) (hl : szR 137438953472 l) (ll : l.length ≤ 1099511627776) :
    Meets Try.prog 83 [v] [(v, vd l)] (fun r os fs => os = [] ∧ fs = [(r, vd (nrm l))]) := by
  have h := pNorm_meets v (l.map cn) hl.fit (by rw [List.length_map]; exact ll)
  rw [vv_cn] at h
  exact h
theorem pLead_meets (v : Value) (p : Row) :
    Meets Try.prog 106 [v] [(v, V p)] (fun r os fs => os = [] ∧ fs = [(r, J (p.getD (p.length - 1) z0))]) := by
  refine meets_of_vc Try.func106 (by kernel_rfl) rfl (by kernel_rfl) (Nat.le_of_ble_eq_true rfl) ?_
  refine alloc_rule (d := I false []) fun o ho => ?_
  refine len_fact (by repeat (first | exact List.Mem.head _ | apply List.Mem.tail)) fun _ => ?_
  refine cmp_split _ rfl (fun h => ?_) (fun h => ?_)
  · have h0 : p = [] := List.length_eq_zero_iff.1 (by omega)
    subst h0
    refine build0 (da := .one (.bool false)) (db := U []) (fun S w => ⟨[.bool false], [.slice none 0 0], rfl, rd_false S w, rd_nil S w 1 _⟩) fun z => ?_
    refine store_box (d := J z0) 0 rfl ho rfl (by kernel_rfl) ?_ ?_; exact Reads.fact (by repeat (first | exact List.Mem.head _ | apply List.Mem.tail))
    refine load_box (d := J z0) 0 rfl ho rfl (load_J _) fun r => ?_
    exact fin ⟨rfl, rfl⟩ (Seals.trans (Seals.drop 0 _ _) (Seals.sub (by repeat (first | exact Sub.nil _ | refine Sub.cons (by repeat (first | exact List.Mem.head _ | apply List.Mem.tail)) ?_))))
  · refine len_fact (by repeat (first | exact List.Mem.head _ | apply List.Mem.tail)) fun _ => ?_
    refine ar rfl (by first | exact ⟨by omega, by omega⟩ | (simp only [inK]; omega)) ?_
    refine index_fact (by repeat (first | exact List.Mem.head _ | apply List.Mem.tail)) (p.length - 1) (by omega) (by omega) fun a1 => ?_
    refine load_fact (d := J (p.getD (p.length - 1) z0)) (by repeat (first | exact List.Mem.head _ | apply List.Mem.tail)) (load_J _) fun x1 => ?_
    refine store_box (d := J (p.getD (p.length - 1) z0)) 0 rfl ho rfl (by kernel_rfl) ?_ ?_; exact Reads.fact (by repeat (first | exact List.Mem.head _ | apply List.Mem.tail))
    refine load_box (d := J (p.getD (p.length - 1) z0)) 0 rfl ho rfl (load_J _) fun r => ?_
    exact fin ⟨rfl, rfl⟩ (Seals.trans (Seals.drop 0 _ _) (Seals.sub (by repeat (first | exact Sub.nil _ | refine Sub.cons (by repeat (first | exact List.Mem.head _ | apply List.Mem.tail)) ?_))))
/-- lead, of what is told in normal form. -/
theorem pLeadT (v : Value) (l : List Int) (h0 : l ≠ []) :
    Meets Try.prog 106 [v] [(v, vd l)] (fun r os fs => os = [] ∧ fs = [(r, zd (l.getD (l.length - 1) 0))]) := by
  have h := pLead_meets v (l.map cn)
  have h1 : 0 < l.length := List.length_pos_iff.2 h0
  rw [List.length_map, map_cn_get (by omega)] at h
  exact h
theorem rai_0 (s : Nat) (c : Int) (g : Nat → Int) (y : Nat) : I false [] = zd (if y < s then 0 else if y < s + 0 then c * g (y - s) else 0) := by
  rw [zero_zd]
  congr 1
  by_cases h1 : y < s
  · rw [if_pos h1]
  · rw [if_neg h1, if_neg (by omega)]
theorem rai_n (s n : Nat) (c : Int) (g : Nat → Int) (y : Nat) (hy : y < s + n) : zd (if y < s then 0 else if y < s + n then c * g (y - s) else 0) = zd (if y < s then 0 else c * g (y - s)) := by
  congr 1
  by_cases h1 : y < s
  · rw [if_pos h1, if_pos h1]
  · rw [if_neg h1, if_neg h1, if_pos hy]
theorem upd_zd {G H : Nat → Int} {j : Nat} {v : Int} (h1 : H j = v) (h2 : ∀ y, y ≠ j → G y = H y) (y : Nat) : upd (fun y => zd (G y)) j (zd v) y = zd (H y) := by
  unfold upd
  by_cases hy : y = j
  · subst hy
    rw [if_pos rfl, h1]
  · rw [if_neg hy]
    show zd (G y) = zd (H y)
    rw [h2 y hy]
theorem rai_s (s i : Nat) (c : Int) (g : Nat → Int) (y : Nat) : upd (fun y => zd (if y < s then 0 else if y < s + i then c * g (y - s) else 0)) (s + i) (zd (c * g i)) y = zd (if y < s then 0 else if y < s + (i + 1) then c * g (y - s) else 0) :=
  upd_zd (G := fun y => if y < s then 0 else if y < s + i then c * g (y - s) else 0) (H := fun y => if y < s then 0 else if y < s + (i + 1) then c * g (y - s) else 0) (by
    rw [if_neg (by omega), if_pos (by omega), Nat.add_sub_cancel_left]) (fun y hy => by
    by_cases h1 : y < s
    · rw [if_pos h1, if_pos h1]
    · rw [if_neg h1, if_neg h1]
      by_cases h2 : y < s + i
      · rw [if_pos h2, if_pos (by omega)]
      · rw [if_neg h2, if_neg (by omega)]) y
theorem pRaisedJ (v w : Value) (p : Row) (cj : Bool × List Nat) (s : Nat) (k a : Nat) (hp : Fit k p) (hcl : Lim cj.2) (hca : cj.2.length ≤ a) (hk : k + a ≤ 137438953472) (lp : p.length ≤ 1073741824) (ls : s ≤ 1073741824) :
    Meets Try.prog 82 [v, w, .int .i64 (s : Nat)] [(v, V p), (w, J cj)] (fun r os fs => os = [] ∧ fs = [(r, vd (prai (jv cj) s (vv p)))]) := by
  have hc : sz (jv cj) a := sz_jv hcl hca
  obtain ⟨c, hcj⟩ : ∃ c, jv cj = c := ⟨_, rfl⟩
  rw [hcj] at hc ⊢
  have hel : ∀ i, i < p.length → sz (c * (vv p).getD i 0) (k + a) := fun i _ => by rw [Nat.add_comm]; exact hc.mul (hp.szR.get i)
  have hfin : prai c s (vv p) = nrm (lst (s + p.length) fun y => if y < s then 0 else c * (vv p).getD (y - s) 0) := by
    unfold prai
    rw [show (vv p).map (fun y => c * y) = lst p.length fun i => c * (vv p).getD i 0 from ?_, up_lst]
    refine List.ext_getElem? fun i => ?_
    by_cases hi : i < p.length
    · simp [lst, hi, vv_len, List.getD_eq_getElem?_getD]
    · simp [lst, hi, vv_len]
  have hszL : szR (k + a) (lst (s + p.length) fun y => if y < s then 0 else c * (vv p).getD (y - s) 0) := szR.lst fun i hi => by
    split
    · exact sz_zero _
    · exact hel _ (by omega)
  refine meets_of_vc Try.func82 (by kernel_rfl) rfl (by kernel_rfl) (Nat.le_of_ble_eq_true rfl) ?_
  refine box_fact (Reads.fact (d := J cj) (by repeat (first | exact List.Mem.head _ | apply List.Mem.tail))) fun q => ?_
  refine len_fact (by repeat (first | exact List.Mem.head _ | apply List.Mem.tail)) fun _ => ?_
  refine ar rfl (by first | exact ⟨by omega, by omega⟩ | (simp only [inK]; omega)) ?_
  refine make_rule (t := 46) (d := I false []) (s + p.length) (by omega) (by omega) (by omega) (by omega) fun u hu => ?_
  refine len_fact (by repeat (first | exact List.Mem.head _ | apply List.Mem.tail)) fun _ => ?_
  refine loop_rule (X := Nat) (fun i => ([(0, v), (2, .int .i64 (s : Nat)), (4, q), (7, u), (15, .int .i64 (p.length : Nat)), (16, .int .i64 (i : Nat))], [own1 u 2 (s + p.length) (fun y => zd (if y < s then 0 else if y < s + i then c * (vv p).getD (y - s) 0 else 0))], [(v, V p), (q, .ptr (J cj))])) (fun i => i ≤ p.length) (fun i => p.length - i) rfl ?_ ?_
  · exact again 0 (Nat.zero_le _) trivial (by repeat (first | exact trivial | refine ⟨rfl, ?_⟩ | refine ⟨i64_eq (by first | omega | (simp only; omega)), ?_⟩ | refine ⟨u64_eq (by first | omega | (simp only; omega)), ?_⟩)) (Seals.trans (Seals.own_cong (os := [_]) 0 _ rfl rfl fun y _ => rai_0 s c (fun i => (vv p).getD i 0) y) (Seals.sub (by repeat (first | exact Sub.nil _ | refine Sub.cons (by repeat (first | exact List.Mem.head _ | apply List.Mem.tail)) ?_))))
  · rintro i hi
    refine cmp_split _ rfl (fun hlt => ?_) (fun hlt => ?_)
    · have hin : i < p.length := by omega
      have hpi := hp.get i
      have hgi := vv_get p i (by omega)
      refine draw_rule [0, 1, 2, 3, 4, 5, 6, 7, 8, 9, 10, 11] [0, 1, 2, 3, 4, 5, 6, 7, 8, 9, 10, 11] (by kernel_rfl) (by kernel_rfl) ?_
      refine ar rfl (by first | exact ⟨by omega, by omega⟩ | (simp only [inK]; omega)) ?_
      refine load_fact (d := J cj) (by repeat (first | exact List.Mem.head _ | apply List.Mem.tail)) (load_J _) fun y1 => ?_
      refine index_fact (by repeat (first | exact List.Mem.head _ | apply List.Mem.tail)) i rfl hin fun b1 => ?_
      refine load_fact (d := J (p.getD i z0)) (by repeat (first | exact List.Mem.head _ | apply List.Mem.tail)) (load_J _) fun y2 => ?_
      have hmul := zMulJ y1 y2 cj (p.getD i z0) hcl (by omega) hpi.1 (by omega)
      rw [hcj, ← hgi] at hmul
      refine call_fn hmul (Seals.refl _ _) (by repeat (first | exact Sub.nil _ | refine Sub.cons (by repeat (first | exact List.Mem.head _ | apply List.Mem.tail)) ?_)) ?_
      rintro y3 _ _ ⟨rfl, rfl⟩
      refine index_elem 0 rfl hu (s + i) (by omega) (by omega) ?_
      refine StoreK.post (store_elem (d := zd (c * (vv p).getD i 0)) 0 rfl (s + i) (by omega) rfl (by kernel_rfl) (Reads.fact (by repeat (first | exact List.Mem.head _ | apply List.Mem.tail))) ⟨_, _, Seals.own_cong (os := [_]) 0 (fun y => zd (if y < s then 0 else if y < s + (i + 1) then c * (vv p).getD (y - s) 0 else 0)) rfl rfl (fun y _ => rai_s s i c (fun i => (vv p).getD i 0) y), ?_⟩)
      refine ar rfl (by first | exact ⟨by omega, by omega⟩ | (simp only [inK]; omega)) ?_
      exact again (i + 1) (by omega) (by simp only; omega) (by repeat (first | exact trivial | refine ⟨rfl, ?_⟩ | refine ⟨i64_eq (by first | omega | (simp only; omega)), ?_⟩ | refine ⟨u64_eq (by first | omega | (simp only; omega)), ?_⟩)) (Seals.sub (by repeat (first | exact Sub.nil _ | refine Sub.cons (by repeat (first | exact List.Mem.head _ | apply List.Mem.tail)) ?_)))
    · have hip : i = p.length := by omega
      subst hip
      have hn := pNormT u (lst (s + p.length) fun y => if y < s then 0 else c * (vv p).getD (y - s) 0) (hszL.mono hk) (by rw [lst_len]; omega)
      rw [← hfin] at hn
      refine call_fn hn (Seals.told (g := fun y => if y < s then 0 else c * (vv p).getD (y - s) 0) hu fun y hy => rai_n s _ c (fun i => (vv p).getD i 0) y hy) (by repeat (first | exact Sub.nil _ | refine Sub.cons (by repeat (first | exact List.Mem.head _ | apply List.Mem.tail)) ?_)) ?_
      rintro r _ _ ⟨rfl, rfl⟩
      exact fin ⟨rfl, rfl⟩ (Seals.sub (by repeat (first | exact Sub.nil _ | refine Sub.cons (by repeat (first | exact List.Mem.head _ | apply List.Mem.tail)) ?_)))
theorem pRaised_meets (v w : Value) (p : Row) (c : Int) (s : Nat) (k a : Nat) (hp : Fit k p) (hc : sz c a) (hk : k + a ≤ 137438953472) (lp : p.length ≤ 1073741824) (ls : s ≤ 1073741824) :
    Meets Try.prog 82 [v, w, .int .i64 (s : Nat)] [(v, V p), (w, zd c)] (fun r os fs => os = [] ∧ fs = [(r, vd (prai c s (vv p)))]) := by
  have h := pRaisedJ v w p (cn c) s k a hp (Lim_lims _) hc.len hk lp ls
  rw [jv_cn] at h
  exact h
theorem pRaisedT (v w : Value) (l : List Int) (c : Int) (s : Nat) (k a : Nat) (hp : szR k l) (hc : sz c a) (hk : k + a ≤ 137438953472) (lp : l.length ≤ 1073741824) (ls : s ≤ 1073741824) :
    Meets Try.prog 82 [v, w, .int .i64 (s : Nat)] [(v, vd l), (w, zd c)] (fun r os fs => os = [] ∧ fs = [(r, vd (prai c s l))]) := by
  have h := pRaised_meets v w (l.map cn) c s k a hp.fit hc hk (by rw [List.length_map]; exact lp) ls
  rw [vv_cn] at h
  exact h
end Go.Proofs.Ytajkjlgddmkkaaa

namespace Go.Proofs.Ytajkjlgddmkkaaa
open Go.RowKit
theorem load_elem' {P : Program} {t : TypeId} {v : Value} {size n : Nat} {e : Nat → Dat} {os : List Own} {fs : List Fact} {K : Cont} (pos : Nat) (h : nthOwn os pos = some (own1 v size n e)) (j : Nat)
    (hj : j < n) {d : Dat} (hd : e j = d) (ht : LoadAs P t d) (k' : ∀ u, K u os ((u, d) :: fs)) : LoadK P t (eptr v (j * size)) os fs K := by
  subst hd
  exact load_elem pos h j hj ht k'
theorem zAddJ (v w : Value) (x y : Bool × List Nat) (hx : Lim x.2) (lx : x.2.length ≤ 137438953472) (hy : Lim y.2) (ly : y.2.length ≤ 137438953472) :
    Meets Try.prog 75 [v, w] [(v, J x), (w, J y)] (fun r os fs => os = [] ∧ fs = [(r, zd (jv x + jv y))]) := zadd_meets v w x.1 y.1 x.2 y.2 hx hy lx ly
def sumco (ps : List Row) (i y : Nat) : Int := isum (fun t => (vv (ps.getD t [])).getD y 0) i
theorem sumco_sz {ps : List Row} {k i : Nat} (h : Fits k ps) (hi : i < 18446744073709551616) (y : Nat) : sz (sumco ps i y) (k + 1) := isum_sz (fun t _ => (h.get t).szR.get y) hi
def mxl (ps : List Row) : Nat → Nat
  | 0 => 0
  | i + 1 => max (mxl ps i) (ps.getD i []).length
theorem mxl_le {ps : List Row} {n m : Nat} (h : ∀ i, (ps.getD i []).length ≤ m) : mxl ps n ≤ m := by
  induction n with
  | zero => exact Nat.zero_le _
  | succ n ih => exact Nat.max_le.2 ⟨ih, h n⟩
theorem le_mxl {ps : List Row} {n i : Nat} (h : i < n) : (ps.getD i []).length ≤ mxl ps n := by
  induction n with
  | zero => omega
  | succ n ih =>
    by_cases e : i = n
    · subst e; exact Nat.le_max_right _ _
    · exact Nat.le_trans (ih (by omega)) (Nat.le_max_left _ _)
theorem sum_s (a b : Nat → Int) (j y : Nat) : upd (fun y => zd (a y + if y < j then b y else 0)) j (zd (a j + b j)) y = zd (a y + if y < j + 1 then b y else 0) :=
  upd_zd (G := fun y => a y + if y < j then b y else 0) (H := fun y => a y + if y < j + 1 then b y else 0) (by
    rw [if_pos (by omega)]) (fun y hy => by
    by_cases h2 : y < j
    · rw [if_pos h2, if_pos (by omega)]
    · rw [if_neg h2, if_neg (by omega)]) y
theorem pSum_meets (v : Value) (ps : List Row) (k : Nat) (hf : Fits k ps) (hk : k + 1 ≤ 137438953472) (lp : ps.length ≤ 1048576) (ln : ∀ i, (ps.getD i []).length ≤ 4294967296) :
    Meets Try.prog 108 [v] [(v, W ps)] (fun r os fs => os = [] ∧ fs = [(r, vd (nrm (lst (mxl ps ps.length) (sumco ps ps.length))))]) := by
  have hM : mxl ps ps.length ≤ 4294967296 := mxl_le ln
  have hss : ∀ i y, i ≤ ps.length → sz (sumco ps i y) (k + 1) := fun i y hi => sumco_sz hf (by omega) y
  have hle : ∀ i, i < ps.length → (ps.getD i []).length ≤ mxl ps ps.length := fun i hi => le_mxl hi
  generalize hMe : mxl ps ps.length = M at *
  refine meets_of_vc Try.func108 (by kernel_rfl) rfl (by kernel_rfl) (Nat.le_of_ble_eq_true rfl) ?_
  refine len_fact (by repeat (first | exact List.Mem.head _ | apply List.Mem.tail)) fun _ => ?_
  refine loop_rule (X := Nat) (fun i => ([(0, v), (3, .int .i64 (mxl ps i : Nat)), (11, v), (12, .int .i64 (ps.length : Nat)), (13, .int .i64 (i : Nat))], [], [(v, W ps)])) (fun i => i ≤ ps.length) (fun i => ps.length - i) rfl ?_ ?_
  · exact again 0 (Nat.zero_le _) trivial (by repeat (first | exact trivial | refine ⟨rfl, ?_⟩ | refine ⟨i64_eq (by first | omega | (simp only; omega)), ?_⟩ | refine ⟨u64_eq (by first | omega | (simp only; omega)), ?_⟩)) (Seals.sub (by repeat (first | exact Sub.nil _ | refine Sub.cons (by repeat (first | exact List.Mem.head _ | apply List.Mem.tail)) ?_)))
  · rintro i hi
    refine cmp_split _ rfl (fun hlt => ?_) (fun hlt => ?_)
    · have hin : i < ps.length := by omega
      refine index_fact (by repeat (first | exact List.Mem.head _ | apply List.Mem.tail)) i rfl hin fun a1 => ?_
      refine load_fact (d := V (ps.getD i [])) (by repeat (first | exact List.Mem.head _ | apply List.Mem.tail)) (load_P _) fun x1 => ?_
      refine len_fact (by repeat (first | exact List.Mem.head _ | apply List.Mem.tail)) fun _ => ?_
      refine max2_rule ?_
      refine ar rfl (by first | exact ⟨by omega, by omega⟩ | (simp only [inK]; omega)) ?_
      have hmx : mxl ps (i + 1) = max (mxl ps i) (ps.getD i []).length := rfl
      exact again (i + 1) (by omega) (by simp only; omega) (by repeat (first | exact trivial | refine ⟨rfl, ?_⟩ | refine ⟨i64_eq (by first | omega | (simp only; omega)), ?_⟩ | refine ⟨u64_eq (by first | omega | (simp only; omega)), ?_⟩)) (Seals.sub (by repeat (first | exact Sub.nil _ | refine Sub.cons (by repeat (first | exact List.Mem.head _ | apply List.Mem.tail)) ?_)))
    · have hip : i = ps.length := by omega
      subst hip
      rw [hMe]
      refine make_rule (t := 46) (d := I false []) M rfl rfl (by omega) (by omega) fun u hu => ?_
      refine len_fact (by repeat (first | exact List.Mem.head _ | apply List.Mem.tail)) fun _ => ?_
      refine loop_rule (X := Nat) (fun i => ([(6, u), (24, v), (25, .int .i64 (ps.length : Nat)), (26, .int .i64 (i : Nat))], [own1 u 2 M (fun y => zd (sumco ps i y))], [(v, W ps)])) (fun i => i ≤ ps.length) (fun i => ps.length - i) rfl ?_ ?_
      · exact again 0 (Nat.zero_le _) trivial (by repeat (first | exact trivial | refine ⟨rfl, ?_⟩ | refine ⟨i64_eq (by first | omega | (simp only; omega)), ?_⟩ | refine ⟨u64_eq (by first | omega | (simp only; omega)), ?_⟩)) (Seals.trans (Seals.own_cong (os := [_]) 0 (fun y => zd (sumco ps 0 y)) rfl rfl fun y _ => zero_zd) (Seals.sub (by repeat (first | exact Sub.nil _ | refine Sub.cons (by repeat (first | exact List.Mem.head _ | apply List.Mem.tail)) ?_))))
      · rintro i hi
        refine cmp_split _ rfl (fun hlt => ?_) (fun hlt => ?_)
        · have hin : i < ps.length := by omega
          have hli := hle i hin
          have hfi := hf.get i
          refine index_fact (by repeat (first | exact List.Mem.head _ | apply List.Mem.tail)) i rfl hin fun a1 => ?_
          refine load_fact (d := V (ps.getD i [])) (by repeat (first | exact List.Mem.head _ | apply List.Mem.tail)) (load_P _) fun x1 => ?_
          refine len_fact (by repeat (first | exact List.Mem.head _ | apply List.Mem.tail)) fun _ => ?_
          have hnext : ∀ y, sumco ps (i + 1) y = sumco ps i y + (vv (ps.getD i [])).getD y 0 := fun y => rfl
          generalize hp : ps.getD i [] = p at *
          refine loop_rule (X := Nat) (fun j => ([(6, u), (24, v), (25, .int .i64 (ps.length : Nat)), (26, .int .i64 (i : Nat)), (30, x1), (31, .int .i64 (p.length : Nat)), (32, .int .i64 (j : Nat))],
            [own1 u 2 M (fun y => zd (sumco ps i y + if y < j then (vv p).getD y 0 else 0))], [(v, W ps), (x1, V p)])) (fun j => j ≤ p.length) (fun j => p.length - j) rfl ?_ ?_
          · exact again 0 (Nat.zero_le _) trivial (by repeat (first | exact trivial | refine ⟨rfl, ?_⟩ | refine ⟨i64_eq (by first | omega | (simp only; omega)), ?_⟩ | refine ⟨u64_eq (by first | omega | (simp only; omega)), ?_⟩)) (Seals.trans (Seals.own_cong (os := [_]) 0 (fun y => zd (sumco ps i y + if y < 0 then (vv p).getD y 0 else 0)) rfl rfl fun y _ => by rw [if_neg (Nat.not_lt_zero _), Int.add_zero]) (Seals.sub (by repeat (first | exact Sub.nil _ | refine Sub.cons (by repeat (first | exact List.Mem.head _ | apply List.Mem.tail)) ?_))))
          · rintro j hj
            refine cmp_split _ rfl (fun hlj => ?_) (fun hlj => ?_)
            · have hjn : j < p.length := by omega
              have hpj := hfi.get j
              have hgj := vv_get p j hjn
              have hsj := hss i j hi
              refine index_fact (by repeat (first | exact List.Mem.head _ | apply List.Mem.tail)) j rfl hjn fun b1 => ?_
              refine load_fact (d := J (p.getD j z0)) (by repeat (first | exact List.Mem.head _ | apply List.Mem.tail)) (load_J _) fun y1 => ?_
              refine alloc_rule (d := I false []) fun q hq => ?_
              refine store_box (d := J (p.getD j z0)) 0 rfl hq rfl (by kernel_rfl) ?_ ?_; exact Reads.fact (by repeat (first | exact List.Mem.head _ | apply List.Mem.tail))
              refine draw_rule [0, 1, 2, 3, 4, 5, 6, 7, 8, 9] [0, 1, 2, 3, 4, 5, 6, 7, 8, 9] (by kernel_rfl) (by kernel_rfl) ?_
              refine index_elem 1 rfl hu j rfl (by omega) ?_
              refine load_elem' (d := zd (sumco ps i j)) 1 rfl j (by omega) (by simp) (load_I _ _) fun y2 => ?_
              refine load_box (d := J (p.getD j z0)) 0 rfl hq rfl (load_J _) fun y3 => ?_
              have hadd := zAddJ y2 y3 (cn (sumco ps i j)) (p.getD j z0) (Lim_lims _) (Nat.le_trans hsj.len (by omega)) hpj.1 (by omega)
              rw [jv_cn, ← hgj] at hadd
              refine call_fn hadd (Seals.refl _ _) (by repeat (first | exact Sub.nil _ | refine Sub.cons (by repeat (first | exact List.Mem.head _ | apply List.Mem.tail)) ?_)) ?_
              rintro y4 _ _ ⟨rfl, rfl⟩
              refine index_elem 1 rfl hu j rfl (by omega) ?_
              refine StoreK.post (store_elem (d := zd (sumco ps i j + (vv p).getD j 0)) 1 rfl j (by omega) rfl (by kernel_rfl) (Reads.fact (by repeat (first | exact List.Mem.head _ | apply List.Mem.tail))) ⟨_, _, Seals.own_cong (os := [_, _]) 1 (fun y => zd (sumco ps i y + if y < j + 1 then (vv p).getD y 0 else 0)) rfl rfl (fun y _ => sum_s (sumco ps i) (fun y => (vv p).getD y 0) j y), ?_⟩)
              refine ar rfl (by first | exact ⟨by omega, by omega⟩ | (simp only [inK]; omega)) ?_
              exact again (j + 1) (by omega) (by simp only; omega) (by repeat (first | exact trivial | refine ⟨rfl, ?_⟩ | refine ⟨i64_eq (by first | omega | (simp only; omega)), ?_⟩ | refine ⟨u64_eq (by first | omega | (simp only; omega)), ?_⟩)) (Seals.trans (Seals.drop 0 _ _) (Seals.sub (by repeat (first | exact Sub.nil _ | refine Sub.cons (by repeat (first | exact List.Mem.head _ | apply List.Mem.tail)) ?_))))
            · have hend : ∀ y, zd (sumco ps i y + if y < j then (vv p).getD y 0 else 0) = zd (sumco ps (i + 1) y) := fun y => by
                rw [hnext]
                by_cases h2 : y < j
                · rw [if_pos h2]
                · rw [if_neg h2, getD_none (by rw [vv_len]; omega)]
              refine ar rfl (by first | exact ⟨by omega, by omega⟩ | (simp only [inK]; omega)) ?_
              refine again (i + 1) (by omega) (by simp only; omega) (by repeat (first | exact trivial | refine ⟨rfl, ?_⟩ | refine ⟨i64_eq (by first | omega | (simp only; omega)), ?_⟩ | refine ⟨u64_eq (by first | omega | (simp only; omega)), ?_⟩)) (Seals.trans (Seals.own_cong (os := [_]) 0 (fun y => zd (sumco ps (i + 1) y)) rfl rfl fun y _ => hend y) (Seals.sub (by repeat (first | exact Sub.nil _ | refine Sub.cons (by repeat (first | exact List.Mem.head _ | apply List.Mem.tail)) ?_))))
        · have hip : i = ps.length := by omega
          subst hip
          refine call_fn (pNormT u (lst M (sumco ps ps.length)) (szR.lst fun y _ => (hss _ y (Nat.le_refl _)).mono hk) (by rw [lst_len]; omega)) (Seals.told (g := sumco ps ps.length) hu fun y hy => rfl) (by repeat (first | exact Sub.nil _ | refine Sub.cons (by repeat (first | exact List.Mem.head _ | apply List.Mem.tail)) ?_)) ?_
          rintro r _ _ ⟨rfl, rfl⟩
          exact fin ⟨rfl, rfl⟩ (Seals.sub (by repeat (first | exact Sub.nil _ | refine Sub.cons (by repeat (first | exact List.Mem.head _ | apply List.Mem.tail)) ?_)))
theorem padd_eq (p q : Row) : nrm (lst (mxl [p, q] 2) (sumco [p, q] 2)) = padd (vv p) (vv q) := by
  unfold padd
  have h1 : mxl [p, q] 2 = max (vv p).length (vv q).length := by
    rw [vv_len, vv_len]
    show max (max 0 p.length) q.length = _
    omega
  rw [h1]
  congr 1
  refine lst_congr fun i _ => ?_
  show 0 + (vv p).getD i 0 + (vv q).getD i 0 = _
  omega
theorem pSum2_meets (v : Value) (p q : Row) (k : Nat) (hp : Fit k p) (hq : Fit k q) (hk : k + 1 ≤ 137438953472) (lp : p.length ≤ 4294967296) (lq : q.length ≤ 4294967296) :
    Meets Try.prog 108 [v] [(v, W [p, q])] (fun r os fs => os = [] ∧ fs = [(r, vd (padd (vv p) (vv q)))]) := by
  have h := pSum_meets v [p, q] k (fun r hr => by
    rcases List.mem_cons.1 hr with rfl | hr
    · exact hp
    · rcases List.mem_cons.1 hr with rfl | hr
      · exact hq
      · simp at hr) hk (by show 2 ≤ 1048576; omega) (fun i => by
    match i with
    | 0 => exact lp
    | 1 => exact lq
    | i + 2 => show 0 ≤ _; omega)
  have e : nrm (lst (mxl [p, q] [p, q].length) (sumco [p, q] [p, q].length)) = padd (vv p) (vv q) := padd_eq p q
  rw [e] at h
  exact h
end Go.Proofs.Ytajkjlgddmkkaaa

namespace Go.Proofs.Ytajkjlgddmkkaaa
open Go.RowKit
theorem prai_zero (c : Int) (l : List Int) : prai c 0 l = ptim c l := rfl
theorem szR.map {k a : Nat} {c : Int} {l : List Int} (h : szR k l) (hc : sz c a) : szR (k + a) (l.map fun y => c * y) := fun x hx => by
  obtain ⟨y, hy, rfl⟩ := List.mem_map.1 hx
  rw [Nat.add_comm]; exact hc.mul (h y hy)
theorem szR.prai {k a : Nat} {c : Int} {l : List Int} (h : szR k l) (hc : sz c a) (s : Nat) : szR (k + a) (prai c s l) := szR.nrm fun x hx => by
  rcases List.mem_append.1 hx with h1 | h1
  · rw [(List.mem_replicate.1 h1).2]; exact sz_zero _
  · exact h.map hc x h1
theorem prai_len (c : Int) (s : Nat) (l : List Int) : (prai c s l).length ≤ s + l.length := Nat.le_trans (nrm_length_le _) (by rw [up_len, List.length_map]; exact Nat.le_refl _)
theorem szR.padd {k : Nat} {l m : List Int} (h : szR k l) (h' : szR k m) : szR (k + 1) (padd l m) := szR.nrm (szR.lst fun i _ => by
  have := sz_sub (h.get i) ((h'.get i).neg)
  rwa [Int.sub_neg] at this)
theorem padd_len (l m : List Int) : (padd l m).length ≤ max l.length m.length := Nat.le_trans (nrm_length_le _) (by rw [lst_len]; exact Nat.le_refl _)
theorem szR.psub {k : Nat} {l m : List Int} (h : szR k l) (h' : szR k m) : szR (k + 1) (psub l m) := szR.nrm (szR.lst fun i _ => sz_sub (h.get i) (h'.get i))
theorem szR.neg {k : Nat} {l : List Int} (h : szR k l) : szR k (Go.Proofs.Ytajkjlgddmkkaaa.prai (-1) 0 l) := szR.nrm fun x hx => by
  rcases List.mem_append.1 hx with h1 | h1
  · rw [(List.mem_replicate.1 h1).2]; exact sz_zero _
  · obtain ⟨y, hy, rfl⟩ := List.mem_map.1 h1
    have := (h y hy).neg
    rwa [← Int.neg_one_mul] at this
theorem padd_neg (l m : List Int) : padd l (prai (-1) 0 m) = psub l m := (padd_nm _ _).ext (psub_nm _ _) fun x => by
  rw [ev_padd, ev_prai, ev_psub, Int.pow_zero]; omega
theorem sz_one (x : Int) (h : x.natAbs ≤ 1) : sz x 1 := by
  unfold sz; omega
theorem pSub_meets (v w : Value) (p q : Row) (k : Nat) (hp : Fit k p) (hq : Fit k q) (hk : k + 1 ≤ 137438953472) (lp : p.length ≤ 1073741824) (lq : q.length ≤ 1073741824) :
    Meets Try.prog 109 [v, w] [(v, V p), (w, V q)] (fun r os fs => os = [] ∧ fs = [(r, vd (psub (vv p) (vv q)))]) := by
  have hr := fun u => pRaised_meets w u q (-1) 0 k 1 hq (sz_one _ (by decide)) hk lq (by omega)
  have hs := fun u => pSum2_meets u p ((prai (-1) 0 (vv q)).map cn) k hp hq.szR.neg.fit hk (by omega) (by
    have := prai_len (-1) 0 (vv q)
    rw [vv_len] at this
    rw [List.length_map]; omega)
  simp only [vv_cn, padd_neg] at hs
  refine meets_of_vc Try.func109 (by kernel_rfl) rfl (by kernel_rfl) (Nat.le_of_ble_eq_true rfl) ?_
  refine call_fn (zof_meets (-1) (by decide) (by decide)) (Seals.refl _ _) (by repeat (first | exact Sub.nil _ | refine Sub.cons (by repeat (first | exact List.Mem.head _ | apply List.Mem.tail)) ?_)) ?_
  rintro x1 _ _ ⟨rfl, rfl⟩
  refine call_fn (hr x1) (Seals.refl _ _) (by repeat (first | exact Sub.nil _ | refine Sub.cons (by repeat (first | exact List.Mem.head _ | apply List.Mem.tail)) ?_)) ?_
  rintro x2 _ _ ⟨rfl, rfl⟩
  refine lit2_L (size := 1) (f := V) (z := []) (e := 46) p ((prai (-1) 0 (vv q)).map cn) (by decide) (Reads.fact (by repeat (first | exact List.Mem.head _ | apply List.Mem.tail))) (Reads.fact (by repeat (first | exact List.Mem.head _ | apply List.Mem.tail))) rfl rfl fun x3 => ?_
  refine call_fn (hs x3) (Seals.refl _ _) (by repeat (first | exact Sub.nil _ | refine Sub.cons (by repeat (first | exact List.Mem.head _ | apply List.Mem.tail)) ?_)) ?_
  rintro r _ _ ⟨rfl, rfl⟩
  exact fin ⟨rfl, rfl⟩ (Seals.sub (by repeat (first | exact Sub.nil _ | refine Sub.cons (by repeat (first | exact List.Mem.head _ | apply List.Mem.tail)) ?_)))
theorem pSubT (v w : Value) (l m : List Int) (k : Nat) (hl : szR k l) (hm : szR k m) (hk : k + 1 ≤ 137438953472) (ll : l.length ≤ 1073741824) (lm : m.length ≤ 1073741824) :
    Meets Try.prog 109 [v, w] [(v, vd l), (w, vd m)] (fun r os fs => os = [] ∧ fs = [(r, vd (psub l m))]) := by
  have h := pSub_meets v w (l.map cn) (m.map cn) k hl.fit hm.fit hk (by rw [List.length_map]; exact ll) (by rw [List.length_map]; exact lm)
  rw [vv_cn, vv_cn] at h
  exact h
theorem pSumT (v : Value) (l m : List Int) (k : Nat) (hl : szR k l) (hm : szR k m) (hk : k + 1 ≤ 137438953472) (ll : l.length ≤ 4294967296) (lm : m.length ≤ 4294967296) :
    Meets Try.prog 108 [v] [(v, W [l.map cn, m.map cn])] (fun r os fs => os = [] ∧ fs = [(r, vd (padd l m))]) := by
  have h := pSum2_meets v (l.map cn) (m.map cn) k hl.fit hm.fit hk (by rw [List.length_map]; exact ll) (by rw [List.length_map]; exact lm)
  rw [vv_cn, vv_cn] at h
  exact h
end Go.Proofs.Ytajkjlgddmkkaaa

namespace Go.Proofs.Ytajkjlgddmkkaaa
open Go.RowKit
theorem conv_succ (a b : List Int) (i y : Nat) : conv a b (i + 1) y = conv a b i y + if i ≤ y then a.getD i 0 * b.getD (y - i) 0 else 0 := rfl
theorem conv_sz {a b : List Int} {k l m : Nat} (ha : szR k a) (hb : szR l b) (hm : m < 18446744073709551616) (y : Nat) : sz (conv a b m y) (k + l + 1) := isum_sz (fun t _ => by
  split
  · exact (ha.get t).mul (hb.get _)
  · exact sz_zero _) hm
/-- The list while the product is made: of row i the first k numbers. -/
def mst (a b : List Int) (i k y : Nat) : Int := conv a b i y + if i ≤ y ∧ y < i + k then a.getD i 0 * b.getD (y - i) 0 else 0
theorem mst_0 (a b : List Int) (i y : Nat) : mst a b i 0 y = conv a b i y := by unfold mst; rw [if_neg (by omega)]; omega
theorem mst_at (a b : List Int) (i k : Nat) : mst a b i k (i + k) = conv a b i (i + k) := by unfold mst; rw [if_neg (by omega)]; omega
theorem mst_n (a b : List Int) (i y : Nat) : mst a b i b.length y = conv a b (i + 1) y := by
  unfold mst
  rw [conv_succ]
  by_cases h : i ≤ y
  · by_cases h2 : y < i + b.length
    · rw [if_pos ⟨h, h2⟩, if_pos h]
    · rw [if_neg (by omega), if_pos h, getD_none (l := b) (by omega)]; simp
  · rw [if_neg (by omega), if_neg h]
theorem mst_s (a b : List Int) (i k y : Nat) : upd (fun y => zd (mst a b i k y)) (i + k) (zd (conv a b i (i + k) + a.getD i 0 * b.getD k 0)) y = zd (mst a b i (k + 1) y) :=
  upd_zd (G := fun y => mst a b i k y) (H := fun y => mst a b i (k + 1) y) (by
    unfold mst
    rw [if_pos (by omega), Nat.add_sub_cancel_left]) (fun y hy => by
    unfold mst
    congr 1
    by_cases h : i ≤ y ∧ y < i + k
    · rw [if_pos h, if_pos (by omega)]
    · rw [if_neg h, if_neg (by omega)]) y
theorem pMul_meets (v w : Value) (p q : Row) (k l : Nat) (hp : Fit k p) (hq : Fit l q) (hk : k + l + 1 ≤ 137438953472) (lp : p.length ≤ 1073741824) (lq : q.length ≤ 1073741824) :
    Meets Try.prog 47 [v, w] [(v, V p), (w, V q)] (fun r os fs => os = [] ∧ fs = [(r, vd (pmul (vv p) (vv q)))]) := by
  have h1 := pNorm_meets v p (hp.mono (by omega)) (by omega)
  have h2 := pNorm_meets w q (hq.mono (by omega)) (by omega)
  have sa := hp.szR.nrm
  have sb := hq.szR.nrm
  have la : (nrm (vv p)).length ≤ 1073741824 := Nat.le_trans (nrm_length_le _) (by rw [vv_len]; exact lp)
  have lb : (nrm (vv q)).length ≤ 1073741824 := Nat.le_trans (nrm_length_le _) (by rw [vv_len]; exact lq)
  have hdef : pmul (vv p) (vv q) = if nrm (vv p) = [] ∨ nrm (vv q) = [] then [] else nrm (lst ((nrm (vv p)).length + (nrm (vv q)).length - 1) fun y => conv (nrm (vv p)) (nrm (vv q)) (nrm (vv p)).length y) := rfl
  generalize hPM : pmul (vv p) (vv q) = PM at *
  generalize hA : nrm (vv p) = A at *
  generalize hB : nrm (vv q) = B at *
  have hcs : ∀ i y, i ≤ A.length → sz (conv A B i y) (k + l + 1) := fun i y hi => conv_sz sa sb (by omega) y
  have h3 := fun u (hne : PM = nrm (lst (A.length + B.length - 1) fun y => conv A B A.length y)) => pNormT u (lst (A.length + B.length - 1) fun y => conv A B A.length y) ((szR.lst fun y _ => hcs _ y (Nat.le_refl _)).mono hk) (by rw [lst_len]; omega)
  refine meets_of_vc Try.func47 (by kernel_rfl) rfl (by kernel_rfl) (Nat.le_of_ble_eq_true rfl) ?_
  refine call_fn h1 (Seals.refl _ _) (by repeat (first | exact Sub.nil _ | refine Sub.cons (by repeat (first | exact List.Mem.head _ | apply List.Mem.tail)) ?_)) ?_
  rintro x1 _ _ ⟨rfl, rfl⟩
  refine call_fn h2 (Seals.refl _ _) (by repeat (first | exact Sub.nil _ | refine Sub.cons (by repeat (first | exact List.Mem.head _ | apply List.Mem.tail)) ?_)) ?_
  rintro x2 _ _ ⟨rfl, rfl⟩
  refine len_vd (by repeat (first | exact List.Mem.head _ | apply List.Mem.tail)) ?_
  refine cmp_split _ rfl (fun hz => ?_) (fun hz => ?_)
  · have : A = [] := List.length_eq_zero_iff.1 (by omega)
    rw [if_pos (.inl this)] at hdef
    exact fin ⟨rfl, rfl⟩ (by rw [hdef]; exact Seals.cons (Knw.nil 2 _) (Seals.nil _ _))
  refine len_vd (by repeat (first | exact List.Mem.head _ | apply List.Mem.tail)) ?_
  refine cmp_split _ rfl (fun hy => ?_) (fun hy => ?_)
  · have : B = [] := List.length_eq_zero_iff.1 (by omega)
    rw [if_pos (.inr this)] at hdef
    exact fin ⟨rfl, rfl⟩ (by rw [hdef]; exact Seals.cons (Knw.nil 2 _) (Seals.nil _ _))
  have hne : ¬ (A = [] ∨ B = []) := by
    rintro (h | h)
    · rw [h] at hz; simp at hz
    · rw [h] at hy; simp at hy
  rw [if_neg hne] at hdef
  refine len_vd (by repeat (first | exact List.Mem.head _ | apply List.Mem.tail)) ?_
  refine len_vd (by repeat (first | exact List.Mem.head _ | apply List.Mem.tail)) ?_
  refine ar rfl (by first | exact ⟨by omega, by omega⟩ | (simp only [inK]; omega)) ?_
  refine ar rfl (by first | exact ⟨by omega, by omega⟩ | (simp only [inK]; omega)) ?_
  refine make_rule (t := 46) (d := I false []) (A.length + B.length - 1) (by omega) (by omega) (by omega) (by omega) fun u hu => ?_
  refine len_vd (by repeat (first | exact List.Mem.head _ | apply List.Mem.tail)) ?_
  refine loop_rule (X := Nat) (fun i => ([(5, x1), (6, x2), (7, u), (31, x1), (32, .int .i64 (A.length : Nat)), (33, .int .i64 (i : Nat))], [own1 u 2 (A.length + B.length - 1) (fun y => zd (conv A B i y))], [(x1, vd A), (x2, vd B)])) (fun i => i ≤ A.length) (fun i => A.length - i) rfl ?_ ?_
  · exact again 0 (Nat.zero_le _) trivial (by repeat (first | exact trivial | refine ⟨rfl, ?_⟩ | refine ⟨i64_eq (by first | omega | (simp only; omega)), ?_⟩ | refine ⟨u64_eq (by first | omega | (simp only; omega)), ?_⟩)) (Seals.trans (Seals.own_cong (os := [_]) 0 (fun y => zd (conv A B 0 y)) rfl rfl fun y _ => zero_zd) (Seals.sub (by repeat (first | exact Sub.nil _ | refine Sub.cons (by repeat (first | exact List.Mem.head _ | apply List.Mem.tail)) ?_))))
  · rintro i hi
    refine cmp_split _ rfl (fun hlt => ?_) (fun hlt => ?_)
    · have hin : i < A.length := by omega
      have hai := sa.get i
      refine index_vd (by repeat (first | exact List.Mem.head _ | apply List.Mem.tail)) i rfl hin fun b1 => ?_
      refine load_fact (d := zd (A.getD i 0)) (by repeat (first | exact List.Mem.head _ | apply List.Mem.tail)) (load_I _ _) fun y1 => ?_
      refine alloc_rule (d := I false []) fun q1 hq1 => ?_
      refine store_box (d := zd (A.getD i 0)) 0 rfl hq1 rfl (by kernel_rfl) ?_ ?_; exact Reads.fact (by repeat (first | exact List.Mem.head _ | apply List.Mem.tail))
      refine len_vd (by repeat (first | exact List.Mem.head _ | apply List.Mem.tail)) ?_
      refine loop_rule (X := Nat) (fun j => ([(5, x1), (6, x2), (7, u), (31, x1), (32, .int .i64 (A.length : Nat)), (33, .int .i64 (i : Nat)), (8, .int .i64 (i : Nat)), (9, q1), (38, x2), (39, .int .i64 (B.length : Nat)), (40, .int .i64 (j : Nat))],
        [own1 q1 2 1 (fun _ => zd (A.getD i 0)), own1 u 2 (A.length + B.length - 1) (fun y => zd (mst A B i j y))], [(x1, vd A), (x2, vd B)])) (fun j => j ≤ B.length) (fun j => B.length - j) rfl ?_ ?_
      · exact again 0 (Nat.zero_le _) trivial (by repeat (first | exact trivial | refine ⟨rfl, ?_⟩ | refine ⟨i64_eq (by first | omega | (simp only; omega)), ?_⟩ | refine ⟨u64_eq (by first | omega | (simp only; omega)), ?_⟩)) (Seals.trans (Seals.box0 rfl) (Seals.trans (Seals.own_cong (os := [_, _]) 1 (fun y => zd (mst A B i 0 y)) rfl rfl fun y _ => by rw [mst_0]) (Seals.sub (by repeat (first | exact Sub.nil _ | refine Sub.cons (by repeat (first | exact List.Mem.head _ | apply List.Mem.tail)) ?_)))))
      · rintro j hj
        refine cmp_split _ rfl (fun hlj => ?_) (fun hlj => ?_)
        · have hjn : j < B.length := by omega
          have hbj := sb.get j
          have hcj := hcs i (i + j) hi
          refine index_vd (by repeat (first | exact List.Mem.head _ | apply List.Mem.tail)) j rfl hjn fun b2 => ?_
          refine load_fact (d := zd (B.getD j 0)) (by repeat (first | exact List.Mem.head _ | apply List.Mem.tail)) (load_I _ _) fun y2 => ?_
          refine alloc_rule (d := I false []) fun q2 hq2 => ?_
          refine store_box (d := zd (B.getD j 0)) 0 rfl hq2 rfl (by kernel_rfl) ?_ ?_; exact Reads.fact (by repeat (first | exact List.Mem.head _ | apply List.Mem.tail))
          refine draw_rule [0, 1, 2, 3, 4, 5, 6, 7, 8, 9, 10, 11, 12, 13, 14, 15] [0, 1, 2, 3, 4, 5, 6, 7, 8, 9, 10, 11, 12, 13, 14, 15] (by kernel_rfl) (by kernel_rfl) ?_
          refine ar rfl (by first | exact ⟨by omega, by omega⟩ | (simp only [inK]; omega)) ?_
          refine ar rfl (by first | exact ⟨by omega, by omega⟩ | (simp only [inK]; omega)) ?_
          refine index_elem 2 rfl hu (i + j) (by omega) (by omega) ?_
          refine load_elem' (d := zd (conv A B i (i + j))) 2 rfl (i + j) (by omega) (by rw [mst_at]) (load_I _ _) fun y3 => ?_
          refine load_box (d := zd (A.getD i 0)) 1 rfl hq1 rfl (load_I _ _) fun y4 => ?_
          refine load_box (d := zd (B.getD j 0)) 0 rfl hq2 rfl (load_I _ _) fun y5 => ?_
          refine call_fn (zMulZ y4 y5 _ _ _ _ hai hbj (by omega) (by omega)) (Seals.refl _ _) (by repeat (first | exact Sub.nil _ | refine Sub.cons (by repeat (first | exact List.Mem.head _ | apply List.Mem.tail)) ?_)) ?_
          rintro y6 _ _ ⟨rfl, rfl⟩
          refine call_fn (zAddZ y3 y6 _ _ _ _ hcj (hai.mul hbj) (by omega) (by omega)) (Seals.refl _ _) (by repeat (first | exact Sub.nil _ | refine Sub.cons (by repeat (first | exact List.Mem.head _ | apply List.Mem.tail)) ?_)) ?_
          rintro y7 _ _ ⟨rfl, rfl⟩
          refine index_elem 2 rfl hu (i + j) (by omega) (by omega) ?_
          refine StoreK.post (store_elem (d := zd (conv A B i (i + j) + A.getD i 0 * B.getD j 0)) 2 rfl (i + j) (by omega) rfl (by kernel_rfl) (Reads.fact (by repeat (first | exact List.Mem.head _ | apply List.Mem.tail))) ⟨_, _, Seals.own_cong (os := [_, _, _]) 2 (fun y => zd (mst A B i (j + 1) y)) rfl rfl (fun y _ => mst_s A B i j y), ?_⟩)
          refine ar rfl (by first | exact ⟨by omega, by omega⟩ | (simp only [inK]; omega)) ?_
          exact again (j + 1) (by omega) (by simp only; omega) (by repeat (first | exact trivial | refine ⟨rfl, ?_⟩ | refine ⟨i64_eq (by first | omega | (simp only; omega)), ?_⟩ | refine ⟨u64_eq (by first | omega | (simp only; omega)), ?_⟩)) (Seals.trans (Seals.drop 0 _ _) (Seals.sub (by repeat (first | exact Sub.nil _ | refine Sub.cons (by repeat (first | exact List.Mem.head _ | apply List.Mem.tail)) ?_))))
        · have hjB : j = B.length := by omega
          subst hjB
          refine ar rfl (by first | exact ⟨by omega, by omega⟩ | (simp only [inK]; omega)) ?_
          exact again (i + 1) (by omega) (by simp only; omega) (by repeat (first | exact trivial | refine ⟨rfl, ?_⟩ | refine ⟨i64_eq (by first | omega | (simp only; omega)), ?_⟩ | refine ⟨u64_eq (by first | omega | (simp only; omega)), ?_⟩)) (Seals.trans (Seals.drop 0 _ _) (Seals.trans (Seals.own_cong (os := [_]) 0 (fun y => zd (conv A B (i + 1) y)) rfl rfl fun y _ => by rw [mst_n]) (Seals.sub (by repeat (first | exact Sub.nil _ | refine Sub.cons (by repeat (first | exact List.Mem.head _ | apply List.Mem.tail)) ?_)))))
    · have hip : i = A.length := by omega
      subst hip
      have h3' := h3 u hdef
      rw [← hdef] at h3'
      refine call_fn h3' (Seals.told (g := fun y => conv A B A.length y) hu fun y hy => rfl) (by repeat (first | exact Sub.nil _ | refine Sub.cons (by repeat (first | exact List.Mem.head _ | apply List.Mem.tail)) ?_)) ?_
      rintro r _ _ ⟨rfl, rfl⟩
      exact fin ⟨rfl, rfl⟩ (Seals.sub (by repeat (first | exact Sub.nil _ | refine Sub.cons (by repeat (first | exact List.Mem.head _ | apply List.Mem.tail)) ?_)))
theorem ev_sz {l : List Int} {x : Int} {k a : Nat} (h : szR k l) (hx : sz x a) : sz (pev l x) (k + l.length * (a + 1)) := by
  induction l with
  | nil => exact sz_zero _
  | cons c l ih =>
    have h1 := ih fun y hy => h y (.tail _ hy)
    have h2 := hx.mul h1
    have h3 : sz c (a + (k + l.length * (a + 1))) := (h c (.head _)).mono (by omega)
    have h4 := sz_sub h3 h2.neg
    rw [Int.sub_neg] at h4
    refine h4.mono ?_
    rw [List.length_cons, Nat.succ_mul]; omega
theorem ev_drop {l : List Int} {i : Nat} (h : i < l.length) (x : Int) : pev (l.drop i) x = l.getD i 0 + x * pev (l.drop (i + 1)) x := by
  rw [List.drop_eq_getElem_cons h]
  simp [pev, List.getD_eq_getElem?_getD, h]
theorem szR.drop {k : Nat} {l : List Int} (h : szR k l) (i : Nat) : szR k (l.drop i) := fun x hx => h x (List.mem_of_mem_drop hx)
theorem zMulZJ (v w : Value) (x : Int) (y : Bool × List Nat) (a : Nat) (hx : sz x a) (ha : a ≤ 137438953472) (hy : Lim y.2) (ly : y.2.length ≤ 137438953472) :
    Meets Try.prog 76 [v, w] [(v, zd x), (w, J y)] (fun r os fs => os = [] ∧ fs = [(r, zd (x * jv y))]) := by
  have h := zMulJ v w (cn x) y (Lim_lims _) (Nat.le_trans hx.len ha) hy ly
  rw [jv_cn] at h
  exact h
theorem pValueJ (v w : Value) (p : Row) (xj : Bool × List Nat) (k a : Nat) (hp : Fit k p) (hxl : Lim xj.2) (hxa : xj.2.length ≤ a) (hk : k + (p.length + 1) * (a + 1) ≤ 137438953472) (lp : p.length ≤ 1073741824) :
    Meets Try.prog 48 [v, w] [(v, V p), (w, J xj)] (fun r os fs => os = [] ∧ fs = [(r, zd (pev (vv p) (jv xj)))]) := by
  have hx : sz (jv xj) a := sz_jv hxl hxa
  obtain ⟨x, hxj⟩ : ∃ x, jv xj = x := ⟨_, rfl⟩
  rw [hxj] at hx ⊢
  have hm1 : (p.length + 1) * (a + 1) = p.length * (a + 1) + (a + 1) := Nat.succ_mul _ _
  have h1 := pNorm_meets v p (hp.mono (by omega)) (by omega)
  have sa := hp.szR.nrm
  have la : (nrm (vv p)).length ≤ p.length := Nat.le_trans (nrm_length_le _) (by rw [vv_len]; exact Nat.le_refl _)
  rw [← ev_nrm (vv p)]
  generalize hA : nrm (vv p) = A at *
  have hs : ∀ i, sz (pev (A.drop i) x) (k + p.length * (a + 1)) := fun i => (ev_sz (sa.drop i) hx).mono (by
    have : (A.drop i).length * (a + 1) ≤ p.length * (a + 1) := Nat.mul_le_mul_right _ (by rw [List.length_drop]; omega)
    omega)
  have hlast : pev (A.drop A.length) x = 0 := by rw [List.drop_length]; rfl
  have hstep : ∀ i, i < A.length → pev (A.drop (A.length - i)) x * x + A.getD (A.length - 1 - i) 0 = pev (A.drop (A.length - (i + 1))) x := fun i hi => by
    rw [ev_drop (i := A.length - (i + 1)) (by omega), show A.length - (i + 1) + 1 = A.length - i by omega, show A.length - (i + 1) = A.length - 1 - i by omega, Int.mul_comm]; omega
  have hfin : pev (A.drop (A.length - A.length)) x = pev A x := by rw [Nat.sub_self, List.drop_zero]
  generalize hV : (fun i => pev (A.drop (A.length - i)) x) = Vf
  have hs' : ∀ i, sz (Vf i) (k + p.length * (a + 1)) := fun i => by rw [← hV]; exact hs _
  have hstep' : ∀ i, i < A.length → Vf i * x + A.getD (A.length - 1 - i) 0 = Vf (i + 1) := fun i hi => by rw [← hV]; exact hstep i hi
  have h0' : Vf 0 = 0 := by rw [← hV]; exact hlast
  have hfin' : Vf A.length = pev A x := by rw [← hV]; exact hfin
  refine meets_of_vc Try.func48 (by kernel_rfl) rfl (by kernel_rfl) (Nat.le_of_ble_eq_true rfl) ?_
  refine box_fact (Reads.fact (d := J xj) (by repeat (first | exact List.Mem.head _ | apply List.Mem.tail))) fun px => ?_
  refine alloc_rule (d := I false []) fun o ho => ?_
  refine build0 (da := .one (.bool false)) (db := U (lims 0)) (fun S w => ⟨[.bool false], [.slice none 0 0], rfl, rd_false S w, by rw [lims_zero]; exact rd_nil S w 1 _⟩) fun z => ?_
  refine alloc_rule (d := I false []) fun s hs1 => ?_
  refine store_box (d := zd 0) 0 rfl hs1 rfl (by kernel_rfl) ?_ ?_; exact Reads.fact (by repeat (first | exact List.Mem.head _ | apply List.Mem.tail))
  refine call_fn h1 (Seals.refl _ _) (by repeat (first | exact Sub.nil _ | refine Sub.cons (by repeat (first | exact List.Mem.head _ | apply List.Mem.tail)) ?_)) ?_
  rintro x1 _ _ ⟨rfl, rfl⟩
  refine len_vd (by repeat (first | exact List.Mem.head _ | apply List.Mem.tail)) ?_
  refine loop_rule (X := Nat) (fun i => ([(3, px), (4, o), (5, s), (6, x1), (12, .int .i64 (A.length : Nat)), (13, .int .i64 (i : Nat))], [own1 s 2 1 (fun _ => zd (Vf i)), own1 o 2 1 (fun _ => I false [])], [(x1, vd A), (px, .ptr (J xj))])) (fun i => i ≤ A.length) (fun i => A.length - i) rfl ?_ ?_
  · exact again 0 (Nat.zero_le _) trivial (by repeat (first | exact trivial | refine ⟨rfl, ?_⟩ | refine ⟨i64_eq (by first | omega | (simp only; omega)), ?_⟩ | refine ⟨u64_eq (by first | omega | (simp only; omega)), ?_⟩)) (Seals.trans (Seals.box0 (by rw [h0']; rfl)) (Seals.sub (by repeat (first | exact Sub.nil _ | refine Sub.cons (by repeat (first | exact List.Mem.head _ | apply List.Mem.tail)) ?_))))
  · rintro i hi
    refine cmp_split _ rfl (fun hlt => ?_) (fun hlt => ?_)
    · have hin : i < A.length := by omega
      have hsi := hs' i
      have hsi1 := hstep' i hin
      have hai := sa.get (A.length - 1 - i)
      refine draw_rule [0, 1, 3, 4, 5, 6, 7, 8, 9, 10, 2, 11, 12] [0, 1, 2, 3, 4, 5, 6, 7, 8, 9, 10, 11, 12] (by kernel_rfl) (by kernel_rfl) ?_
      refine load_box (d := zd (Vf i)) 0 rfl hs1 rfl (load_I _ _) fun y1 => ?_
      refine load_fact (d := J xj) (by repeat (first | exact List.Mem.head _ | apply List.Mem.tail)) (load_J _) fun y2 => ?_
      refine len_vd (by repeat (first | exact List.Mem.head _ | apply List.Mem.tail)) ?_
      refine ar rfl (by first | exact ⟨by omega, by omega⟩ | (simp only [inK]; omega)) ?_
      refine ar rfl (by first | exact ⟨by omega, by omega⟩ | (simp only [inK]; omega)) ?_
      refine index_vd (by repeat (first | exact List.Mem.head _ | apply List.Mem.tail)) (A.length - 1 - i) (by omega) (by omega) fun b1 => ?_
      refine load_fact (d := zd (A.getD (A.length - 1 - i) 0)) (by repeat (first | exact List.Mem.head _ | apply List.Mem.tail)) (load_I _ _) fun y4 => ?_
      have hmul := zMulZJ y1 y2 _ xj _ hsi (by omega) hxl (by omega)
      rw [hxj] at hmul
      refine call_fn hmul (Seals.refl _ _) (by repeat (first | exact Sub.nil _ | refine Sub.cons (by repeat (first | exact List.Mem.head _ | apply List.Mem.tail)) ?_)) ?_
      rintro y3 _ _ ⟨rfl, rfl⟩
      have hadd := zAddZ y3 y4 _ _ _ _ (hsi.mul hx) hai (by omega) (by omega)
      rw [hsi1] at hadd
      refine call_fn hadd (Seals.refl _ _) (by repeat (first | exact Sub.nil _ | refine Sub.cons (by repeat (first | exact List.Mem.head _ | apply List.Mem.tail)) ?_)) ?_
      rintro y5 _ _ ⟨rfl, rfl⟩
      refine store_box (d := zd (Vf (i + 1))) 0 rfl hs1 rfl (by kernel_rfl) ?_ ?_; exact Reads.fact (by repeat (first | exact List.Mem.head _ | apply List.Mem.tail))
      refine ar rfl (by first | exact ⟨by omega, by omega⟩ | (simp only [inK]; omega)) ?_
      exact again (i + 1) (by omega) (by simp only; omega) (by repeat (first | exact trivial | refine ⟨rfl, ?_⟩ | refine ⟨i64_eq (by first | omega | (simp only; omega)), ?_⟩ | refine ⟨u64_eq (by first | omega | (simp only; omega)), ?_⟩)) (Seals.trans (Seals.box0 rfl) (Seals.sub (by repeat (first | exact Sub.nil _ | refine Sub.cons (by repeat (first | exact List.Mem.head _ | apply List.Mem.tail)) ?_))))
    · have hip : i = A.length := by omega
      subst hip
      have hsn := hs' A.length
      rw [hfin'] at hsn
      rw [hfin']
      refine load_box (d := zd (pev A x)) 0 rfl hs1 rfl (load_I _ _) fun y1 => ?_
      refine call_fn (zNormZ y1 _ _ hsn (by omega)) (Seals.refl _ _) (by repeat (first | exact Sub.nil _ | refine Sub.cons (by repeat (first | exact List.Mem.head _ | apply List.Mem.tail)) ?_)) ?_
      rintro y2 _ _ ⟨rfl, rfl⟩
      refine store_box (d := zd (pev A x)) 1 rfl ho rfl (by kernel_rfl) ?_ ?_; exact Reads.fact (by repeat (first | exact List.Mem.head _ | apply List.Mem.tail))
      refine load_box (d := zd (pev A x)) 1 rfl ho rfl (load_I _ _) fun r => ?_
      exact fin ⟨rfl, rfl⟩ (Seals.trans (Seals.drop 0 _ _) (Seals.trans (Seals.drop 0 _ _) (Seals.sub (by repeat (first | exact Sub.nil _ | refine Sub.cons (by repeat (first | exact List.Mem.head _ | apply List.Mem.tail)) ?_)))))
end Go.Proofs.Ytajkjlgddmkkaaa

namespace Go.Proofs.Ytajkjlgddmkkaaa
def dg (l : List Int) : Nat := (nrm l).length
def ld (l : List Int) : Int := l.getD (dg l - 1) 0
theorem co_ext {l m : List Int} (h : ∀ x, pev l x = pev m x) (i : Nat) : l.getD i 0 = m.getD i 0 := by rw [← co_nrm l, ev_ext h, co_nrm]
theorem dg_ext {l m : List Int} (h : ∀ x, pev l x = pev m x) : dg l = dg m := by unfold dg; rw [ev_ext h]
theorem ld_ext {l m : List Int} (h : ∀ x, pev l x = pev m x) : ld l = ld m := by unfold ld; rw [dg_ext h, co_ext h]
theorem dg_nm {l : List Int} (h : Nm l) : dg l = l.length := by unfold dg; rw [h]
theorem dg_le {l : List Int} {n : Nat} : dg l ≤ n ↔ ∀ i, n ≤ i → l.getD i 0 = 0 := by
  constructor
  · intro h i hi
    rw [← co_nrm]
    exact getD_none (Nat.le_trans h hi)
  · intro h
    refine Nat.le_of_not_lt fun hn => ?_
    have := nrm_last l (show 0 < (nrm l).length by unfold dg at hn; omega)
    rw [co_nrm] at this
    exact this (h _ (by unfold dg at hn; omega))
theorem dg_le_len (l : List Int) : dg l ≤ l.length := nrm_length_le l
theorem ld_ne {l : List Int} (h : 0 < dg l) : ld l ≠ 0 := by
  have := nrm_last l h
  rwa [co_nrm] at this
theorem dg_zero {l : List Int} : dg l = 0 ↔ ∀ x, pev l x = 0 := by
  constructor
  · intro h x
    rw [← ev_nrm, List.length_eq_zero_iff.1 h]; rfl
  · intro h
    have := dg_ext (l := l) (m := []) fun x => by rw [h]; rfl
    rw [this]; rfl
theorem dg_pos {l : List Int} (h : ¬ ∀ x, pev l x = 0) : 0 < dg l := Nat.pos_of_ne_zero fun e => h (dg_zero.1 e)
theorem co_psub (l m : List Int) (i : Nat) : (psub l m).getD i 0 = l.getD i 0 - m.getD i 0 := by
  rw [psub, co_nrm, lst_get']
  split
  · rfl
  · rw [getD_none (by omega), getD_none (by omega)]; rfl
theorem co_padd (l m : List Int) (i : Nat) : (padd l m).getD i 0 = l.getD i 0 + m.getD i 0 := by
  rw [padd, co_nrm, lst_get']
  split
  · rfl
  · rw [getD_none (by omega), getD_none (by omega)]; rfl
theorem co_map (c : Int) (l : List Int) (i : Nat) : (l.map fun y => c * y).getD i 0 = c * l.getD i 0 := by
  simp only [List.getD_eq_getElem?_getD, List.getElem?_map]
  cases l[i]? <;> simp
theorem co_prai (c : Int) (s : Nat) (l : List Int) (i : Nat) : (prai c s l).getD i 0 = if i < s then 0 else c * l.getD (i - s) 0 := by
  rw [prai, co_nrm, up_get]
  split
  · rfl
  · rw [co_map]
theorem co_ptim (c : Int) (l : List Int) (i : Nat) : (ptim c l).getD i 0 = c * l.getD i 0 := by rw [ptim, co_nrm, co_map]
/-- The product's degree and lead. -/
theorem pmul_dg {a b : List Int} (ha : 0 < dg a) (hb : 0 < dg b) : dg (pmul a b) + 1 = dg a + dg b ∧ ld (pmul a b) = ld a * ld b := by
  have ea : ld a = (nrm a).getD ((nrm a).length - 1) 0 := by rw [co_nrm]; rfl
  have eb : ld b = (nrm b).getD ((nrm b).length - 1) 0 := by rw [co_nrm]; rfl
  have h1 : ¬ (nrm a = [] ∨ nrm b = []) := by
    unfold dg at ha hb
    rintro (h | h)
    · rw [h] at ha; simp at ha
    · rw [h] at hb; simp at hb
  have hn : (lst ((nrm a).length + (nrm b).length - 1) fun y => conv (nrm a) (nrm b) (nrm a).length y).getD ((nrm a).length + (nrm b).length - 1 - 1) 0 = ld a * ld b := by
    unfold dg at ha hb
    rw [lst_get (by omega), conv, isum_one (r := (nrm a).length - 1) (by omega) fun k hk hne => by
      split
      · rw [getD_none (l := nrm b) (by omega), Int.mul_zero]
      · rfl]
    rw [if_pos (by omega), ea, eb]
    congr 2; omega
  have hne : ld a * ld b ≠ 0 := Int.mul_ne_zero (ld_ne ha) (ld_ne hb)
  have e : pmul a b = lst ((nrm a).length + (nrm b).length - 1) fun y => conv (nrm a) (nrm b) (nrm a).length y := by
    unfold pmul
    simp only
    rw [if_neg h1]
    refine nrm_of_last (.inr ?_)
    rw [lst_len, hn]; exact hne
  have hd : dg (pmul a b) = (nrm a).length + (nrm b).length - 1 := by
    rw [dg_nm (pmul_nm a b), e, lst_len]
  refine ⟨by rw [hd]; unfold dg at ha hb ⊢; omega, ?_⟩
  unfold ld
  rw [hd, e, hn]
  rfl
theorem mul_dg {a b c : List Int} (h : ∀ x, pev c x = pev a x * pev b x) (ha : 0 < dg a) (hb : 0 < dg b) : dg c + 1 = dg a + dg b ∧ ld c = ld a * ld b := by
  have e : ∀ x, pev c x = pev (pmul a b) x := fun x => by rw [h, ev_pmul]
  rw [dg_ext e, ld_ext e]
  exact pmul_dg ha hb
theorem mul_zero' {a b : List Int} (h : ∀ x, pev a x * pev b x = 0) : dg a = 0 ∨ dg b = 0 := by
  by_cases ha : 0 < dg a
  · by_cases hb : 0 < dg b
    · exfalso
      have h1 := (pmul_dg ha hb).1
      have h2 : dg (pmul a b) = 0 := dg_zero.2 fun x => by rw [ev_pmul, h]
      omega
    · right; omega
  · left; omega
theorem cancel {a u v : List Int} (ha : 0 < dg a) (h : ∀ x, pev a x * pev u x = pev a x * pev v x) (x : Int) : pev u x = pev v x := by
  have h1 : ∀ x, pev a x * pev (psub u v) x = 0 := fun x => by rw [ev_psub, Int.mul_sub, h]; omega
  rcases mul_zero' h1 with h2 | h2
  · omega
  · have := dg_zero.1 h2 x
    rw [ev_psub] at this; omega
/-- a is a divisor of b. -/
def Dv (a b : List Int) : Prop := ∃ u, ∀ x, pev b x = pev a x * pev u x
theorem Dv.refl (a : List Int) : Dv a a := ⟨[1], fun x => by simp [pev]⟩
theorem Dv.trans {a b c : List Int} (h : Dv a b) (k : Dv b c) : Dv a c := by
  obtain ⟨u, hu⟩ := h; obtain ⟨v, hv⟩ := k
  exact ⟨pmul u v, fun x => by rw [hv, hu, ev_pmul]; grind⟩
theorem Dv.zero (a : List Int) {b : List Int} (h : ∀ x, pev b x = 0) : Dv a b := ⟨[], fun x => by rw [h]; simp [pev]⟩
theorem Dv.mul_right {a b c d : List Int} (h : Dv a b) (e : ∀ x, pev d x = pev b x * pev c x) : Dv a d := by
  obtain ⟨u, hu⟩ := h
  exact ⟨pmul u c, fun x => by rw [e, hu, ev_pmul]; grind⟩
theorem Dv.add {a b c d : List Int} (h : Dv a b) (k : Dv a c) (e : ∀ x, pev d x = pev b x + pev c x) : Dv a d := by
  obtain ⟨u, hu⟩ := h; obtain ⟨v, hv⟩ := k
  exact ⟨padd u v, fun x => by rw [e, hu, hv, ev_padd]; grind⟩
theorem Dv.sub {a b c d : List Int} (h : Dv a b) (k : Dv a c) (e : ∀ x, pev d x = pev b x - pev c x) : Dv a d := by
  obtain ⟨u, hu⟩ := h; obtain ⟨v, hv⟩ := k
  exact ⟨psub u v, fun x => by rw [e, hu, hv, ev_psub]; grind⟩
theorem Dv.ext {a b c d : List Int} (h : Dv a b) (h1 : ∀ x, pev a x = pev c x) (h2 : ∀ x, pev b x = pev d x) : Dv c d := by
  obtain ⟨u, hu⟩ := h
  exact ⟨u, fun x => by rw [← h2, hu, h1]⟩
theorem Dv.deg {a b : List Int} (h : Dv a b) (hb : 0 < dg b) : 0 < dg a ∧ dg a ≤ dg b := by
  obtain ⟨u, hu⟩ := h
  have ha : 0 < dg a := dg_pos fun h => by
    have := (dg_zero (l := b)).2 fun x => by rw [hu, h]; simp
    omega
  have h2 : 0 < dg u := dg_pos fun h => by
    have := (dg_zero (l := b)).2 fun x => by rw [hu, h]; simp
    omega
  have := (mul_dg hu ha h2).1
  exact ⟨ha, by omega⟩
/-- What one step of a division leaves is of a lesser degree. -/
theorem red_dg {p q : List Int} (hq : 0 < dg q) (hp : dg q ≤ dg p) : dg (psub (prai (ld q) 0 p) (prai (ld p) (dg p - dg q) q)) < dg p := by
  have : dg (psub (prai (ld q) 0 p) (prai (ld p) (dg p - dg q) q)) ≤ dg p - 1 := dg_le.2 fun i hi => by
    rw [co_psub, co_prai, co_prai, if_neg (by omega), if_neg (by omega), Nat.sub_zero]
    by_cases h : i = dg p - 1
    · rw [h, show dg p - 1 - (dg p - dg q) = dg q - 1 by omega]
      show ld q * ld p - ld p * ld q = 0
      grind
    · rw [dg_le.1 (Nat.le_refl (dg p)) i (by omega), dg_le.1 (Nat.le_refl (dg q)) (i - (dg p - dg q)) (by omega)]; simp
  omega
theorem pseudo {q : List Int} (hq : 0 < dg q) : ∀ (n : Nat) (p : List Int), dg p ≤ n → ∃ t r, dg r < dg q ∧ ∀ x, ld q ^ (n + 1 - dg q) * pev p x = pev q x * pev t x + pev r x
  | 0, p, hp => ⟨[], p, by omega, fun x => by rw [show 0 + 1 - dg q = 0 by omega]; simp [pev]⟩
  | n + 1, p, hp => by
    by_cases h : dg p < dg q
    · refine ⟨[], ptim (ld q ^ (n + 1 + 1 - dg q)) p, ?_, fun x => by rw [ev_ptim]; simp [pev]⟩
      refine Nat.lt_of_le_of_lt (dg_le.2 fun i hi => ?_) h
      rw [co_ptim, dg_le.1 (Nat.le_refl _) i hi, Int.mul_zero]
    · have h1 := red_dg hq (Nat.le_of_not_lt h)
      obtain ⟨t, r, h2, h3⟩ := pseudo hq n _ (show dg (psub (prai (ld q) 0 p) (prai (ld p) (dg p - dg q) q)) ≤ n by omega)
      refine ⟨padd t (prai (ld q ^ (n + 1 - dg q) * ld p) (dg p - dg q) [1]), r, h2, fun x => ?_⟩
      have h4 := h3 x
      rw [ev_psub, ev_prai, ev_prai] at h4
      rw [ev_padd, ev_prai, show n + 1 + 1 - dg q = (n + 1 - dg q) + 1 by omega, Int.pow_succ]
      simp only [pev, Int.pow_zero] at h4 ⊢
      grind
-- Contents.
def cont (l : List Int) : Nat := l.foldr (fun c g => Nat.gcd c.natAbs g) 0
theorem dvd_cont {k : Nat} {l : List Int} : k ∣ cont l ↔ ∀ i, (k : Int) ∣ l.getD i 0 := by
  induction l with
  | nil => exact ⟨fun _ i => by simp, fun _ => Nat.dvd_zero k⟩
  | cons c l ih =>
    show k ∣ Nat.gcd c.natAbs (cont l) ↔ _
    rw [Nat.dvd_gcd_iff, ih]
    constructor
    · rintro ⟨h1, h2⟩ i
      cases i with
      | zero => exact Int.ofNat_dvd_left.2 h1
      | succ i => simpa using h2 i
    · intro h
      exact ⟨Int.ofNat_dvd_left.1 (by simpa using h 0), fun i => by simpa using h (i + 1)⟩
theorem cont_ext {l m : List Int} (h : ∀ x, pev l x = pev m x) : cont l = cont m :=
  Nat.dvd_antisymm (dvd_cont.2 fun i => by rw [← co_ext h]; exact dvd_cont.1 (Nat.dvd_refl _) i) (dvd_cont.2 fun i => by rw [co_ext h]; exact dvd_cont.1 (Nat.dvd_refl _) i)
theorem cont_zero {l : List Int} : cont l = 0 ↔ dg l = 0 := by
  constructor
  · intro h
    have := dvd_cont.1 (show 0 ∣ cont l from ⟨0, by omega⟩)
    refine Nat.eq_zero_of_not_pos fun hp => ld_ne hp ?_
    exact Int.zero_dvd.1 (this _)
  · intro h
    refine Nat.eq_zero_of_zero_dvd (dvd_cont.2 fun i => ?_)
    rw [dg_le.1 (Nat.le_of_eq h) i (Nat.zero_le i)]; exact ⟨0, by simp⟩
theorem cont_map (c : Int) (l : List Int) : cont (l.map fun y => c * y) = c.natAbs * cont l := by
  induction l with
  | nil => rfl
  | cons d l ih =>
    show Nat.gcd (c * d).natAbs (cont _) = c.natAbs * Nat.gcd d.natAbs (cont l)
    rw [ih, Int.natAbs_mul, Nat.gcd_mul_left]
theorem cont_mul {l m : List Int} {c : Int} (h : ∀ x, pev m x = c * pev l x) : cont m = c.natAbs * cont l := by
  rw [← cont_map]; exact cont_ext fun x => by rw [h, ev_map_mul]
/-- What a number divides. -/
theorem by_const {k : Nat} {l : List Int} (h : k ∣ cont l) : ∃ u, ∀ x, pev l x = k * pev u x := by
  refine ⟨l.map fun y => y / k, fun x => ?_⟩
  rw [← ev_map_mul]
  congr 1
  rw [List.map_map]
  have : ∀ y, y ∈ l → y = ((fun y => (k : Int) * y) ∘ fun y => y / k) y := fun y hy => by
    obtain ⟨i, hi, rfl⟩ := List.mem_iff_getElem.1 hy
    have := dvd_cont.1 h i
    rw [List.getD_eq_getElem?_getD, List.getElem?_eq_getElem hi] at this
    exact (Int.mul_ediv_cancel' this).symm
  exact (List.map_id l).symm.trans (List.map_congr_left this)
theorem prim_exists {l : List Int} (h : 0 < dg l) : ∃ u, cont u = 1 ∧ ∀ x, pev l x = cont l * pev u x := by
  obtain ⟨u, hu⟩ := by_const (Nat.dvd_refl (cont l))
  refine ⟨u, ?_, hu⟩
  have h1 := cont_mul hu
  rw [Int.natAbs_natCast] at h1
  have h2 : cont l ≠ 0 := fun e => by have := cont_zero.1 e; omega
  exact Nat.eq_of_mul_eq_mul_left (Nat.pos_of_ne_zero h2) (by omega)
/-- Without its lead. -/
def tail (l : List Int) : List Int := psub l (prai (ld l) (dg l - 1) [1])
theorem tail_dg {l : List Int} (h : 0 < dg l) : dg (tail l) < dg l := by
  have : dg (tail l) ≤ dg l - 1 := dg_le.2 fun i hi => by
    rw [tail, co_psub, co_prai, if_neg (by omega)]
    by_cases e : i = dg l - 1
    · rw [e, Nat.sub_self]; simp [ld]
    · rw [dg_le.1 (Nat.le_refl (dg l)) i (by omega), getD_none (l := [1]) (by simp; omega)]; simp
  omega
theorem tail_ev (l : List Int) (x : Int) : pev l x = pev (tail l) x + ld l * x ^ (dg l - 1) := by
  rw [tail, ev_psub, ev_prai]; simp only [pev]; grind
/-- Gauss: a content of a product is a product of contents. -/
theorem gauss : ∀ (n : Nat) (a b c : List Int), dg a + dg b ≤ n → (∀ x, pev c x = pev a x * pev b x) → cont c = cont a * cont b := by
  intro n
  induction n with
  | zero =>
    intro a b c hn h
    have h1 : dg a = 0 := by omega
    have h2 : dg c = 0 := dg_zero.2 fun x => by rw [h, dg_zero.1 h1]; simp
    rw [cont_zero.2 h1, cont_zero.2 h2]; simp
  | succ n ih =>
    intro a b c hn h
    by_cases ha : dg a = 0
    · have h2 : dg c = 0 := dg_zero.2 fun x => by rw [h, dg_zero.1 ha]; simp
      rw [cont_zero.2 ha, cont_zero.2 h2]; simp
    by_cases hb : dg b = 0
    · have h2 : dg c = 0 := dg_zero.2 fun x => by rw [h, dg_zero.1 hb]; simp
      rw [cont_zero.2 hb, cont_zero.2 h2]; simp
    obtain ⟨a1, ha1, ea⟩ := prim_exists (Nat.pos_of_ne_zero ha)
    obtain ⟨b1, hb1, eb⟩ := prim_exists (Nat.pos_of_ne_zero hb)
    have hca : cont a ≠ 0 := fun e => ha (cont_zero.1 e)
    have hcb : cont b ≠ 0 := fun e => hb (cont_zero.1 e)
    have hda : 0 < dg a1 := dg_pos fun e => ha (dg_zero.2 fun x => by rw [ea, e]; simp)
    have hdb : 0 < dg b1 := dg_pos fun e => hb (dg_zero.2 fun x => by rw [eb, e]; simp)
    have da : dg a1 ≤ dg a := ((show Dv a1 a from ⟨[(cont a : Int)], fun x => by rw [ea]; simp only [pev]; grind⟩).deg (by omega)).2
    have db : dg b1 ≤ dg b := ((show Dv b1 b from ⟨[(cont b : Int)], fun x => by rw [eb]; simp only [pev]; grind⟩).deg (by omega)).2
    have key : cont (pmul a1 b1) = 1 := by
      have hk : ∀ (u v : List Int), dg u + dg v ≤ n + 1 → cont u = 1 → cont v = 1 → 0 < dg u → Nat.gcd (cont (pmul u v)) (ld u).natAbs = 1 := fun u v hl hu hv hd => by
        have t := tail_dg hd
        have e1 := ih (tail u) v (pmul (tail u) v) (by omega) (ev_pmul _ _)
        rw [hv, Nat.mul_one] at e1
        have g1 : Nat.gcd (cont (pmul u v)) (ld u).natAbs ∣ cont (tail u) := by
          rw [← e1]
          refine dvd_cont.2 fun i => ?_
          have e2 : ∀ x, pev (pmul (tail u) v) x = pev (psub (pmul u v) (prai (ld u) (dg u - 1) v)) x := fun x => by
            rw [ev_pmul, ev_psub, ev_pmul, ev_prai, tail_ev u x]; grind
          rw [co_ext e2, co_psub, co_prai]
          refine Int.dvd_sub (Int.dvd_trans (Int.natCast_dvd_natCast.2 (Nat.gcd_dvd_left _ _)) (dvd_cont.1 (Nat.dvd_refl _) i)) ?_
          split
          · exact ⟨0, by simp⟩
          · exact Int.dvd_trans (Int.ofNat_dvd_left.2 (Nat.gcd_dvd_right _ _)) ⟨_, rfl⟩
        have g2 : Nat.gcd (cont (pmul u v)) (ld u).natAbs ∣ cont u := by
          refine dvd_cont.2 fun i => ?_
          have e3 : ∀ x, pev u x = pev (padd (tail u) (prai (ld u) (dg u - 1) [1])) x := fun x => by
            rw [ev_padd, ev_prai, tail_ev u x]; simp only [pev]; grind
          rw [co_ext e3, co_padd, co_prai]
          refine Int.dvd_add (dvd_cont.1 g1 i) ?_
          split
          · exact ⟨0, by simp⟩
          · exact Int.dvd_trans (Int.ofNat_dvd_left.2 (Nat.gcd_dvd_right _ _)) ⟨_, rfl⟩
        rw [hu] at g2
        exact Nat.dvd_one.1 g2
      have k1 := hk a1 b1 (by omega) ha1 hb1 hda
      have k2 := hk b1 a1 (by omega) hb1 ha1 hdb
      have e4 : cont (pmul b1 a1) = cont (pmul a1 b1) := cont_ext fun x => by rw [ev_pmul, ev_pmul, Int.mul_comm]
      rw [e4] at k2
      have h5 : (cont (pmul a1 b1) : Int) ∣ ld a1 * ld b1 := by
        rw [← (pmul_dg hda hdb).2]
        exact dvd_cont.1 (Nat.dvd_refl _) _
      have h6 : cont (pmul a1 b1) ∣ (ld a1).natAbs * (ld b1).natAbs := by rw [← Int.natAbs_mul]; exact Int.ofNat_dvd_left.1 h5
      have h7 : cont (pmul a1 b1) ∣ (ld b1).natAbs := Nat.Coprime.dvd_of_dvd_mul_left k1 h6
      have h8 : Nat.gcd (cont (pmul a1 b1)) (ld b1).natAbs = cont (pmul a1 b1) := Nat.gcd_eq_left h7
      omega
    have e5 : ∀ x, pev c x = ((cont a * cont b : Nat) : Int) * pev (pmul a1 b1) x := fun x => by
      rw [h, ea, eb, ev_pmul]; push_cast; grind
    rw [cont_mul e5, key, Int.natAbs_natCast, Nat.mul_one]
theorem cont_prod {a b c : List Int} (h : ∀ x, pev c x = pev a x * pev b x) : cont c = cont a * cont b := gauss _ a b c (Nat.le_refl _) h
/-- What a primitive one divides but for a number, it divides. -/
theorem Dv.prim {a b : List Int} {k : Int} (ha : cont a = 1) (hk : k ≠ 0) (h : Dv a (b.map fun y => k * y)) : Dv a b := by
  obtain ⟨u, hu⟩ := h
  have h1 := cont_prod hu
  rw [ha, Nat.one_mul, cont_map] at h1
  obtain ⟨v, hv⟩ := by_const (k := k.natAbs) (l := u) ⟨cont b, by rw [h1]⟩
  have h2 : ∀ x, k * pev b x = pev a x * (k.natAbs * pev v x) := fun x => by rw [← hv, ← hu, ev_map_mul]
  refine ⟨v.map fun y => (k.sign) * y, fun x => ?_⟩
  rw [ev_map_mul]
  have h3 := h2 x
  have h4 : (k.natAbs : Int) = k * k.sign := by rw [Int.mul_sign_self]
  rw [h4] at h3
  refine Int.eq_of_mul_eq_mul_left hk ?_
  rw [h3]; grind
theorem Dv.cnt {a b : List Int} (h : Dv a b) : cont a ∣ cont b := by
  obtain ⟨u, hu⟩ := h
  exact ⟨_, cont_prod hu⟩
end Go.Proofs.Ytajkjlgddmkkaaa

namespace Go.Proofs.Ytajkjlgddmkkaaa
/-- A greatest common divisor, its lead not below 0. -/
def Gc (g p q : List Int) : Prop := Dv g p ∧ Dv g q ∧ (∀ h, Dv h p → Dv h q → Dv h g) ∧ 0 ≤ ld g
theorem Gc.ext {g g' p p' q q' : List Int} (h : Gc g p q) (e : ∀ x, pev g x = pev g' x) (e1 : ∀ x, pev p x = pev p' x) (e2 : ∀ x, pev q x = pev q' x) : Gc g' p' q' :=
  ⟨h.1.ext e e1, h.2.1.ext e e2, fun d h1 h2 => (h.2.2.1 d (h1.ext (fun _ => rfl) fun x => (e1 x).symm) (h2.ext (fun _ => rfl) fun x => (e2 x).symm)).ext (fun _ => rfl) e, by rw [← ld_ext e]; exact h.2.2.2⟩
/-- The content, with the sign of the lead. -/
def scont (l : List Int) : Int := if ld l < 0 then - (cont l : Int) else cont l
def pprim (l : List Int) : List Int := nrm ((nrm l).map fun y => y / scont l)
theorem scont_natAbs (l : List Int) : (scont l).natAbs = cont l := by
  unfold scont; split <;> omega
theorem pprim_ev (l : List Int) (x : Int) : pev l x = scont l * pev (pprim l) x := by
  rw [pprim, ev_nrm, ← ev_map_mul, List.map_map]
  rw [← ev_nrm l]
  congr 1
  have : ∀ y, y ∈ nrm l → y = ((fun y => scont l * y) ∘ fun y => y / scont l) y := fun y hy => by
    obtain ⟨i, hi, rfl⟩ := List.mem_iff_getElem.1 hy
    have h1 := dvd_cont.1 (Nat.dvd_refl (cont l)) i
    rw [← co_nrm, List.getD_eq_getElem?_getD, List.getElem?_eq_getElem hi] at h1
    have h2 : scont l ∣ (nrm l)[i] := by
      rw [← Int.natAbs_dvd, scont_natAbs]; exact h1
    exact (Int.mul_ediv_cancel' h2).symm
  exact (List.map_id _).symm.trans (List.map_congr_left this)
theorem pprim_nm (l : List Int) : Nm (pprim l) := nrm_nrm _
theorem pprim_zero {l : List Int} (h : dg l = 0) : pprim l = [] := by
  unfold pprim
  rw [List.length_eq_zero_iff.1 h]; rfl
theorem pprim_dg (l : List Int) : dg (pprim l) = dg l := by
  by_cases h : dg l = 0
  · rw [pprim_zero h, h]; rfl
  have h0 : scont l ≠ 0 := fun e => h (cont_zero.1 (by have := scont_natAbs l; omega))
  have e : ∀ x, pev l x = pev [scont l] x * pev (pprim l) x := fun x => by rw [pprim_ev]; simp [pev]
  have h1 : 0 < dg (pprim l) := dg_pos fun e1 => h (dg_zero.2 fun x => by rw [pprim_ev, e1]; simp)
  have h2 : dg [scont l] = 1 := by simp [dg, nrm, h0]
  have := (mul_dg e (by omega) h1).1
  omega
theorem pprim_cont {l : List Int} (h : 0 < dg l) : cont (pprim l) = 1 := by
  have h1 := cont_mul (pprim_ev l)
  rw [scont_natAbs] at h1
  have h2 : cont l ≠ 0 := fun e => by have := cont_zero.1 e; omega
  exact Nat.eq_of_mul_eq_mul_left (Nat.pos_of_ne_zero h2) (by omega)
theorem pprim_ld {l : List Int} (h : 0 < dg l) : 0 < ld (pprim l) := by
  have h1 := ld_ne (l := pprim l) (by rw [pprim_dg]; exact h)
  have h2 : ld l = scont l * ld (pprim l) := by
    have e : ∀ x, pev l x = pev (ptim (scont l) (pprim l)) x := fun x => by rw [ev_ptim, ← pprim_ev]
    unfold ld
    rw [co_ext e, co_ptim, pprim_dg]
  have h3 := ld_ne h
  unfold scont at h2
  refine Int.not_le.1 fun hn => ?_
  have h4 : ld (pprim l) < 0 := by omega
  have hc : (0 : Int) ≤ cont l := Int.natCast_nonneg _
  split at h2
  · have := Int.mul_nonneg_of_nonpos_of_nonpos (show -(cont l : Int) ≤ 0 by omega) (Int.le_of_lt h4); omega
  · have := Int.mul_nonpos_of_nonneg_of_nonpos hc (Int.le_of_lt h4); omega
theorem prim_dv {h r : List Int} (hh : cont h = 1) : Dv h (pprim r) ↔ Dv h r := by
  constructor
  · rintro ⟨u, hu⟩
    exact ⟨ptim (scont r) u, fun x => by rw [pprim_ev, hu, ev_ptim]; grind⟩
  · intro hd
    by_cases h0 : dg r = 0
    · exact Dv.zero _ fun x => by rw [pprim_zero h0]; rfl
    have h1 : scont r ≠ 0 := fun e => h0 (cont_zero.1 (by have := scont_natAbs r; omega))
    exact Dv.prim hh h1 (hd.ext (fun _ => rfl) fun x => by rw [ev_map_mul, ← pprim_ev])
theorem gcd_step {a b t r h : List Int} {k : Int} (hh : cont h = 1) (hk : k ≠ 0) (e : ∀ x, k * pev a x = pev b x * pev t x + pev r x) : Dv h a ∧ Dv h b ↔ Dv h b ∧ Dv h (pprim r) := by
  rw [prim_dv hh]
  constructor
  · rintro ⟨h1, h2⟩
    refine ⟨h2, (h1.mul_right (c := [k]) (d := ptim k a) fun x => by rw [ev_ptim]; simp only [pev]; grind).sub (h2.mul_right (c := t) (d := pmul b t) fun x => ev_pmul _ _ _) fun x => ?_⟩
    rw [ev_ptim, ev_pmul, e]; omega
  · rintro ⟨h1, h2⟩
    refine ⟨Dv.prim hh hk ((h1.mul_right (c := t) (d := pmul b t) fun x => ev_pmul _ _ _).add h2 fun x => ?_), h1⟩
    rw [ev_map_mul, e, ev_pmul]
theorem gcd_end {p q a : List Int} (ha : 0 < dg a → cont a = 1 ∧ 0 < ld a) (hz : dg a = 0 → dg p = 0 ∧ dg q = 0)
    (h : ∀ h, cont h = 1 → (Dv h a ↔ Dv h (pprim p) ∧ Dv h (pprim q))) : Gc (ptim (Nat.gcd (cont p) (cont q) : Nat) a) p q := by
  by_cases h0 : dg a = 0
  · obtain ⟨h1, h2⟩ := hz h0
    have e : ∀ x, pev (ptim (Nat.gcd (cont p) (cont q) : Nat) a) x = 0 := fun x => by rw [ev_ptim, dg_zero.1 h0]; simp
    refine ⟨Dv.zero _ (dg_zero.1 h1), Dv.zero _ (dg_zero.1 h2), fun d _ _ => Dv.zero _ e, ?_⟩
    unfold ld; rw [dg_le.1 (Nat.le_of_eq (dg_zero.2 e)) _ (Nat.zero_le _)]; exact Int.le_refl _
  obtain ⟨ha1, ha2⟩ := ha (by omega)
  obtain ⟨k1, k2⟩ := (h a ha1).1 (Dv.refl a)
  have side : ∀ (p : List Int) (c : Nat), c ∣ cont p → Dv a (pprim p) → Dv (ptim (c : Nat) a) p := fun p c hc hd => by
    obtain ⟨u, hu⟩ := hd
    obtain ⟨s, hs⟩ : (c : Int) ∣ scont p := by rw [← Int.dvd_natAbs, scont_natAbs]; exact Int.natCast_dvd_natCast.2 hc
    exact ⟨ptim s u, fun x => by rw [pprim_ev, hu, ev_ptim, ev_ptim, hs]; grind⟩
  refine ⟨side p _ (Nat.gcd_dvd_left _ _) k1, side q _ (Nat.gcd_dvd_right _ _) k2, fun d hp hq => ?_, ?_⟩
  · by_cases hd : dg d = 0
    · have z : ∀ {p : List Int}, Dv d p → cont p = 0 := fun ⟨u, hu⟩ => cont_zero.2 (dg_zero.2 fun x => by rw [hu, dg_zero.1 hd]; simp)
      exact Dv.zero _ fun x => by rw [ev_ptim, z hp, z hq]; simp
    have hd : 0 < dg d := by omega
    have hdp : Dv (pprim d) d := ⟨[scont d], fun x => by rw [pprim_ev]; simp only [pev]; grind⟩
    have h1 := (h (pprim d) (pprim_cont hd)).2 ⟨(prim_dv (pprim_cont hd)).2 (hdp.trans hp), (prim_dv (pprim_cont hd)).2 (hdp.trans hq)⟩
    obtain ⟨u, hu⟩ := h1
    have hc : cont d ∣ Nat.gcd (cont p) (cont q) := Nat.dvd_gcd hp.cnt hq.cnt
    obtain ⟨s, hs⟩ : scont d ∣ (Nat.gcd (cont p) (cont q) : Nat) := by rw [← Int.natAbs_dvd, scont_natAbs]; exact Int.natCast_dvd_natCast.2 hc
    exact ⟨ptim s u, fun x => by rw [ev_ptim, ev_ptim, hu, hs, pprim_ev d]; grind⟩
  · have e : ld (ptim (Nat.gcd (cont p) (cont q) : Nat) a) = if Nat.gcd (cont p) (cont q) = 0 then 0 else (Nat.gcd (cont p) (cont q) : Nat) * ld a := by
      by_cases hg : Nat.gcd (cont p) (cont q) = 0
      · rw [if_pos hg]
        unfold ld; rw [co_ptim, hg]; simp
      · rw [if_neg hg]
        have e : ∀ x, pev (ptim (Nat.gcd (cont p) (cont q) : Nat) a) x = pev [((Nat.gcd (cont p) (cont q) : Nat) : Int)] x * pev a x := fun x => by rw [ev_ptim]; simp [pev]
        have h2 : dg [((Nat.gcd (cont p) (cont q) : Nat) : Int)] = 1 := by simp only [dg, nrm]; rw [if_neg (by omega)]; rfl
        have h3 : ld [((Nat.gcd (cont p) (cont q) : Nat) : Int)] = (Nat.gcd (cont p) (cont q) : Nat) := by unfold ld; rw [h2]; rfl
        rw [(mul_dg e (by omega) (by omega)).2, h3]
    rw [e]
    split
    · exact Int.le_refl _
    · exact Int.mul_nonneg (Int.natCast_nonneg _) (Int.le_of_lt ha2)
end Go.Proofs.Ytajkjlgddmkkaaa

namespace Go.Proofs.Ytajkjlgddmkkaaa
open Go.RowKit
theorem cont_snoc (l : List Int) (c : Int) : cont (l ++ [c]) = Nat.gcd (cont l) c.natAbs := by
  induction l with
  | nil => show Nat.gcd c.natAbs 0 = Nat.gcd 0 c.natAbs; simp
  | cons d l ih =>
    show Nat.gcd d.natAbs (cont (l ++ [c])) = Nat.gcd (Nat.gcd d.natAbs (cont l)) c.natAbs
    rw [ih, Nat.gcd_assoc]
theorem cont_sz {l : List Int} {k : Nat} (h : szR k l) : sz (cont l : Nat) k := by
  unfold sz
  rw [Int.natAbs_natCast]
  induction l with
  | nil => exact Nat.pow_pos (by decide)
  | cons c l ih =>
    have h1 := ih fun y hy => h y (.tail _ hy)
    have h2 := h c (.head _)
    show Nat.gcd c.natAbs (cont l) < _
    by_cases e : c.natAbs = 0
    · rw [e, Nat.gcd_zero_left]; exact h1
    · exact Nat.lt_of_le_of_lt (Nat.gcd_le_left _ (Nat.pos_of_ne_zero e)) h2
theorem szR.take {k : Nat} {l : List Int} (h : szR k l) (i : Nat) : szR k (l.take i) := fun x hx => h x (List.mem_of_mem_take hx)
theorem cont_take {l : List Int} {i : Nat} (h : i < l.length) : cont (l.take (i + 1)) = Nat.gcd (cont (l.take i)) (l.getD i 0).natAbs := by
  rw [take_snoc' 0 h, cont_snoc]
theorem jv_abs (x : Bool × List Nat) : (jv x).natAbs = nv x.2 := iv_abs _ _
theorem zGcdJ (v w : Value) (x y : Bool × List Nat) (hx : Lim x.2) (lx : x.2.length ≤ 137438953472) (hy : Lim y.2) (ly : y.2.length ≤ 137438953472) :
    Meets Try.prog 78 [v, w] [(v, J x), (w, J y)] (fun r os fs => os = [] ∧ fs = [(r, zd (Nat.gcd (jv x).natAbs (jv y).natAbs : Nat))]) := by
  rw [jv_abs, jv_abs]
  exact zgcd_meets v w x.1 y.1 x.2 y.2 hx hy lx ly
theorem zGcdZ (v w : Value) (x y : Int) (a b : Nat) (hx : sz x a) (hy : sz y b) (ha : a ≤ 137438953472) (hb : b ≤ 137438953472) :
    Meets Try.prog 78 [v, w] [(v, zd x), (w, zd y)] (fun r os fs => os = [] ∧ fs = [(r, zd (Nat.gcd x.natAbs y.natAbs : Nat))]) := by
  have h := zGcdJ v w (cn x) (cn y) (Lim_lims _) (Nat.le_trans hx.len ha) (Lim_lims _) (Nat.le_trans hy.len hb)
  rw [jv_cn, jv_cn] at h
  exact h
theorem zAbsZ (v : Value) (x : Int) (a : Nat) (hx : sz x a) (ha : a ≤ 137438953472) :
    Meets Try.prog 105 [v] [(v, zd x)] (fun r os fs => os = [] ∧ fs = [(r, zd (x.natAbs : Nat))]) := by
  have h := zabs_meets v (decide (x < 0)) (lims x.natAbs) (Lim_lims _) (Nat.le_trans hx.len ha)
  rw [nv_lims] at h
  exact h
theorem pContent_meets (v : Value) (p : Row) (k : Nat) (hp : Fit k p) (hk : k ≤ 137438953472) :
    Meets Try.prog 79 [v] [(v, V p)] (fun r os fs => os = [] ∧ fs = [(r, zd (cont (vv p) : Nat))]) := by
  have hs : ∀ i, sz (cont ((vv p).take i) : Nat) k := fun i => cont_sz (hp.szR.take i)
  have hst : ∀ i, i < p.length → Nat.gcd (cont ((vv p).take i)) (jv (p.getD i z0)).natAbs = cont ((vv p).take (i + 1)) := fun i hi => by
    rw [cont_take (by rw [vv_len]; exact hi), vv_get p i hi]
  have hlast : cont ((vv p).take p.length) = cont (vv p) := by rw [List.take_of_length_le (by rw [vv_len]; exact Nat.le_refl _)]
  have h00 : cont ((vv p).take 0) = 0 := rfl
  generalize hC : (fun i => cont ((vv p).take i)) = C
  have hs' : ∀ i, sz (C i : Nat) k := fun i => by rw [← hC]; exact hs i
  have hst' : ∀ i, i < p.length → Nat.gcd (C i) (jv (p.getD i z0)).natAbs = C (i + 1) := fun i hi => by rw [← hC]; exact hst i hi
  have hlast' : C p.length = cont (vv p) := by rw [← hC]; exact hlast
  have h0' : C 0 = 0 := by rw [← hC]; exact h00
  refine meets_of_vc Try.func79 (by kernel_rfl) rfl (by kernel_rfl) (Nat.le_of_ble_eq_true rfl) ?_
  refine alloc_rule (d := I false []) fun o ho => ?_
  refine build0 (da := .one (.bool false)) (db := U (lims 0)) (fun S w => ⟨[.bool false], [.slice none 0 0], rfl, rd_false S w, by rw [lims_zero]; exact rd_nil S w 1 _⟩) fun z => ?_
  refine alloc_rule (d := I false []) fun s hs1 => ?_
  refine store_box (d := zd 0) 0 rfl hs1 rfl (by kernel_rfl) ?_ ?_; exact Reads.fact (by repeat (first | exact List.Mem.head _ | apply List.Mem.tail))
  refine len_fact (by repeat (first | exact List.Mem.head _ | apply List.Mem.tail)) fun _ => ?_
  refine loop_rule (X := Nat) (fun i => ([(2, o), (3, s), (7, v), (8, .int .i64 (p.length : Nat)), (9, .int .i64 (i : Nat))], [own1 s 2 1 (fun _ => zd (C i : Nat)), own1 o 2 1 (fun _ => I false [])], [(v, V p)])) (fun i => i ≤ p.length) (fun i => p.length - i) rfl ?_ ?_
  · exact again 0 (Nat.zero_le _) trivial (by repeat (first | exact trivial | refine ⟨rfl, ?_⟩ | refine ⟨i64_eq (by first | omega | (simp only; omega)), ?_⟩ | refine ⟨u64_eq (by first | omega | (simp only; omega)), ?_⟩)) (Seals.trans (Seals.box0 (by rw [h0']; rfl)) (Seals.sub (by repeat (first | exact Sub.nil _ | refine Sub.cons (by repeat (first | exact List.Mem.head _ | apply List.Mem.tail)) ?_))))
  · rintro i hi
    refine cmp_split _ rfl (fun hlt => ?_) (fun hlt => ?_)
    · have hin : i < p.length := by omega
      have hsi := hs' i
      have hpi := hp.get i
      refine index_fact (by repeat (first | exact List.Mem.head _ | apply List.Mem.tail)) i rfl hin fun b1 => ?_
      refine load_fact (d := J (p.getD i z0)) (by repeat (first | exact List.Mem.head _ | apply List.Mem.tail)) (load_J _) fun y1 => ?_
      refine alloc_rule (d := I false []) fun q hq => ?_
      refine store_box (d := J (p.getD i z0)) 0 rfl hq rfl (by kernel_rfl) ?_ ?_; exact Reads.fact (by repeat (first | exact List.Mem.head _ | apply List.Mem.tail))
      refine load_box (d := zd (C i : Nat)) 1 rfl hs1 rfl (load_I _ _) fun y2 => ?_
      refine load_box (d := J (p.getD i z0)) 0 rfl hq rfl (load_J _) fun y3 => ?_
      have hg := zGcdJ y2 y3 (cn (C i : Nat)) (p.getD i z0) (Lim_lims _) (Nat.le_trans hsi.len hk) hpi.1 (by omega)
      rw [jv_cn, Int.natAbs_natCast, hst' i hin] at hg
      refine call_fn hg (Seals.refl _ _) (by repeat (first | exact Sub.nil _ | refine Sub.cons (by repeat (first | exact List.Mem.head _ | apply List.Mem.tail)) ?_)) ?_
      rintro y4 _ _ ⟨rfl, rfl⟩
      refine store_box (d := zd (C (i + 1) : Nat)) 1 rfl hs1 rfl (by kernel_rfl) ?_ ?_; exact Reads.fact (by repeat (first | exact List.Mem.head _ | apply List.Mem.tail))
      refine ar rfl (by first | exact ⟨by omega, by omega⟩ | (simp only [inK]; omega)) ?_
      exact again (i + 1) (by omega) (by simp only; omega) (by repeat (first | exact trivial | refine ⟨rfl, ?_⟩ | refine ⟨i64_eq (by first | omega | (simp only; omega)), ?_⟩ | refine ⟨u64_eq (by first | omega | (simp only; omega)), ?_⟩)) (Seals.trans (Seals.drop 0 _ _) (Seals.trans (Seals.box0 rfl) (Seals.sub (by repeat (first | exact Sub.nil _ | refine Sub.cons (by repeat (first | exact List.Mem.head _ | apply List.Mem.tail)) ?_)))))
    · have hip : i = p.length := by omega
      subst hip
      have hsn := hs' p.length
      rw [hlast'] at hsn
      rw [hlast']
      have hab := fun y => zAbsZ y _ _ hsn hk
      simp only [Int.natAbs_natCast] at hab
      refine load_box (d := zd (cont (vv p) : Nat)) 0 rfl hs1 rfl (load_I _ _) fun y1 => ?_
      refine call_fn (hab y1) (Seals.refl _ _) (by repeat (first | exact Sub.nil _ | refine Sub.cons (by repeat (first | exact List.Mem.head _ | apply List.Mem.tail)) ?_)) ?_
      rintro y2 _ _ ⟨rfl, rfl⟩
      refine store_box (d := zd (cont (vv p) : Nat)) 1 rfl ho rfl (by kernel_rfl) ?_ ?_; exact Reads.fact (by repeat (first | exact List.Mem.head _ | apply List.Mem.tail))
      refine load_box (d := zd (cont (vv p) : Nat)) 1 rfl ho rfl (load_I _ _) fun r => ?_
      exact fin ⟨rfl, rfl⟩ (Seals.trans (Seals.drop 0 _ _) (Seals.trans (Seals.drop 0 _ _) (Seals.sub (by repeat (first | exact Sub.nil _ | refine Sub.cons (by repeat (first | exact List.Mem.head _ | apply List.Mem.tail)) ?_)))))
/-- Content, over what the caller owns. -/
theorem content_call {K : Cont} {os : List Own} {fs : List Fact} (pos : Nat) {v : Value} {l : List Int} {k : Nat} (h : nthOwn os pos = some (ownL 2 J z0 v (l.map cn))) (hs : isSl v) (hp : szR k l) (hk : k ≤ 137438953472)
    (kk : ∀ r, K r os ((r, zd (cont l : Nat)) :: fs)) : CallK Try.prog false (.func (.func 79) #[] #[]) [v] os fs K := by
  have hs0 : ∀ i, sz (cont (l.take i) : Nat) k := fun i => cont_sz (hp.take i)
  have hst : ∀ i, i < l.length → Nat.gcd (cont (l.take i)) (l.getD i 0).natAbs = cont (l.take (i + 1)) := fun i hi => by
    rw [cont_take hi]
  have hlast : cont (l.take l.length) = cont l := by rw [List.take_of_length_le (Nat.le_refl _)]
  have h00 : cont (l.take 0) = 0 := rfl
  generalize hC : (fun i => cont (l.take i)) = C
  have hs' : ∀ i, sz (C i : Nat) k := fun i => by rw [← hC]; exact hs0 i
  have hst' : ∀ i, i < l.length → Nat.gcd (C i) (l.getD i 0).natAbs = C (i + 1) := fun i hi => by rw [← hC]; exact hst i hi
  have hlast' : C l.length = cont l := by rw [← hC]; exact hlast
  have h0' : C 0 = 0 := by rw [← hC]; exact h00
  have hml : (l.map cn).length = l.length := List.length_map _
  refine call_inline Try.func79 (by kernel_rfl) rfl (by kernel_rfl) (Nat.le_of_ble_eq_true rfl) ?_
  refine alloc_rule (d := I false []) fun o ho => ?_
  refine build0 (da := .one (.bool false)) (db := U (lims 0)) (fun S w => ⟨[.bool false], [.slice none 0 0], rfl, rd_false S w, by rw [lims_zero]; exact rd_nil S w 1 _⟩) fun z => ?_
  refine alloc_rule (d := I false []) fun s hs1 => ?_
  refine store_box (d := zd 0) 0 rfl hs1 rfl (by kernel_rfl) ?_ ?_; exact Reads.fact (by repeat (first | exact List.Mem.head _ | apply List.Mem.tail))
  refine len_own (pos + 2) h hs fun _ => ?_
  refine loop_rule (X := Nat) (fun i => ([(2, o), (3, s), (7, v), (8, .int .i64 ((l.map cn).length : Nat)), (9, .int .i64 (i : Nat))], own1 s 2 1 (fun _ => zd (C i : Nat)) :: own1 o 2 1 (fun _ => I false []) :: os, fs)) (fun i => i ≤ l.length) (fun i => l.length - i) rfl ?_ ?_
  · exact again 0 (Nat.zero_le _) trivial (by repeat (first | exact trivial | refine ⟨rfl, ?_⟩ | refine ⟨i64_eq (by first | omega | (simp only; omega)), ?_⟩ | refine ⟨u64_eq (by first | omega | (simp only; omega)), ?_⟩)) (Seals.trans (Seals.box0 (by rw [h0']; rfl)) (Seals.sub (fun F hF => by repeat (first | exact hF | apply List.Mem.tail))))
  · rintro i hi
    refine cmp_split _ rfl (fun hlt => ?_) (fun hlt => ?_)
    · have hin : i < l.length := by omega
      have hsi := hs' i
      have hpi := hp.get i
      refine index_elem (pos + 2) h hs i rfl (by omega) ?_
      refine load_elem' (d := zd (l.getD i 0)) (pos + 2) h i (by omega) (by rw [map_cn_get hin]; rfl) (load_I _ _) fun y1 => ?_
      refine alloc_rule (d := I false []) fun q hq => ?_
      refine store_box (d := zd (l.getD i 0)) 0 rfl hq rfl (by kernel_rfl) ?_ ?_; exact Reads.fact (by repeat (first | exact List.Mem.head _ | apply List.Mem.tail))
      refine load_box (d := zd (C i : Nat)) 1 rfl hs1 rfl (load_I _ _) fun y2 => ?_
      refine load_box (d := zd (l.getD i 0)) 0 rfl hq rfl (load_I _ _) fun y3 => ?_
      have hg := zGcdZ y2 y3 _ _ _ _ hsi hpi hk hk
      rw [Int.natAbs_natCast, hst' i hin] at hg
      refine call_fn hg (Seals.refl _ _) (by repeat (first | exact Sub.nil _ | refine Sub.cons (by repeat (first | exact List.Mem.head _ | apply List.Mem.tail)) ?_)) ?_
      rintro y4 _ _ ⟨rfl, rfl⟩
      refine store_box (d := zd (C (i + 1) : Nat)) 1 rfl hs1 rfl (by kernel_rfl) ?_ ?_; exact Reads.fact (by repeat (first | exact List.Mem.head _ | apply List.Mem.tail))
      refine ar rfl (by first | exact ⟨by omega, by omega⟩ | (simp only [inK]; omega)) ?_
      exact again (i + 1) (by omega) (by simp only; omega) (by repeat (first | exact trivial | refine ⟨rfl, ?_⟩ | refine ⟨i64_eq (by first | omega | (simp only; omega)), ?_⟩ | refine ⟨u64_eq (by first | omega | (simp only; omega)), ?_⟩)) (Seals.trans (Seals.drop 0 _ _) (Seals.trans (Seals.box0 rfl) (Seals.sub (fun F hF => by repeat (first | exact hF | apply List.Mem.tail)))))
    · have hip : i = l.length := by omega
      subst hip
      have hsn := hs' l.length
      rw [hlast'] at hsn
      rw [hlast']
      have hab := fun y => zAbsZ y _ _ hsn hk
      simp only [Int.natAbs_natCast] at hab
      refine load_box (d := zd (cont l : Nat)) 0 rfl hs1 rfl (load_I _ _) fun y1 => ?_
      refine call_fn (hab y1) (Seals.refl _ _) (by repeat (first | exact Sub.nil _ | refine Sub.cons (by repeat (first | exact List.Mem.head _ | apply List.Mem.tail)) ?_)) ?_
      rintro y2 _ _ ⟨rfl, rfl⟩
      refine store_box (d := zd (cont l : Nat)) 1 rfl ho rfl (by kernel_rfl) ?_ ?_; exact Reads.fact (by repeat (first | exact List.Mem.head _ | apply List.Mem.tail))
      refine load_box (d := zd (cont l : Nat)) 1 rfl ho rfl (load_I _ _) fun r => ?_
      exact fin (kk r) (Seals.trans (Seals.drop 0 _ _) (Seals.trans (Seals.drop 0 _ _) (Seals.sub (fun F hF => by
        rcases List.mem_cons.1 hF with rfl | hF
        · exact List.Mem.head _
        · repeat (first | exact hF | apply List.Mem.tail)))))
/-- lead, over what the caller owns. -/
theorem lead_call {K : Cont} {os : List Own} {fs : List Fact} (pos : Nat) {v : Value} {l : List Int} (h : nthOwn os pos = some (ownL 2 J z0 v (l.map cn))) (hs : isSl v)
    (kk : ∀ r, K r os ((r, zd (l.getD (l.length - 1) 0)) :: fs)) : CallK Try.prog false (.func (.func 106) #[] #[]) [v] os fs K := by
  have hml : (l.map cn).length = l.length := List.length_map _
  refine call_inline Try.func106 (by kernel_rfl) rfl (by kernel_rfl) (Nat.le_of_ble_eq_true rfl) ?_
  refine alloc_rule (d := I false []) fun o ho => ?_
  refine len_own (pos + 1) h hs fun _ => ?_
  refine cmp_split _ rfl (fun h0 => ?_) (fun h0 => ?_)
  · have h0 : l = [] := List.length_eq_zero_iff.1 (by omega)
    subst h0
    refine build0 (da := .one (.bool false)) (db := U (lims 0)) (fun S w => ⟨[.bool false], [.slice none 0 0], rfl, rd_false S w, by rw [lims_zero]; exact rd_nil S w 1 _⟩) fun z => ?_
    refine store_box (d := zd 0) 0 rfl ho rfl (by kernel_rfl) ?_ ?_; exact Reads.fact (by repeat (first | exact List.Mem.head _ | apply List.Mem.tail))
    refine load_box (d := zd 0) 0 rfl ho rfl (load_I _ _) fun r => ?_
    exact fin (kk r) (Seals.trans (Seals.drop 0 _ _) (Seals.sub (fun F hF => by
        rcases List.mem_cons.1 hF with rfl | hF
        · exact List.Mem.head _
        · repeat (first | exact hF | apply List.Mem.tail))))
  · refine len_own (pos + 1) h hs fun _ => ?_
    refine ar rfl (by first | exact ⟨by omega, by omega⟩ | (simp only [inK]; omega)) ?_
    refine index_elem (pos + 1) h hs (l.length - 1) (by omega) (by omega) ?_
    refine load_elem' (d := zd (l.getD (l.length - 1) 0)) (pos + 1) h (l.length - 1) (by omega) (by rw [map_cn_get (by omega)]; rfl) (load_I _ _) fun y1 => ?_
    refine store_box (d := zd (l.getD (l.length - 1) 0)) 0 rfl ho rfl (by kernel_rfl) ?_ ?_; exact Reads.fact (by repeat (first | exact List.Mem.head _ | apply List.Mem.tail))
    refine load_box (d := zd (l.getD (l.length - 1) 0)) 0 rfl ho rfl (load_I _ _) fun r => ?_
    exact fin (kk r) (Seals.trans (Seals.drop 0 _ _) (Seals.sub (fun F hF => by
        rcases List.mem_cons.1 hF with rfl | hF
        · exact List.Mem.head _
        · repeat (first | exact hF | apply List.Mem.tail))))
end Go.Proofs.Ytajkjlgddmkkaaa
