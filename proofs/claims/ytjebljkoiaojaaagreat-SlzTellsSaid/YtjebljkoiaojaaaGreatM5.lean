/- Towards the statement, part 5 of 8: contracts of functions, and what they rest on. Conditions: each theorem names its own. -/
import Derived.Test.YtjebljkoiaojaaaGreatM4
import Derived.DeepKeys4
set_option linter.unusedVariables false
set_option linter.unusedSimpArgs false
namespace Go.Proofs.YtjebljkoiaojaaaGreat
open Go.RowKit
theorem sz_btw {lo hi x : Int} {a : Nat} (h1 : sz lo a) (h2 : sz hi a) (h3 : lo ≤ x) (h4 : x ≤ hi) : sz x a := by
  unfold sz at *; omega
theorem zShrZ (v : Value) (x : Int) (a : Nat) (hx : sz x a) (ha : a ≤ 137438953472) :
    Meets Tryz.prog 150 [v, .int .i64 1] [(v, zd x)] (fun r os fs => os = [] ∧ fs = [(r, zd (x / 2))]) := by
  have h := zShr1 v (decide (x < 0)) (lims x.natAbs) (Lim_lims _) (Nat.le_trans hx.len ha)
  rw [iv_zd] at h
  exact h
theorem zAddZ2 (v w : Value) (x y : Int) (a : Nat) (hx : sz x a) (hy : sz y a) (ha : a ≤ 137438953471) :
    Meets Tryz.prog 97 [v, w] [(v, zd x), (w, zd y)] (fun r os fs => os = [] ∧ fs = [(r, zd (x + y))]) := zAddZ v w x y a a hx hy (by omega) (by omega)
theorem zCmpZS (v w : Value) (x y : Int) (a : Nat) (hx : sz x a) (hy : sz y a) (ha : a ≤ 137438953472) :
    Meets Tryz.prog 95 [v, w] [(v, zd x), (w, zd y)] (fun r os fs => os = [] ∧ fs = [] ∧ r = .int .i64 (x - y).sign) := by
  have h := zCmpS v w (cn x) (cn y) (Lim_lims _) (Lim_lims _) (Nat.le_trans hx.len ha) (Nat.le_trans hy.len ha)
  rw [jv_cn, jv_cn] at h
  exact h
theorem sgn_lt {y : Int} : y.sign < 0 ↔ y < 0 := by
  rcases Int.lt_trichotomy y 0 with h | h | h
  · rw [sgn_neg h]; omega
  · rw [h]; simp
  · rw [sgn_pos h]; omega
theorem sgn_opp {s t : Int} (ht : t ≠ 0) : s.sign = -t.sign ↔ t * s < 0 := by
  rw [Int.mul_comm, ← sgn_mul]
  constructor
  · intro h
    refine ⟨fun e => ht (sgn0.1 (by omega)), h⟩
  · exact fun h => h.2
theorem alone_meets (v w : Value) (l : List Int) (lo hi m n : Int) (k a N : Nat) (I0 : Int → Int → Prop) (hl : szR k l) (hN : l.length ≤ N) (hlo : sz lo a) (hhi : sz hi a) (ha : 1 ≤ a) (hk : k + (N + 1) * (a + 1) ≤ 137438953472) (lN : N ≤ 1073741824)
    (hak : a + 2 ≤ 137438953471) (h0 : I0 lo hi) (hlt : lo < hi) (hst : ∀ x y, I0 x y → lo ≤ x → y ≤ hi → x + 1 < y → pev l x ≠ 0 → if pev l x * pev l ((x + y) / 2) < 0 then I0 x ((x + y) / 2) else I0 ((x + y) / 2) y) :
    Meets Tryz.prog 149 [v, w] [(v, vd l), (w, pD lo hi m n)] (fun r os fs => os = [] ∧ ∃ x y, lo ≤ x ∧ x < y ∧ y ≤ hi ∧ I0 x y ∧ (pev l x = 0 ∨ y = x + 1) ∧ fs = [(r, zd x)]) := by
  have hsg := fun u u' x hx => rtSignT u u' l x k a N hl hx hN hk lN
  refine meets_of_vc Tryz.func149 (by kernel_rfl) rfl (by kernel_rfl) (Nat.le_of_ble_eq_true rfl) ?_
  refine box_rule (Reads.fact (d := pD lo hi m n) qM) fun q hq => ?_
  refine alloc_rule (d := I false []) fun o ho => ?_
  refine field_box 1 rfl hq ?_
  refine load_box_field (d := zd lo) 1 rfl (Part.left (Part.refl _)) (load_I _ _) fun f1 => ?_
  refine call_fn (hsg v f1 lo hlo) (Seals.refl _ _) qS ?_
  rintro _ _ _ ⟨rfl, rfl, rfl⟩
  refine loop_rule (X := Int × Int) (fun x => ([(0, v), (3, q), (4, o), (5, .int .i64 (pev l x.1).sign)], [own1 o 2 1 (fun _ => I false []), own1 q 6 1 (fun _ => pD x.1 x.2 m n)], [(v, vd l)]))
    (fun x => lo ≤ x.1 ∧ x.1 < x.2 ∧ x.2 ≤ hi ∧ I0 x.1 x.2) (fun x => (x.2 - x.1).toNat) rfl ?_ ?_
  · exact again (lo, hi) ⟨Int.le_refl _, hlt, Int.le_refl _, h0⟩ trivial qF (Seals.trans (Seals.box1 rfl) (Seals.sub qS))
  rintro ⟨x, y⟩ ⟨g1, g2, g3, g4⟩
  simp only at g1 g2 g3 g4 ⊢
  have zx : sz x a := sz_btw hlo hhi g1 (by omega)
  have zy : sz y a := sz_btw hlo hhi (by omega) g3
  have zx1 : sz (x + 1) a := sz_btw hlo hhi (by omega) (by omega)
  have hb := sgn3b (pev l x)
  refine draw_rule [0, 1, 2, 3, 4, 7, 8, 5, 6, 9, 10, 11] [0, 1, 2, 3, 4, 5, 6, 7, 8, 9, 10, 11] (by kernel_rfl) (by kernel_rfl) ?_
  refine cmp_split _ rfl (fun e0 => ?_) (fun e0 => ?_)
  · have hne : pev l x ≠ 0 := fun e => e0 (sgn0.2 e)
    refine field_box 1 rfl hq ?_
    refine load_box_field (d := zd x) 1 rfl (Part.left (Part.refl _)) (load_I _ _) fun y1 => ?_
    refine field_box 1 rfl hq ?_
    refine load_box_field (d := zd y) 1 rfl (Part.right (Part.left (Part.refl _))) (load_I _ _) fun y2 => ?_
    refine call_fn (zof_meets 1 (by decide) (by decide)) (Seals.refl _ _) qS ?_
    rintro y3 _ _ ⟨rfl, rfl⟩
    refine call_fn (zAddZ2 y1 y3 x 1 a zx ((sz_one 1 (by decide)).mono ha) (by omega)) (Seals.refl _ _) qS ?_
    rintro y4 _ _ ⟨rfl, rfl⟩
    refine call_fn (zCmpZS y4 y2 (x + 1) y a zx1 zy (by omega)) (Seals.refl _ _) qS ?_
    rintro _ _ _ ⟨rfl, rfl, rfl⟩
    refine cmp_split _ rfl (fun e1 => ?_) (fun e1 => ?_)
    · have hw : x + 1 < y := by have := sgn_lt.1 e1; omega
      have hmid : x < (x + y) / 2 ∧ (x + y) / 2 < y := by omega
      have zs : sz (x + y) (a + 1) := by
        have := sz_sub zx zy.neg
        rwa [Int.sub_neg] at this
      have zm : sz ((x + y) / 2) a := sz_btw zx zy (by omega) (by omega)
      have hstep := hst x y g4 g1 g3 hw hne
      refine field_box 1 rfl hq ?_
      refine load_box_field (d := zd x) 1 rfl (Part.left (Part.refl _)) (load_I _ _) fun y5 => ?_
      refine field_box 1 rfl hq ?_
      refine load_box_field (d := zd y) 1 rfl (Part.right (Part.left (Part.refl _))) (load_I _ _) fun y6 => ?_
      refine call_fn (zAddZ2 y5 y6 x y a zx zy (by omega)) (Seals.refl _ _) qS ?_
      rintro y7 _ _ ⟨rfl, rfl⟩
      refine call_fn (zShrZ y7 (x + y) (a + 1) zs (by omega)) (Seals.refl _ _) qS ?_
      rintro y8 _ _ ⟨rfl, rfl⟩
      generalize hM : (x + y) / 2 = M at *
      refine alloc_rule (d := I false []) fun mb hmb => ?_
      refine store_box (d := zd M) 0 rfl hmb rfl (by kernel_rfl) (Reads.fact (v := y8) qM) ?_
      refine load_box (d := zd M) 0 rfl hmb rfl (load_I _ _) fun y9 => ?_
      refine call_fn (hsg v y9 M zm) (Seals.refl _ _) qS ?_
      rintro _ _ _ ⟨rfl, rfl, rfl⟩
      refine un_neg (m := -(pev l x).sign) (by rw [wrap_in (show inK .i64 (0 - (pev l x).sign) from ⟨by omega, by omega⟩)]; omega) ?_
      refine cmp_split _ rfl (fun e2 => ?_) (fun e2 => ?_)
      · rw [if_pos ((sgn_opp hne).1 e2)] at hstep
        refine load_box (d := zd M) 0 rfl hmb rfl (load_I _ _) fun z1 => ?_
        refine field_box 2 rfl hq ?_
        refine store_part (d := zd M) (d' := pD x M m n) 2 rfl hq (by show _ + 2 ≤ 6; omega) (Nat.zero_lt_succ _) (by kernel_rfl) (Reads.fact (v := z1) qM) pD_hi ?_
        exact again (x, M) ⟨g1, by simp only; omega, by simp only; omega, hstep⟩ (by simp only; omega) qF (Seals.trans (Seals.drop 0 _ _) (Seals.sub (fs' := [(v, vd l)]) qS))
      · rw [if_neg (fun h => e2 ((sgn_opp hne).2 h))] at hstep
        refine draw_rule [0, 1, 2, 4, 3, 5, 6] [0, 1, 2, 3, 4, 5, 6] (by kernel_rfl) (by kernel_rfl) ?_
        refine load_box (d := zd M) 0 rfl hmb rfl (load_I _ _) fun z1 => ?_
        refine load_box (d := zd M) 0 rfl hmb rfl (load_I _ _) fun z2 => ?_
        refine field_box 2 rfl hq ?_
        refine call_fn (hsg v z2 M zm) (Seals.refl _ _) qS ?_
        rintro _ _ _ ⟨rfl, rfl, rfl⟩
        refine store_part (d := zd M) (d' := pD M y m n) 2 rfl hq (by show _ + 2 ≤ 6; omega) (Nat.zero_lt_succ _) (by kernel_rfl) (Reads.fact (v := z1) qM) pD_lo ?_
        exact again (M, y) ⟨by simp only; omega, by simp only; omega, g3, hstep⟩ (by simp only; omega) qF (Seals.trans (Seals.drop 0 _ _) (Seals.sub (fs' := [(v, vd l)]) qS))
    · have hw : y = x + 1 := by
        have : ¬ x + 1 - y < 0 := fun h => e1 (sgn_lt.2 h)
        omega
      refine field_box 1 rfl hq ?_
      refine load_box_field (d := zd x) 1 rfl (Part.left (Part.refl _)) (load_I _ _) fun u1 => ?_
      refine store_box (d := zd x) 0 rfl ho rfl (by kernel_rfl) (Reads.fact (v := u1) qM) ?_
      refine load_box (d := zd x) 0 rfl ho rfl (load_I _ _) fun r => ?_
      exact fin ⟨rfl, x, y, g1, g2, g3, g4, .inr hw, rfl⟩ (Seals.trans (Seals.drop 0 _ _) (Seals.trans (Seals.drop 0 _ _) (Seals.sub (fs' := [(r, zd x)]) qS)))
  · have hz : pev l x = 0 := sgn0.1 (by omega)
    refine field_box 1 rfl hq ?_
    refine load_box_field (d := zd x) 1 rfl (Part.left (Part.refl _)) (load_I _ _) fun u1 => ?_
    refine store_box (d := zd x) 0 rfl ho rfl (by kernel_rfl) (Reads.fact (v := u1) qM) ?_
    refine load_box (d := zd x) 0 rfl ho rfl (load_I _ _) fun r => ?_
    exact fin ⟨rfl, x, y, g1, g2, g3, g4, .inl hz, rfl⟩ (Seals.trans (Seals.drop 0 _ _) (Seals.trans (Seals.drop 0 _ _) (Seals.sub (fs' := [(r, zd x)]) qS)))
end Go.Proofs.YtjebljkoiaojaaaGreat
namespace Go.Proofs.YtjebljkoiaojaaaGreat
structure ChL (ls : List (List Int)) : Prop where
  len : 1 ≤ ls.length
  ch : Chain (fun i => ls.getD i []) (ls.length - 1)
def cnt (ls : List (List Int)) (x y : Int) : Int := manyV (ls.getD 0 []) x y (tns ls x : Nat) (tns ls y : Nat)
theorem cnt_add (ls : List (List Int)) (x y z : Int) : cnt ls x z = cnt ls x y + cnt ls y z := by unfold cnt manyV; omega
theorem ChL.less {ls : List (List Int)} (h : ChL ls) {x y : Int} (hxy : x < y) : (tns ls y : Int) + (if pev (ls.getD 0 []) y = 0 then 1 else 0) ≤ tns ls x := by
  have := h.ch.less hxy
  rw [← tns_sV h.len, ← tns_sV h.len] at this
  have this' : tns ls y + (if pev (ls.getD 0 []) y = 0 then 1 else 0) ≤ tns ls x := this
  by_cases e : pev (ls.getD 0 []) y = 0
  · rw [if_pos e] at this' ⊢; omega
  · rw [if_neg e] at this' ⊢; omega
theorem ChL.nn {ls : List (List Int)} (h : ChL ls) {x y : Int} (hxy : x < y) : (if pev (ls.getD 0 []) x = 0 then 1 else 0) ≤ cnt ls x y := by
  have := h.less hxy
  unfold cnt manyV
  omega
theorem ChL.nn0 {ls : List (List Int)} (h : ChL ls) {x y : Int} (hxy : x ≤ y) : 0 ≤ cnt ls x y := by
  by_cases e : x = y
  · rw [e]; unfold cnt manyV; omega
  · have := h.nn (show x < y by omega)
    split at this <;> omega
theorem ChL.par {ls : List (List Int)} (h : ChL ls) : ∃ k, k ≠ 0 ∧ ∀ x, pev (ls.getD 0 []) x ≠ 0 → (tns ls x) % 2 = if pev (ls.getD 0 []) x * k < 0 then 1 else 0 := by
  obtain ⟨k, hk, e⟩ := h.ch.last
  refine ⟨k, hk, fun x hx => ?_⟩
  have e' : ls.getD (ls.length - 1) [] = [k] := e
  have hl := h.len
  by_cases h1 : ls.length = 1
  · have e2 : ls.getD 0 [] = [k] := by rw [← e', h1]
    obtain ⟨a, ha⟩ := List.length_eq_one_iff.1 h1
    subst ha
    have e3 : a = [k] := e2
    subst e3
    have : 0 < k * k := by
      rcases Int.lt_trichotomy k 0 with g | g | g
      · exact Int.mul_pos_of_neg_of_neg g g
      · exact absurd g hk
      · exact Int.mul_pos g g
    have e4 : pev ([[k]].getD 0 []) x = k := by simp [pev]
    rw [e4, if_neg (by omega)]
    simp [tns, vs, pev]
  · -- the head, the middle, the last
    cases ls with
    | nil => simp at hl
    | cons s r =>
      have hr : 0 < r.length := by
        have : (s :: r).length = r.length + 1 := rfl
        omega
      have hs : (s :: r).getD 0 [] = s := rfl
      rw [hs] at hx ⊢
      have hlast : r = r.take (r.length - 1) ++ [[k]] := by
        have h2 : r.getD (r.length - 1) [] = [k] := by
          have : (s :: r).getD ((s :: r).length - 1) [] = r.getD (r.length - 1) [] := by
            rw [show (s :: r).length - 1 = (r.length - 1) + 1 by simp only [List.length_cons]; omega]; rfl
          rw [← this]; exact e'
        conv => lhs; rw [← List.take_length (l := r), show r.length = (r.length - 1) + 1 by omega, List.take_add_one]
        rw [List.getD_eq_getElem?_getD, List.getElem?_eq_getElem (by omega)] at h2
        rw [List.getElem?_eq_getElem (by omega)]
        have h3 : r[r.length - 1] = [k] := h2
        rw [h3]; rfl
      have h3 : tns (s :: r) x = vs (pev s x) (((r.take (r.length - 1)).map fun l => pev l x) ++ [k]) := by
        unfold tns
        rw [List.map_cons]
        simp only [vs, Int.mul_zero, Int.lt_irrefl, if_false, if_neg hx, Nat.zero_add]
        conv => lhs; rw [hlast]
        rw [List.map_append]
        simp [pev]
      rw [h3]
      exact vs_par _ _ _ hx hk
theorem sgn_tri {x t k : Int} (h0 : x ≠ 0) (ht : t ≠ 0) (hk : k ≠ 0) : t * k < 0 ↔ (t * x < 0 ↔ ¬ k * x < 0) := by
  have n1 := Int.mul_ne_zero ht h0
  have n2 := Int.mul_ne_zero hk h0
  have n3 := Int.mul_ne_zero ht hk
  have hxx : 0 < x * x := by
    rcases Int.lt_trichotomy x 0 with k | k | k
    · exact Int.mul_pos_of_neg_of_neg k k
    · exact absurd k h0
    · exact Int.mul_pos k k
  have e : (t * x) * (k * x) = (x * x) * (t * k) := by grind
  constructor
  · intro h
    have h1 : (t * x) * (k * x) < 0 := by rw [e]; exact Int.mul_neg_of_pos_of_neg hxx h
    constructor
    · intro h2 h3; have := Int.mul_pos_of_neg_of_neg h2 h3; omega
    · intro h2
      have h3 : 0 < k * x := by omega
      exact Int.lt_of_not_ge fun k' => by have := Int.mul_nonneg k' (Int.le_of_lt h3); omega
  · intro h
    refine Int.lt_of_not_ge fun h' => ?_
    have h1 : 0 < (t * x) * (k * x) := by rw [e]; exact Int.mul_pos hxx (by omega)
    by_cases h2 : t * x < 0
    · have h3 := h.1 h2
      have := Int.mul_nonpos_of_nonpos_of_nonneg (Int.le_of_lt h2) (show 0 ≤ k * x by omega)
      omega
    · have h3 : k * x < 0 := Classical.byContradiction fun h3 => h2 (h.2 h3)
      have := Int.mul_nonpos_of_nonneg_of_nonpos (show 0 ≤ t * x by omega) (Int.le_of_lt h3)
      omega
theorem ChL.odd {ls : List (List Int)} (h : ChL ls) {x y : Int} (hx : pev (ls.getD 0 []) x ≠ 0) (hy : pev (ls.getD 0 []) y ≠ 0) (_ : x ≤ y) : (cnt ls x y % 2 = 1 ↔ pev (ls.getD 0 []) x * pev (ls.getD 0 []) y < 0) := by
  obtain ⟨k, hk, hp⟩ := h.par
  have h1 := hp x hx
  have h2 := hp y hy
  have e : cnt ls x y = (tns ls x : Int) - tns ls y := by
    unfold cnt manyV; rw [if_neg hx, if_neg hy]; omega
  rw [e, sgn_tri hk hx hy]
  by_cases a : pev (ls.getD 0 []) x * k < 0 <;> by_cases b : pev (ls.getD 0 []) y * k < 0 <;> simp only [a, b, if_true, if_false] at h1 h2 ⊢ <;> constructor <;> intro g <;> first | omega | simp | (exfalso; simp at g)
theorem ChL.half {ls : List (List Int)} (h : ChL ls) {x m y : Int} (h1 : x < m) (h2 : m < y) (hc : cnt ls x y = 1) (hx : pev (ls.getD 0 []) x ≠ 0) :
    if pev (ls.getD 0 []) x * pev (ls.getD 0 []) m < 0 then cnt ls x m = 1 else cnt ls m y = 1 := by
  have ha := cnt_add ls x m y
  have p1 := h.nn0 (show x ≤ m by omega)
  have p2 := h.nn h2
  by_cases hm : pev (ls.getD 0 []) m = 0
  · rw [if_neg (by rw [hm, Int.mul_zero]; omega)]
    rw [if_pos hm] at p2; omega
  · rw [if_neg hm] at p2
    have ho := h.odd hx hm (by omega)
    split
    · rename_i hs
      have := ho.2 hs; omega
    · rename_i hs
      have : ¬ cnt ls x m % 2 = 1 := fun g => hs (ho.1 g)
      omega
def Stk : List (Int × Int) → Int → Int → Prop
  | [], b, e => b = e
  | p :: r, b, e => p.1 = b ∧ p.1 < p.2 ∧ Stk r p.2 e
theorem Stk.le : ∀ {l : List (Int × Int)} {b e : Int}, Stk l b e → b + l.length ≤ e
  | [], b, e, h => by have : b = e := h; simp; omega
  | p :: r, b, e, h => by
    have := Stk.le h.2.2
    have h1 := h.1
    have h2 := h.2.1
    simp only [List.length_cons]; omega
def Rise : List Int → Prop
  | [] => True
  | a :: l => (∀ x, x ∈ l → a < x) ∧ Rise l
theorem Rise.snoc : ∀ {l : List Int} {a : Int}, Rise l → (∀ x, x ∈ l → x < a) → Rise (l ++ [a])
  | [], a, _, _ => ⟨fun x hx => by simp at hx, trivial⟩
  | b :: l, a, h, g => ⟨fun x hx => by
      rcases List.mem_append.1 hx with hx | hx
      · exact h.1 x hx
      · rw [List.mem_singleton.1 hx]; exact g b (List.mem_cons_self ..), Rise.snoc h.2 fun x hx => g x (List.mem_cons_of_mem _ hx)⟩
structure Flr (ls : List (List Int)) (lo b : Int) (O : List Int) : Prop where
  up : Rise O
  mem : ∀ x, x ∈ O ↔ lo ≤ x ∧ x < b ∧ 0 < cnt ls x (x + 1)
theorem Flr.skip {ls : List (List Int)} (h : ChL ls) {lo b c : Int} {O : List Int} (f : Flr ls lo b O) (hbc : b ≤ c) (h0 : cnt ls b c = 0) : Flr ls lo c O := ⟨f.up, fun x => by
  rw [f.mem]
  constructor
  · rintro ⟨h1, h2, h3⟩; exact ⟨h1, by omega, h3⟩
  · rintro ⟨h1, h2, h3⟩
    refine ⟨h1, Int.lt_of_not_ge fun h4 => ?_, h3⟩
    have e1 := cnt_add ls b x c
    have e2 := cnt_add ls x (x + 1) c
    have p1 := h.nn0 (show b ≤ x by omega)
    have p2 := h.nn0 (show x + 1 ≤ c by omega)
    omega⟩
theorem Flr.one {ls : List (List Int)} (h : ChL ls) {lo b c x : Int} {O : List Int} (f : Flr ls lo b O) (hlo : lo ≤ b) (hx : b ≤ x) (hc : x + 1 ≤ c) (h1 : 0 < cnt ls x (x + 1)) (h2 : cnt ls b x = 0) (h3 : cnt ls (x + 1) c = 0) : Flr ls lo c (O ++ [x]) := by
  have f2 := f.skip h hx h2
  have f3 : Flr ls lo (x + 1) (O ++ [x]) := ⟨f2.up.snoc fun y hy => ((f2.mem y).1 hy).2.1, fun y => by
    rw [List.mem_append, List.mem_singleton, f2.mem]
    constructor
    · rintro (⟨g1, g2, g3⟩ | rfl)
      · exact ⟨g1, by omega, g3⟩
      · exact ⟨by omega, by omega, h1⟩
    · rintro ⟨g1, g2, g3⟩
      by_cases e : y = x
      · exact .inr e
      · exact .inl ⟨g1, by omega, g3⟩⟩
  exact f3.skip h hc h3
open Go.RowKit
structure FlSpec (p : List Int) (x y : Int) (O : List Int) (e : Int) : Prop where
  bad : dg p = 0 ∨ y < x → O = [] ∧ e = 1
  ok : 0 < dg p → x ≤ y → e = 0 ∧ ∃ s ls, SimSpec p s ∧ ChL ls ∧ ls.getD 0 [] = s ∧ ls.length ≤ dg s ∧ Flr ls x (y + 1) O
  few : O.length ≤ 1048578
def fP5 (ls : List (List Int)) (q : Int × Int) : Dat := pD q.1 q.2 (tns ls q.1 : Nat) (tns ls q.2 : Nat)
def Dbl (st : List (Int × Int)) (b : Int) : Prop := ∀ p, p ∈ st → p.1 - b ≤ p.2 - p.1
theorem dbl_len : ∀ {st : List (Int × Int)} {b c e : Int}, Stk st c e → (∀ p, p ∈ st → p.1 - b ≤ p.2 - p.1) → b ≤ c → (c - b) * 2 ^ st.length ≤ e - b
  | [], b, c, e, h, _, _ => by have : c = e := h; simp [this]
  | p :: r, b, c, e, h, hd, hbc => by
    have h1 := h.1
    have h2 := h.2.1
    have h3 := hd p (List.mem_cons_self ..)
    have ih := dbl_len h.2.2 (b := b) (fun q hq => hd q (List.mem_cons_of_mem _ hq)) (by omega)
    have h4 : (0 : Int) ≤ 2 ^ r.length := Int.le_of_lt (Int.pow_pos (by decide))
    have h5 : (c - b) * 2 * 2 ^ r.length ≤ (p.2 - b) * 2 ^ r.length := Int.mul_le_mul_of_nonneg_right (by omega) h4
    rw [List.length_cons, Int.pow_succ]
    have e1 : (c - b) * (2 ^ r.length * 2) = (c - b) * 2 * 2 ^ r.length := by grind
    omega
theorem stk_short {st : List (Int × Int)} {b e : Int} {a : Nat} (h : Stk st b e) (hd : Dbl st b) (hb : sz b a) (he : sz e a) : st.length ≤ 64 * a + 2 := by
  cases st with
  | nil => simp
  | cons p r =>
    have h1 := h.1
    have h2 := h.2.1
    have h3 := dbl_len h.2.2 (b := b) (fun q hq => hd q (List.mem_cons_of_mem _ hq)) (by omega)
    have h4 : (1 : Int) ≤ 2 ^ r.length := Int.pow_pos (by decide)
    have h5 : (1 : Int) * 2 ^ r.length ≤ (p.2 - b) * 2 ^ r.length := Int.mul_le_mul_of_nonneg_right (by omega) (by omega)
    have h6 : (2 : Int) ^ r.length ≤ e - b := by omega
    unfold sz at hb he
    have h7 : ((2 ^ r.length : Nat) : Int) ≤ e - b := by rw [Int.natCast_pow]; exact h6
    have h8 : 2 ^ r.length < 2 ^ (64 * a + 1) := by
      rw [Nat.pow_succ, Nat.pow_mul, show 2 ^ 64 = 18446744073709551616 from rfl]; omega
    have := (Nat.pow_lt_pow_iff_right (show 1 < 2 by decide)).1 h8
    simp only [List.length_cons]; omega
structure FlS where
  st : List (Int × Int)
  O : List Int
  ov : Value
  wv : Value
  b : Int
theorem floors_meets (v w u : Value) (p : Row) (x y : Bool × List Nat) (k n a : Nat) (hp : Fit k p) (lp : p.length ≤ n) (hx : Lim x.2) (hxa : x.2.length ≤ a) (hy : Lim y.2) (hya : y.2.length ≤ a) (ha : 1 ≤ a) (haa : a ≤ 1073741824) (hk : ChOk (vv p) k n (a + 1)) :
    Meets Tryz.prog 111 [v, w, u] [(v, V p), (w, J x), (u, J y)] (fun r os fs => os = [] ∧ ∃ q O e, r = .tuple #[q, .int .i64 e] ∧ FlSpec (vv p) (jv x) (jv y) O e ∧ fs = [(q, vd O)]) := by
  obtain ⟨z1, z2, z3, ⟨K, mm, hss, hmn, z4, z5⟩, z6⟩ := hk
  have hka : k ≤ 137438953472 := by
    have : (n + 1) * (a + 1 + 1) = n * (a + 1 + 1) + (a + 1 + 1) := Nat.add_one_mul _ _
    omega
  have zx : sz (jv x) (a + 1) := (sz_jv hx hxa).mono (by omega)
  have zE : sz (jv y + 1) (a + 1) := by
    have := sz_sub (sz_jv hy hya) (((sz_one 1 (by decide)).mono ha).neg)
    rwa [Int.sub_neg] at this
  have hadd : ∀ r1 r2, Meets Tryz.prog 97 [r1, r2] [(r1, J y), (r2, zd 1)] (fun r os fs => os = [] ∧ fs = [(r, zd (jv y + 1))]) := fun r1 r2 => by
    have := zAddJ r1 r2 y (cn 1) hy (by omega) (Lim_lims _) (Nat.le_trans (sz_one 1 (by decide)).len (by decide))
    rw [jv_cn] at this
    exact this
  have hnorm : ∀ r1, Meets Tryz.prog 75 [r1] [(r1, J x)] (fun r os fs => os = [] ∧ fs = [(r, zd (jv x))]) := fun r1 => znorm_meets r1 x.1 x.2 hx (by omega)
  refine meets_of_vc Tryz.func111 (by kernel_rfl) rfl (by kernel_rfl) (Nat.le_of_ble_eq_true rfl) ?_
  refine box_rule (Reads.fact (d := J x) qM) fun bx hbx => ?_
  refine box_rule (Reads.fact (d := J y) qM) fun by' hby => ?_
  refine call_fn (pDegreeN v p (hp.mono hka)) (Seals.refl _ _) qS ?_
  rintro _ _ _ ⟨rfl, rfl, rfl⟩
  have hpos := fun (h : 0 < dg (vv p)) => chain_meets v p k n K mm hp lp z1 h z2 z3 hss hmn z4
  have hlsn : dg (vv p) ≤ n := Nat.le_trans (dg_le_len _) (by rw [vv_len]; exact lp)
  generalize hP : vv p = P at *
  refine cmp_split _ rfl (fun hz => ?_) (fun hz => ?_)
  · refine fin ⟨rfl, .slice none 0 0, [], 1, rfl, ⟨fun _ => ⟨rfl, rfl⟩, fun h => by omega, by decide⟩, rfl⟩ (Seals.trans (Seals.drop 0 _ _) (Seals.trans (Seals.drop 0 _ _) (Seals.cons (Knw.nil 2 _) (Seals.nil _ _))))
  have hd0 : 0 < dg P := by omega
  refine load_box (d := J y) 0 rfl hby rfl (load_J _) fun y1 => ?_
  refine load_box (d := J x) 1 rfl hbx rfl (load_J _) fun y2 => ?_
  refine call_fn (zCmpS y1 y2 y x hy hx (by omega) (by omega)) (Seals.refl _ _) qS ?_
  rintro _ _ _ ⟨rfl, rfl, rfl⟩
  refine cmp_split _ rfl (fun hlt => ?_) (fun hlt => ?_)
  · have hl : jv y < jv x := by have := sgn_lt.1 hlt; omega
    refine fin ⟨rfl, .slice none 0 0, [], 1, rfl, ⟨fun _ => ⟨rfl, rfl⟩, fun _ h => by omega, by decide⟩, rfl⟩ (Seals.trans (Seals.drop 0 _ _) (Seals.trans (Seals.drop 0 _ _) (Seals.cons (Knw.nil 2 _) (Seals.nil _ _))))
  have hl : jv x ≤ jv y := Int.not_lt.1 fun h => hlt (sgn_lt.2 (by omega))
  refine call_fn (hpos hd0) (Seals.refl _ _) qS ?_
  rintro lv _ _ ⟨rfl, s, ls, hs, hc, hall, rfl⟩
  obtain ⟨c1, c2, c3⟩ := hc.chain hd0 hs
  have hch : ChL ls := ⟨hc.len, c1⟩
  have hln := hc.len
  have hsd : dg s ≤ n := by
    obtain ⟨gg, hg1, hg2⟩ := hs.ok hd0
    have := Dv.deg (a := s) (b := pprim P) ⟨gg, fun x => by rw [hg2]; exact Int.mul_comm _ _⟩ (by rw [pprim_dg]; exact hd0)
    rw [pprim_dg] at this; omega
  have hs0 : szR K (ls.getD 0 []) ∧ (ls.getD 0 []).length ≤ n := by
    refine hall _ ?_
    rw [List.getD_eq_getElem?_getD, List.getElem?_eq_getElem (by omega)]
    exact List.getElem_mem _
  have htj := fun l w (x : Bool × List Nat) (hx : Lim x.2) (hxa : x.2.length ≤ a + 1) => turnsT l w ls x K (a + 1) n hall hx hxa z5 (by omega) (by omega)
  have htz : ∀ l w t, sz t (a + 1) → Meets Tryz.prog 148 [l, w] [(l, wd ls), (w, zd t)] (fun r os fs => os = [] ∧ fs = [] ∧ r = .int .i64 (tns ls t : Nat)) := fun l w t ht => by
    have := htj l w (cn t) (Lim_lims _) ht.len
    rw [jv_cn] at this
    exact this
  have hT : ∀ t, tns ls t ≤ 1048576 := fun t => by have := tns_le ls t; omega
  refine alloc_rule (t := 109) (d := .sl 1 0 fun _ => .one (.bool false)) fun bl hbl => ?_
  refine store_box (d := wd ls) 0 rfl hbl rfl (by kernel_rfl) (Reads.fact (v := lv) qM) ?_
  refine draw_join (X := Value) (fun eb => ([(4, bx), (8, bl), (9, .func (.func 147) #[] #[bl]), (10, .slice none 0 0), (11, eb)], [own1 by' 2 1 (fun _ => J y), own1 bx 2 1 (fun _ => J x)], [(eb, .ptr (zd (jv y + 1))), (bl, .ptr (wd ls))])) (fun _ => True) ?_ ?_
  ·
    refine draw_ord [0, 1, 2, 3, 4] (by kernel_rfl) ?_
    refine ord_split 1 3 (by kernel_rfl) (by kernel_rfl) (by kernel_rfl) ?_ ?_
    · refine ord_split 2 3 (by kernel_rfl) (by kernel_rfl) (by kernel_rfl) ?_ ?_
      · refine ord_go [0, 1, 2, 3, 4] (by kernel_rfl) (by kernel_rfl) ?_
        refine load_box (d := J y) 1 rfl hby rfl (load_J _) fun r1 => ?_
        refine call_fn (zof_meets 1 (by decide) (by decide)) (Seals.refl _ _) qS ?_
        rintro r2 _ _ ⟨rfl, rfl⟩
        refine call_fn (hadd r1 r2) (Seals.refl _ _) qS ?_
        rintro r3 _ _ ⟨rfl, rfl⟩
        refine alloc_rule (d := I false []) fun eb heb => ?_
        refine store_box (d := zd (jv y + 1)) 0 rfl heb rfl (by kernel_rfl) (Reads.fact (v := r3) qM) ?_
        exact again eb trivial trivial qF (Seals.trans (Seals.box (d := zd (jv y + 1)) 0 rfl heb rfl) (Seals.trans (Seals.box (d := wd ls) 0 rfl hbl rfl) (Seals.sub qS)))
      · refine ord_go [0, 1, 3, 2, 4] (by kernel_rfl) (by kernel_rfl) ?_
        refine load_box (d := J y) 1 rfl hby rfl (load_J _) fun r1 => ?_
        refine call_fn (zof_meets 1 (by decide) (by decide)) (Seals.refl _ _) qS ?_
        rintro r2 _ _ ⟨rfl, rfl⟩
        refine alloc_rule (d := I false []) fun eb heb => ?_
        refine call_fn (hadd r1 r2) (Seals.refl _ _) qS ?_
        rintro r3 _ _ ⟨rfl, rfl⟩
        refine store_box (d := zd (jv y + 1)) 0 rfl heb rfl (by kernel_rfl) (Reads.fact (v := r3) qM) ?_
        exact again eb trivial trivial qF (Seals.trans (Seals.box (d := zd (jv y + 1)) 0 rfl heb rfl) (Seals.trans (Seals.box (d := wd ls) 0 rfl hbl rfl) (Seals.sub qS)))
    · refine ord_go [0, 3, 1, 2, 4] (by kernel_rfl) (by kernel_rfl) ?_
      refine load_box (d := J y) 1 rfl hby rfl (load_J _) fun r1 => ?_
      refine alloc_rule (d := I false []) fun eb heb => ?_
      refine call_fn (zof_meets 1 (by decide) (by decide)) (Seals.refl _ _) qS ?_
      rintro r2 _ _ ⟨rfl, rfl⟩
      refine call_fn (hadd r1 r2) (Seals.refl _ _) qS ?_
      rintro r3 _ _ ⟨rfl, rfl⟩
      refine store_box (d := zd (jv y + 1)) 0 rfl heb rfl (by kernel_rfl) (Reads.fact (v := r3) qM) ?_
      exact again eb trivial trivial qF (Seals.trans (Seals.box (d := zd (jv y + 1)) 0 rfl heb rfl) (Seals.trans (Seals.box (d := wd ls) 0 rfl hbl rfl) (Seals.sub qS)))
  rintro eb -
  simp only
  have loadW : LoadAs Tryz.prog 109 (wd ls) := (inferInstanceAs (TOne Tryz.prog 109))
  refine draw_rule [0, 2, 3, 4, 6, 7, 1, 5, 8, 9, 10, 11] [0, 1, 2, 3, 4, 5, 6, 7, 8, 9, 10, 11] (by kernel_rfl) (by kernel_rfl) ?_
  refine load_box (d := J x) 1 rfl hbx rfl (load_J _) fun f1 => ?_
  refine load_fact (d := zd (jv y + 1)) qM (load_I _ _) fun f2 => ?_
  refine load_fact (d := wd ls) qM loadW fun f3 => ?_
  refine load_box (d := J x) 1 rfl hbx rfl (load_J _) fun f4 => ?_
  refine load_fact (d := wd ls) qM loadW fun f5 => ?_
  refine load_fact (d := zd (jv y + 1)) qM (load_I _ _) fun f6 => ?_
  refine call_fn (hnorm f1) (Seals.refl _ _) qS ?_
  rintro f7 _ _ ⟨rfl, rfl⟩
  refine call_fn (htj f3 f4 x hx (by omega)) (Seals.refl _ _) qS ?_
  rintro _ _ _ ⟨rfl, rfl, rfl⟩
  refine call_fn (htz f5 f6 (jv y + 1) zE) (Seals.refl _ _) qS ?_
  rintro _ _ _ ⟨rfl, rfl, rfl⟩
  generalize hX : jv x = X at *
  generalize hY : jv y + 1 = E at *
  have hXE : X < E := by omega
  refine build2211 (Knw.fact (v := f7) (d := zd X) qM) (Knw.fact (v := f2) (d := zd E) qM) rfl rfl fun pv => ?_
  refine buildSlice_own (size := 6) (n := 1) [pv] [fP5 ls (X, E)] rfl rfl (by decide) (by decide) ⟨Reads.fact (v := pv) (List.Mem.head _), rfl, trivial⟩ fun w0 hw0 => ?_
  have hf0 : Flr ls X X [] := ⟨trivial, fun t => ⟨fun h => by simp at h, fun h => by omega⟩⟩
  have hml : ∀ l : List Int, (l.map cn).length = l.length := fun l => List.length_map _
  refine loop_rule (X := FlS) (fun x => ([(8, bl), (9, .func (.func 147) #[] #[bl]), (10, x.ov), (12, x.wv)], [ownL 2 J z0 x.ov (x.O.map cn), ownL 6 (fP5 ls) (0, 0) x.wv x.st.reverse], [(bl, .ptr (wd ls))]))
    (fun x => isSl x.ov ∧ isSl x.wv ∧ Stk x.st x.b E ∧ Dbl x.st x.b ∧ Flr ls X x.b x.O ∧ X ≤ x.b ∧ (x.O.length : Int) ≤ cnt ls X x.b) (fun x => (2 * (E - x.b) - x.st.length).toNat) rfl ?_ ?_
  · refine again ⟨[(X, E)], [], .slice none 0 0, w0, X⟩ ⟨isSl_nil, hw0, ⟨rfl, hXE, rfl⟩, fun q hq => by rw [List.mem_singleton.1 hq]; simp only; omega, hf0, Int.le_refl _, hch.nn0 (Int.le_refl _)⟩ trivial qF ?_
    refine Seals.trans (Seals.drop 1 _ _) (Seals.trans (Seals.drop 1 _ _) (Seals.trans (Seals.own_nil _ _ 2 fun i => J ((([] : List Int).map cn).getD i z0)) (Seals.trans (Seals.own_cong (os := [_, _]) 1 (n' := 1) (fun i => fP5 ls (([(X, E)] : List (Int × Int)).getD i (0, 0))) rfl rfl fun i hi => ?_) (Seals.sub qS))))
    have : i = 0 := by omega
    subst this; rfl
  rintro ⟨st, O, ov, wv, b⟩ ⟨hov, hwv, hsk, hdb, hfl, hXb, hOl⟩
  simp only at hov hwv hsk hdb hfl hXb hOl ⊢
  have hskl := hsk.le
  have zb : sz b (a + 1) := sz_btw zx zE hXb (by omega)
  have hsh := stk_short hsk hdb zb zE
  have hcb := hch.nn0 hXb
  have hcle : cnt ls X b ≤ 1048578 := by
    have := hT X
    unfold cnt manyV; split <;> split <;> omega
  have hrl : st.reverse.length = st.length := List.length_reverse
  refine len_own 1 rfl hwv fun _ => ?_
  refine cmp_split _ rfl (fun hgt => ?_) (fun hgt => ?_)
  · cases st with
    | nil => simp at hgt
    | cons q r =>
      obtain ⟨P1, P2⟩ := q
      obtain ⟨rfl, hP12, hsk2⟩ := hsk
      simp only at hP12 hsk2 hXb hOl hfl hdb hskl zb hsh hcb hcle
      simp only [List.length_cons] at hrl hskl hsh
      have hr2 : r.reverse.length = r.length := List.length_reverse
      have hrev : ((P1, P2) :: r).reverse = r.reverse ++ [(P1, P2)] := List.reverse_cons
      have hsk2l := hsk2.le
      have zP2 : sz P2 (a + 1) := sz_btw zx zE (by omega) (by omega)
      have hel : fP5 ls (((P1, P2) :: r).reverse.getD r.length (0, 0)) = pD P1 P2 (tns ls P1 : Nat) (tns ls P2 : Nat) := by
        rw [hrev, List.getD_eq_getElem?_getD, List.getElem?_append_right (by omega), hr2, Nat.sub_self]; rfl
      have hdb2 : Dbl r P2 := fun q hq => by have := hdb q (List.mem_cons_of_mem _ hq); omega
      have hm1 := hT P1
      have hm2 := hT P2
      have hmany : ∀ y2, Meets Tryz.prog 147 ([] ++ [y2] ++ [bl]) [(y2, pD P1 P2 (tns ls P1 : Nat) (tns ls P2 : Nat)), (bl, .ptr (wd ls))] (fun r os fs => os = [] ∧ fs = [] ∧ r = .int .i64 (cnt ls P1 P2)) := fun y2 => many_meets y2 bl ls P1 P2 _ _ K (a + 1) n hln hs0.1 hs0.2 zb zP2 z5 (by omega) ⟨by omega, by omega⟩ ⟨by omega, by omega⟩
      have hc12 := hch.nn0 (Int.le_of_lt hP12)
      have hcsum := cnt_add ls X P1 P2
      have hst2 := hsk2
      have hal := fun (I0 : Int → Int → Prop) (h0 : I0 P1 P2) (hst : ∀ x y, I0 x y → P1 ≤ x → y ≤ P2 → x + 1 < y → pev (ls.getD 0 []) x ≠ 0 → if pev (ls.getD 0 []) x * pev (ls.getD 0 []) ((x + y) / 2) < 0 then I0 x ((x + y) / 2) else I0 ((x + y) / 2) y) (u1 u2 : Value) => (by
        rw [get_cn]
        exact alone_meets u1 u2 (ls.getD 0 []) P1 P2 (tns ls P1 : Nat) (tns ls P2 : Nat) K (a + 1) n I0 hs0.1 hs0.2 zb zP2 (by omega) z5 (by omega) (by omega) h0 hP12 hst : Meets Tryz.prog 149 [u1, u2] [(u1, V ((ls.map fun l => l.map cn).getD 0 [])), (u2, fP5 ls (P1, P2))] (fun r os fs => os = [] ∧ ∃ x y, P1 ≤ x ∧ x < y ∧ y ≤ P2 ∧ I0 x y ∧ (pev (ls.getD 0 []) x = 0 ∨ y = x + 1) ∧ fs = [(r, zd x)]))
      have hcg : ∀ i, i < r.length → fP5 ls (((P1, P2) :: r).reverse.getD i (0, 0)) = fP5 ls (r.reverse.getD i (0, 0)) := fun i hi => by
        rw [hrev, List.getD_eq_getElem?_getD, List.getElem?_append_left (by omega), ← List.getD_eq_getElem?_getD]
      have hpop : ∀ {o1 : Own} {ob : Own} {fs : List Fact}, Seals [ob, o1, ownL 6 (fP5 ls) (0, 0) wv ((P1, P2) :: r).reverse] fs [o1, ownL 6 (fP5 ls) (0, 0) (pfx wv r.length) r.reverse] fs := fun {o1 ob fs} =>
        Seals.trans (Seals.drop 0 _ _) (Seals.trans (Seals.pfx (os := [o1, ownL 6 (fP5 ls) (0, 0) wv ((P1, P2) :: r).reverse]) 1 rfl hwv r.length (by omega)) (Seals.own_cong (os := [o1, own1 (pfx wv r.length) 6 r.length _]) 1 (n' := r.reverse.length) (fun i => fP5 ls (r.reverse.getD i (0, 0))) rfl hr2.symm hcg))
      have hpre : ∀ {o1 o2 o3 : Own} {fs : List Fact}, Seals [o1, o2, o3, ownL 6 (fP5 ls) (0, 0) wv ((P1, P2) :: r).reverse] fs [o1, o2, o3, ownL 6 (fP5 ls) (0, 0) (pfx wv r.length) r.reverse] fs := fun {o1 o2 o3 fs} =>
        Seals.trans (Seals.pfx (os := [o1, o2, o3, ownL 6 (fP5 ls) (0, 0) wv ((P1, P2) :: r).reverse]) 3 rfl hwv r.length (by omega)) (Seals.own_cong (os := [o1, o2, o3, own1 (pfx wv r.length) 6 r.length _]) 3 (n' := r.reverse.length) (fun i => fP5 ls (r.reverse.getD i (0, 0))) rfl hr2.symm hcg)
      refine len_own 1 rfl hwv fun _ => ?_
      refine ar rfl qI ?_
      refine index_elem 1 rfl hwv r.length (by omega) (by omega) ?_
      refine load_elem' (d := fP5 ls (P1, P2)) 1 rfl r.length (by omega) hel (load_pD _ _ _ _) fun y1 => ?_
      refine alloc_rule (d := pZ) fun wb hwb => ?_
      refine store_box (d := fP5 ls (P1, P2)) 0 rfl hwb rfl (by kernel_rfl) (Reads.fact (v := y1) qM) ?_
      refine len_own 2 rfl hwv fun _ => ?_
      refine ar rfl qI ?_
      refine slice_pfx 2 rfl hwv r.length (by omega) (by omega) (by decide) ?_
      refine load_box (d := fP5 ls (P1, P2)) 0 rfl hwb rfl (load_pD _ _ _ _) fun y2 => ?_
      refine call_rule (first := []) (cap := [bl]) (Seals.refl _ _) (hmany y2) qS ?_
      rintro _ _ _ ⟨rfl, rfl, rfl⟩
      refine cmp_split _ rfl (fun hn0 => ?_) (fun hn0 => ?_)
      · exact again ⟨r, O, ov, pfx wv r.length, P2⟩ ⟨hov, pfx_sl hwv, hst2, hdb2, hfl.skip hch (Int.le_of_lt hP12) hn0, by simp only; omega, by simp only; omega⟩ (by simp only [List.length_cons]; omega) qF (Seals.trans hpop (Seals.sub qS))
      refine draw_rule [0, 1, 2, 3, 4, 7, 8, 5, 6, 9, 10, 11, 12] [0, 1, 2, 3, 4, 5, 6, 7, 8, 9, 10, 11, 12] (by kernel_rfl) (by kernel_rfl) ?_
      refine cmp_split _ rfl (fun hn1 => ?_) (fun hn1 => ?_)
      · have hI : ∃ I0 : Int → Int → Prop, I0 P1 P2 ∧ (∀ x y, I0 x y → P1 ≤ x → y ≤ P2 → x + 1 < y → pev (ls.getD 0 []) x ≠ 0 → if pev (ls.getD 0 []) x * pev (ls.getD 0 []) ((x + y) / 2) < 0 then I0 x ((x + y) / 2) else I0 ((x + y) / 2) y) ∧
            ∀ x y, P1 ≤ x → x < y → y ≤ P2 → I0 x y → (pev (ls.getD 0 []) x = 0 ∨ y = x + 1) → 0 < cnt ls x (x + 1) ∧ cnt ls P1 x = 0 ∧ cnt ls (x + 1) P2 = 0 := by
          refine ⟨fun x y => cnt ls x y = 1, hn1, fun x y h1 h2 h3 h4 h5 => hch.half (by omega) (by omega) h1 h5, fun x y h1 h2 h3 h4 h5 => ?_⟩
          have g1 : 0 < cnt ls x (x + 1) := by
            rcases h5 with h5 | h5
            · have := hch.nn (show x < x + 1 by omega)
              rw [if_pos h5] at this; omega
            · rw [← h5, h4]; decide
          have e1 := cnt_add ls P1 x P2
          have e2 := cnt_add ls x (x + 1) P2
          have p1 := hch.nn0 h1
          have p2 := hch.nn0 (show x + 1 ≤ P2 by omega)
          exact ⟨g1, by omega, by omega⟩
        obtain ⟨I0, hi0, hst, hfin⟩ := hI
        refine draw_rule [0, 1, 2, 3, 4, 5, 6, 7, 8] [0, 1, 2, 3, 4, 5, 6, 7, 8] (by kernel_rfl) (by kernel_rfl) ?_
        refine load_fact (d := wd ls) qM loadW fun h1 => ?_
        refine index_fact (v := h1) qM 0 rfl (by rw [List.length_map]; omega) fun h2 => ?_
        refine load_fact (d := V ((ls.map fun l => l.map cn).getD 0 [])) qM (load_P _) fun h3 => ?_
        refine load_box (d := fP5 ls (P1, P2)) 0 rfl hwb rfl (load_pD _ _ _ _) fun h4 => ?_
        refine call_fn (hal I0 hi0 hst h3 h4) (Seals.refl _ _) qS ?_
        rintro h5 _ _ ⟨rfl, x', y', g1, g2, g3, g4, g5, rfl⟩
        obtain ⟨q1, q2, q3⟩ := hfin x' y' g1 g2 g3 g4 g5
        refine lit_L (size := 2) J z0 (cn x') (by decide) (Reads.fact (v := h5) (d := zd x') qM) rfl fun h6 => ?_
        refine append_L 1 rfl hov (Knw.fact (v := h6) qM) (by rw [hml]; simp only [List.length_cons, List.length_nil]; omega) (by rw [hml]; simp only [List.length_cons, List.length_nil]; omega) fun ov2 hov2 => ?_
        rw [map_snoc cn]
        have hO2 : ((O ++ [x']).length : Int) ≤ cnt ls X P2 := by
          rw [List.length_append]
          have e1 := cnt_add ls X P1 P2
          have e2 := cnt_add ls P1 x' P2
          have e3 := cnt_add ls x' (x' + 1) P2
          simp only [List.length_cons, List.length_nil]; omega
        exact again ⟨r, O ++ [x'], ov2, pfx wv r.length, P2⟩ ⟨hov2, pfx_sl hwv, hst2, hdb2, hfl.one hch hXb g1 (show x' + 1 ≤ P2 by omega) q1 q2 q3, by simp only; omega, hO2⟩ (by simp only [List.length_cons]; omega) qF (Seals.trans hpop (Seals.sub qS))
      ·
        refine field_box 0 rfl hwb ?_
        refine load_box_field (d := zd P1) 0 rfl (Part.left (Part.refl _)) (load_I _ _) fun u1 => ?_
        refine field_box 0 rfl hwb ?_
        refine load_box_field (d := zd P2) 0 rfl (Part.right (Part.left (Part.refl _))) (load_I _ _) fun u2 => ?_
        refine call_fn (zof_meets 1 (by decide) (by decide)) (Seals.refl _ _) qS ?_
        rintro u3 _ _ ⟨rfl, rfl⟩
        have zb1 : sz (P1 + 1) (a + 1) := sz_btw zx zE (by omega) (by omega)
        refine call_fn (zAddZ2 u1 u3 P1 1 (a + 1) zb ((sz_one 1 (by decide)).mono (by omega)) (by omega)) (Seals.refl _ _) qS ?_
        rintro u4 _ _ ⟨rfl, rfl⟩
        refine call_fn (zCmpZS u4 u2 (P1 + 1) P2 (a + 1) zb1 zP2 (by omega)) (Seals.refl _ _) qS ?_
        rintro _ _ _ ⟨rfl, rfl, rfl⟩
        refine cmp_split _ rfl (fun hw1 => ?_) (fun hw1 => ?_)
        · have hPP : P2 = P1 + 1 := by have := sgn0.1 hw1; omega
          have hI : ∃ I0 : Int → Int → Prop, I0 P1 P2 ∧ (∀ x y, I0 x y → P1 ≤ x → y ≤ P2 → x + 1 < y → pev (ls.getD 0 []) x ≠ 0 → if pev (ls.getD 0 []) x * pev (ls.getD 0 []) ((x + y) / 2) < 0 then I0 x ((x + y) / 2) else I0 ((x + y) / 2) y) ∧
              ∀ x y, P1 ≤ x → x < y → y ≤ P2 → I0 x y → (pev (ls.getD 0 []) x = 0 ∨ y = x + 1) → 0 < cnt ls x (x + 1) ∧ cnt ls P1 x = 0 ∧ cnt ls (x + 1) P2 = 0 := by
            refine ⟨fun _ _ => True, trivial, fun _ _ _ _ _ h _ => by omega, fun x y h1 h2 h3 _ _ => ?_⟩
            obtain rfl : x = P1 := by omega
            have e1 : cnt ls x x = 0 := by unfold cnt manyV; omega
            have e2 : cnt ls P2 P2 = 0 := by unfold cnt manyV; omega
            rw [← hPP]
            exact ⟨by omega, e1, e2⟩
          obtain ⟨I0, hi0, hst, hfin⟩ := hI
          refine draw_rule [0, 1, 2, 3, 4, 5, 6, 7, 8] [0, 1, 2, 3, 4, 5, 6, 7, 8] (by kernel_rfl) (by kernel_rfl) ?_
          refine load_fact (d := wd ls) qM loadW fun h1 => ?_
          refine index_fact (v := h1) qM 0 rfl (by rw [List.length_map]; omega) fun h2 => ?_
          refine load_fact (d := V ((ls.map fun l => l.map cn).getD 0 [])) qM (load_P _) fun h3 => ?_
          refine load_box (d := fP5 ls (P1, P2)) 0 rfl hwb rfl (load_pD _ _ _ _) fun h4 => ?_
          refine call_fn (hal I0 hi0 hst h3 h4) (Seals.refl _ _) qS ?_
          rintro h5 _ _ ⟨rfl, x', y', g1, g2, g3, g4, g5, rfl⟩
          obtain ⟨q1, q2, q3⟩ := hfin x' y' g1 g2 g3 g4 g5
          refine lit_L (size := 2) J z0 (cn x') (by decide) (Reads.fact (v := h5) (d := zd x') qM) rfl fun h6 => ?_
          refine append_L 1 rfl hov (Knw.fact (v := h6) qM) (by rw [hml]; simp only [List.length_cons, List.length_nil]; omega) (by rw [hml]; simp only [List.length_cons, List.length_nil]; omega) fun ov2 hov2 => ?_
          rw [map_snoc cn]
          have hO2 : ((O ++ [x']).length : Int) ≤ cnt ls X P2 := by
            rw [List.length_append]
            have e1 := cnt_add ls X P1 P2
            have e2 := cnt_add ls P1 x' P2
            have e3 := cnt_add ls x' (x' + 1) P2
            simp only [List.length_cons, List.length_nil]; omega
          exact again ⟨r, O ++ [x'], ov2, pfx wv r.length, P2⟩ ⟨hov2, pfx_sl hwv, hst2, hdb2, hfl.one hch hXb g1 (show x' + 1 ≤ P2 by omega) q1 q2 q3, by simp only; omega, hO2⟩ (by simp only [List.length_cons]; omega) qF (Seals.trans hpop (Seals.sub qS))
        · have hw : P1 + 1 < P2 := by
            have : P1 + 1 - P2 ≠ 0 := fun e => hw1 (sgn0.2 e)
            omega
          have zs : sz (P1 + P2) (a + 2) := by
            have := sz_sub zb zP2.neg
            rwa [Int.sub_neg] at this
          have zM : sz ((P1 + P2) / 2) (a + 1) := sz_btw zx zE (by omega) (by omega)
          have hM : P1 < (P1 + P2) / 2 ∧ (P1 + P2) / 2 < P2 ∧ (P1 + P2) / 2 - P1 ≤ P2 - (P1 + P2) / 2 := by omega
          refine field_box 0 rfl hwb ?_
          refine load_box_field (d := zd P1) 0 rfl (Part.left (Part.refl _)) (load_I _ _) fun u5 => ?_
          refine field_box 0 rfl hwb ?_
          refine load_box_field (d := zd P2) 0 rfl (Part.right (Part.left (Part.refl _))) (load_I _ _) fun u6 => ?_
          refine call_fn (zAddZ2 u5 u6 P1 P2 (a + 1) zb zP2 (by omega)) (Seals.refl _ _) qS ?_
          rintro u7 _ _ ⟨rfl, rfl⟩
          refine call_fn (zShrZ u7 (P1 + P2) (a + 2) zs (by omega)) (Seals.refl _ _) qS ?_
          rintro u8 _ _ ⟨rfl, rfl⟩
          generalize (P1 + P2) / 2 = M at *
          have hm3 := hT M
          refine alloc_rule (d := I false []) fun mb hmb => ?_
          refine store_box (d := zd M) 0 rfl hmb rfl (by kernel_rfl) (Reads.fact (v := u8) qM) ?_
          refine load_fact (d := wd ls) qM loadW fun v1 => ?_
          refine load_box (d := zd M) 0 rfl hmb rfl (load_I _ _) fun v2 => ?_
          refine call_fn (htz v1 v2 M zM) hpre qS ?_
          rintro _ _ _ ⟨rfl, rfl, rfl⟩
          refine load_box (d := zd M) 0 rfl hmb rfl (load_I _ _) fun v3 => ?_
          refine field_box 1 rfl hwb ?_
          refine load_box_field (d := zd P2) 1 rfl (Part.right (Part.left (Part.refl _))) (load_I _ _) fun v4 => ?_
          refine field_box 1 rfl hwb ?_
          refine load_box_field_one (u := .int .i64 (tns ls P2 : Nat)) 1 rfl (Part.right (Part.right (Part.right (Part.refl _)))) ?_
          refine build2211 (Knw.fact (v := v3) (d := zd M) qM) (Knw.fact (v := v4) (d := zd P2) qM) rfl rfl fun v5 => ?_
          refine field_box 1 rfl hwb ?_
          refine load_box_field (d := zd P1) 1 rfl (Part.left (Part.refl _)) (load_I _ _) fun v6 => ?_
          refine load_box (d := zd M) 0 rfl hmb rfl (load_I _ _) fun v7 => ?_
          refine field_box 1 rfl hwb ?_
          refine load_box_field_one (u := .int .i64 (tns ls P1 : Nat)) 1 rfl (Part.right (Part.right (Part.left (Part.refl _)))) ?_
          refine build2211 (Knw.fact (v := v6) (d := zd P1) qM) (Knw.fact (v := v7) (d := zd M) qM) rfl rfl fun v8 => ?_
          refine lit2_L (size := 6) (fP5 ls) (0, 0) (M, P2) (P1, M) (by decide) (Reads.fact (v := v5) (d := fP5 ls (M, P2)) qM) (Reads.fact (v := v8) (d := fP5 ls (P1, M)) qM) rfl rfl fun v9 => ?_
          refine append_L 3 rfl (pfx_sl hwv) (Knw.fact (v := v9) qM) (by rw [hr2]; simp only [List.length_cons, List.length_nil]; omega) (by rw [hr2]; simp only [List.length_cons, List.length_nil]; omega) fun wv2 hwv2 => ?_
          have hrev2 : r.reverse ++ [(M, P2), (P1, M)] = ((P1, M) :: (M, P2) :: r).reverse := by simp
          rw [hrev2]
          refine again ⟨(P1, M) :: (M, P2) :: r, O, ov, wv2, P1⟩ ⟨hov, hwv2, ⟨rfl, hM.1, rfl, hM.2.1, hsk2⟩, fun q hq => ?_, hfl, hXb, hOl⟩ (by simp only [List.length_cons]; omega) qF (Seals.trans (Seals.drop 0 _ _) (Seals.trans (Seals.drop 0 _ _) (Seals.sub qS)))
          rcases List.mem_cons.1 hq with rfl | hq
          · simp only; omega
          · rcases List.mem_cons.1 hq with rfl | hq
            · simp only; omega
            · exact hdb q (List.mem_cons_of_mem _ hq)
  · have hst0 : st = [] := List.length_eq_zero_iff.1 (by omega)
    subst hst0
    obtain rfl : b = E := hsk
    refine fin ⟨rfl, ov, O, 0, rfl, ⟨fun h => by omega, fun _ _ => ⟨rfl, s, ls, hs, hch, c3, hc.chain hd0 hs |>.2.1, by rw [hY]; exact hfl⟩, by omega⟩, rfl⟩ (Seals.trans (Seals.drop 1 _ _) (Seals.trans (Seals.toldL hov) (Seals.sub qS)))
open Go.RowKit
open Go.RowKit
theorem FlSpec.mem {p : List Int} {x y : Int} {O : List Int} {e : Int} (h : FlSpec p x y O e) : ∀ t, t ∈ O → x ≤ t ∧ t ≤ y := fun t ht => by
  by_cases hb : dg p = 0 ∨ y < x
  · rw [(h.bad hb).1] at ht; simp at ht
  · obtain ⟨_, s, ls, _, _, _, _, f⟩ := h.ok (by omega) (by omega)
    have := (f.mem t).1 ht; omega
def inRt (p O : List Int) : List Int := O.filter fun t => decide (pev p t = 0)
theorem inL_snoc (p : List Int) {O : List Int} {i : Nat} (h : i < O.length) : inRt p (O.take (i + 1)) = if pev p (O.getD i 0) = 0 then inRt p (O.take i) ++ [O.getD i 0] else inRt p (O.take i) := by
  have e : O.getD i 0 = O[i] := by rw [List.getD_eq_getElem?_getD, List.getElem?_eq_getElem h]; rfl
  unfold inRt
  rw [List.take_add_one, List.getElem?_eq_getElem h, List.filter_append, e]
  by_cases hz : pev p O[i] = 0
  · rw [if_pos hz]; simp [hz]
  · rw [if_neg hz]; simp [hz]
theorem in_meets (v w u : Value) (p : Row) (x y : Bool × List Nat) (k n a : Nat) (hp : Fit k p) (lp : p.length ≤ n) (hx : Lim x.2) (hxa : x.2.length ≤ a) (hy : Lim y.2) (hya : y.2.length ≤ a) (ha : 1 ≤ a) (haa : a ≤ 1073741824) (hk : ChOk (vv p) k n (a + 1)) :
    Meets Tryz.prog 67 [v, w, u] [(v, V p), (w, J x), (u, J y)] (fun r os fs => os = [] ∧ ∃ q O e, r = .tuple #[q, .int .i64 e] ∧ FlSpec (vv p) (jv x) (jv y) O e ∧ fs = [(q, vd (inRt (vv p) O))]) := by
  refine meets_of_vc Tryz.func67 (by kernel_rfl) rfl (by kernel_rfl) (Nat.le_of_ble_eq_true rfl) ?_
  refine box_rule (Reads.fact (d := J x) qM) fun bx hbx => ?_
  refine box_rule (Reads.fact (d := J y) qM) fun by' hby => ?_
  refine load_box (d := J x) 1 rfl hbx rfl (load_J _) fun y1 => ?_
  refine load_box (d := J y) 0 rfl hby rfl (load_J _) fun y2 => ?_
  refine call_fn (floors_meets v y1 y2 p x y k n a hp lp hx hxa hy hya ha haa hk) (Seals.refl _ _) qS ?_
  rintro _ _ _ ⟨rfl, q, O, e, rfl, hO, rfl⟩
  have hfew := hO.few
  have hsz : ∀ t, t ∈ O → sz t a := fun t ht => by
    have := hO.mem t ht
    exact sz_btw (sz_jv hx hxa) (sz_jv hy hya) this.1 this.2
  have hgm : ∀ i, i < O.length → O.getD i 0 ∈ O := fun i hi => by
    rw [List.getD_eq_getElem?_getD, List.getElem?_eq_getElem hi]; exact List.getElem_mem _
  have hml : (O.map cn).length = O.length := List.length_map _
  have z6 := hk.k5
  have hsg : ∀ y i, i < O.length → Meets Tryz.prog 112 [v, y] [(v, V p), (y, J ((O.map cn).getD i z0))] (fun r os fs => os = [] ∧ fs = [] ∧ r = .int .i64 (pev (vv p) (O.getD i 0)).sign) := fun y i hi => by
    rw [map_cn_get hi]
    have hm : (p.length + 1) * (a + 1) ≤ (n + 1) * (a + 1 + 1) := Nat.mul_le_mul (by omega) (by omega)
    have := rtSign_meets v y p (cn (O.getD i 0)) k a hp (Lim_lims _) (hsz _ (hgm i hi)).len (by omega) (by have := hk.n1; omega)
    rw [jv_cn] at this
    exact this
  refine len_fact (v := q) qM fun hOm => ?_
  refine loop_rule (X := Nat × Value) (fun x => ([(0, v), (9, .int .i64 e), (10, x.2), (20, q), (21, .int .i64 ((O.map cn).length : Nat)), (22, .int .i64 (x.1 : Nat))], [ownL 2 J z0 x.2 ((inRt (vv p) (O.take x.1)).map cn)], [(q, vd O), (v, V p)]))
    (fun x => x.1 ≤ O.length ∧ isSl x.2) (fun x => O.length - x.1) rfl ?_ ?_
  · refine again (0, .slice none 0 0) ⟨Nat.zero_le _, isSl_nil⟩ trivial qF (Seals.trans (Seals.drop 0 _ _) (Seals.trans (Seals.drop 0 _ _) (Seals.trans (Seals.own_nil _ _ 2 fun i => J ((([] : List Int).map cn).getD i z0)) (Seals.sub qS))))
  rintro ⟨i, ov⟩ ⟨hi, hov⟩
  simp only at hi hov ⊢
  refine cmp_split _ rfl (fun hlt => ?_) (fun hlt => ?_)
  · have hin : i < O.length := by omega
    have hil : ((inRt (vv p) (O.take i)).map cn).length ≤ i := by
      rw [List.length_map]
      have := List.length_filter_le (fun t => decide (pev (vv p) t = 0)) (O.take i)
      unfold inRt
      rw [List.length_take] at this; omega
    have hsn := inL_snoc (vv p) hin
    refine index_fact (v := q) qM i rfl (by omega) fun a1 => ?_
    refine load_fact (d := J ((O.map cn).getD i z0)) qM (load_J _) fun a2 => ?_
    refine alloc_rule (d := I false []) fun tb htb => ?_
    refine store_box (d := J ((O.map cn).getD i z0)) 0 rfl htb rfl (by kernel_rfl) (Reads.fact (v := a2) qM) ?_
    refine load_box (d := J ((O.map cn).getD i z0)) 0 rfl htb rfl (load_J _) fun a3 => ?_
    refine call_fn (hsg a3 i hin) (Seals.refl _ _) qS ?_
    rintro _ _ _ ⟨rfl, rfl, rfl⟩
    refine cmp_split _ rfl (fun hz => ?_) (fun hz => ?_)
    · rw [if_pos (sgn0.1 hz)] at hsn
      refine load_box (d := J ((O.map cn).getD i z0)) 0 rfl htb rfl (load_J _) fun a4 => ?_
      refine lit_L (size := 2) J z0 ((O.map cn).getD i z0) (by decide) (Reads.fact (v := a4) qM) rfl fun a5 => ?_
      refine append_L 1 rfl hov (Knw.fact (v := a5) qM) (by simp only [List.length_cons, List.length_nil]; omega) (by simp only [List.length_cons, List.length_nil]; omega) fun ov2 hov2 => ?_
      refine ar rfl qI ?_
      refine again (i + 1, ov2) ⟨by simp only; omega, hov2⟩ (by simp only; omega) qF ?_
      rw [hsn, ← map_snoc, map_cn_get hin]
      exact Seals.trans (Seals.drop 0 _ _) (Seals.sub (fs' := [(q, vd O), (v, V p)]) qS)
    · rw [if_neg (fun h => hz (sgn0.2 h))] at hsn
      refine ar rfl qI ?_
      refine again (i + 1, ov) ⟨by simp only; omega, hov⟩ (by simp only; omega) qF ?_
      rw [hsn]
      exact Seals.trans (Seals.drop 0 _ _) (Seals.sub (fs' := [(q, vd O), (v, V p)]) qS)
  · have hin : O.length = i := by omega
    subst hin
    refine fin ⟨rfl, ov, O, e, rfl, hO, rfl⟩ (Seals.trans (Seals.toldL hov) (Seals.cons ?_ (Seals.nil _ _)))
    exact (Knw.fact (List.Mem.head _)).cast (by rw [List.take_length])
open Go.RowKit
open Go.RowKit
end Go.Proofs.YtjebljkoiaojaaaGreat
namespace Go.Proofs.YtjebljkoiaojaaaGreat
open Go.RowKit
open Go.RowKit
theorem sim_root {P s : List Int} (h : SimSpec P s) (hd : 0 < dg P) {x : Int} (hx : pev P x = 0) : pev s x = 0 := by
  obtain ⟨g, hg, hs⟩ := h.ok hd
  have h0 : scont P ≠ 0 := fun e => by
    have h1 := scont_natAbs P
    have h2 := mt cont_zero.1 (show ¬ dg P = 0 by omega)
    rw [e] at h1
    exact h2 h1.symm
  have h1 := pprim_ev P x
  rw [hx] at h1
  have h2 : pev (pprim P) x = 0 := by
    rcases Int.mul_eq_zero.1 h1.symm with h | h
    · exact absurd h h0
    · exact h
  obtain ⟨u, hu⟩ := simple_power (w := pprim P) (by rw [pprim_dg]; exact hd) hg hs (dg (pprim P)) (pprim P) (by omega) (pprim_cont hd) (Dv.refl _)
  have h3 := hu x
  rw [h2, Int.zero_mul, ev_ppow] at h3
  exact Classical.byContradiction fun h => ipow_ne h _ h3
theorem Rise.filter (f : Int → Bool) : ∀ {l : List Int}, Rise l → Rise (l.filter f)
  | [], _ => trivial
  | a :: l, h => by
    have ih := Rise.filter f h.2
    rw [List.filter_cons]
    split
    · exact ⟨fun x hx => h.1 x ((List.mem_filter.1 hx).1), ih⟩
    · exact ih
theorem in_all {P : List Int} {x y : Int} {O : List Int} {e : Int} (h : FlSpec P x y O e) (hd : 0 < dg P) (hxy : x ≤ y) : Rise (inRt P O) ∧ (∀ t, t ∈ inRt P O ↔ x ≤ t ∧ t ≤ y ∧ pev P t = 0) ∧ e = 0 := by
  obtain ⟨h1, s, ls, h2, h3, h4, h5, h6⟩ := h.ok hd hxy
  refine ⟨h6.up.filter _, fun t => ?_, h1⟩
  unfold inRt
  rw [List.mem_filter, h6.mem, decide_eq_true_iff]
  constructor
  · rintro ⟨⟨g1, g2, _⟩, g4⟩; exact ⟨g1, by omega, g4⟩
  · rintro ⟨g1, g2, g3⟩
    refine ⟨⟨g1, by omega, ?_⟩, g3⟩
    have := h3.nn (show t < t + 1 by omega)
    rw [h4, if_pos (sim_root h2 hd g3)] at this
    omega
open Go.RowKit
def near (v m y : Int) : Bool := decide (v % m ≤ y) || decide (m - v % m ≤ y)
theorem zDivModZJ7 (v w : Value) (x : Int) (m : Bool × List Nat) (a : Nat) (hx : sz x a) (ha : a ≤ 137438953472) (hm : Lim m.2) (lm : m.2.length ≤ 137438953472) (h0 : jv m ≠ 0) :
    Meets Tryz.prog 94 [v, w] [(v, zd x), (w, J m)] (fun r os fs => os = [] ∧ ∃ q r', r = .tuple #[q, r', .bool true] ∧ fs = [(q, zd (x / jv m)), (r', zd (x % jv m))]) := by
  have h := zdivmod_meets v w (decide (x < 0)) m.1 (lims x.natAbs) m.2 (Lim_lims _) hm (Nat.le_trans hx.len ha) lm (by
    intro e
    apply h0
    show iv m.1 m.2 = 0
    unfold iv; rw [e]; split <;> simp)
  rw [iv_zd] at h
  exact h
theorem zCmpZJ7 (v w : Value) (x : Int) (y : Bool × List Nat) (a : Nat) (hx : sz x a) (ha : a ≤ 137438953472) (hy : Lim y.2) (ly : y.2.length ≤ 137438953472) :
    Meets Tryz.prog 95 [v, w] [(v, zd x), (w, J y)] (fun r os fs => os = [] ∧ fs = [] ∧ r = .int .i64 (x - jv y).sign) := by
  have h := zCmpS v w (cn x) y (Lim_lims _) hy (Nat.le_trans hx.len ha) ly
  rw [jv_cn] at h
  exact h
theorem zSubJZ7 (v w : Value) (x : Bool × List Nat) (y : Int) (a : Nat) (hx : Lim x.2) (lx : x.2.length ≤ 137438953472) (hy : sz y a) (ha : a ≤ 137438953472) :
    Meets Tryz.prog 96 [v, w] [(v, J x), (w, zd y)] (fun r os fs => os = [] ∧ fs = [(r, zd (jv x - y))]) := by
  have h := zsub_meets v w x.1 (cn y).1 x.2 (cn y).2 hx (Lim_lims _) lx (Nat.le_trans hy.len ha)
  have e : iv (cn y).1 (cn y).2 = y := iv_zd y
  rw [e] at h
  exact h
theorem sgn_le {x : Int} : x.sign ≤ 0 ↔ x ≤ 0 := by
  rcases Int.lt_trichotomy x 0 with g | g | g
  · rw [sgn_neg g]; omega
  · rw [g]; simp
  · rw [sgn_pos g]; omega
theorem slzwithin_meets (v w u : Value) (x : Int) (m y : Bool × List Nat) (a : Nat) (hx : sz x a) (ha : a ≤ 1073741824) (hm : Lim m.2) (lm : m.2.length ≤ 1073741824) (hy : Lim y.2) (ly : y.2.length ≤ 1073741824) (h0 : 0 < jv m) :
    Meets Tryz.prog 52 [v, w, u] [(v, zd x), (w, J m), (u, J y)] (fun r os fs => os = [] ∧ fs = [] ∧ r = .bool (near x (jv m) (jv y))) := by
  have hdm := fun y1 y2 => zDivModZJ7 y1 y2 x m a hx (by omega) hm (by omega) (by omega)
  have zm := sz_jv (x := m) hm (Nat.le_refl _)
  have hr : sz (x % jv m) m.2.length := by
    have h1 := Int.emod_nonneg x (show jv m ≠ 0 by omega)
    have h2 := Int.emod_lt_of_pos x h0
    unfold sz at *
    omega
  have hd : sz (jv m - x % jv m) (m.2.length + 1) := sz_sub zm hr
  have hc1 := fun y1 y2 => zCmpZJ7 y1 y2 (x % jv m) y _ hr (by omega) hy (by omega)
  have hc2 := fun y1 y2 => zCmpZJ7 y1 y2 (jv m - x % jv m) y _ hd (by omega) hy (by omega)
  have hsb := fun y1 y2 => zSubJZ7 y1 y2 m (x % jv m) _ hm (by omega) hr (by omega)
  have hn : near x (jv m) (jv y) = (decide (x % jv m ≤ jv y) || decide (jv m - x % jv m ≤ jv y)) := rfl
  rw [hn]
  generalize x / jv m = Q at *
  generalize x % jv m = R at *
  refine meets_of_vc Tryz.func52 (by kernel_rfl) rfl (by kernel_rfl) (Nat.le_of_ble_eq_true rfl) ?_
  refine box_rule (Reads.fact (d := zd x) qM) fun b1 h1 => ?_
  refine box_rule (Reads.fact (d := J m) qM) fun b2 h2 => ?_
  refine box_rule (Reads.fact (d := J y) qM) fun b3 h3 => ?_
  refine load_box (d := zd x) 2 rfl h1 rfl (load_I _ _) fun y1 => ?_
  refine load_box (d := J m) 1 rfl h2 rfl (load_J _) fun y2 => ?_
  refine call_fn (hdm y1 y2) (Seals.refl _ _) qS ?_
  rintro _ _ _ ⟨rfl, q, r, rfl, rfl⟩
  refine alloc_rule (d := I false []) fun c1 hb1 => ?_
  refine alloc_rule (d := I false []) fun c2 hb2 => ?_
  refine store_box (d := zd Q) 1 rfl hb1 rfl (by kernel_rfl) (Reads.fact (v := q) qM) ?_
  refine store_box (d := zd R) 0 rfl hb2 rfl (by kernel_rfl) (Reads.fact (v := r) qM) ?_
  refine draw_rule [0, 1, 2, 3, 4, 5, 6, 8, 7, 9, 10, 11, 12] [0, 1, 2, 3, 4, 5, 6, 7, 8, 9, 10, 11, 12] (by kernel_rfl) (by kernel_rfl) ?_
  refine load_box (d := zd R) 0 rfl hb2 rfl (load_I _ _) fun y3 => ?_
  refine load_box (d := J y) 2 rfl h3 rfl (load_J _) fun y4 => ?_
  refine call_fn (hc1 y3 y4) (Seals.refl _ _) qS ?_
  rintro _ _ _ ⟨rfl, rfl, rfl⟩
  refine cmp_split _ rfl (fun hle => ?_) (fun hle => ?_)
  · rw [decide_eq_true (show R ≤ jv y by have := sgn_le.1 hle; omega), Bool.true_or]
    exact fin ⟨rfl, rfl, rfl⟩ (Seals.trans (Seals.drop 0 _ _) (Seals.trans (Seals.drop 0 _ _) (Seals.trans (Seals.drop 0 _ _) (Seals.trans (Seals.drop 0 _ _) (Seals.trans (Seals.drop 0 _ _) (Seals.nil _ _))))))
  · rw [decide_eq_false (show ¬ R ≤ jv y from fun h => hle (sgn_le.2 (by omega))), Bool.false_or]
    refine load_box (d := J m) 3 rfl h2 rfl (load_J _) fun y5 => ?_
    refine load_box (d := zd R) 0 rfl hb2 rfl (load_I _ _) fun y6 => ?_
    refine load_box (d := J y) 2 rfl h3 rfl (load_J _) fun y7 => ?_
    refine call_fn (hsb y5 y6) (Seals.refl _ _) qS ?_
    rintro y8 _ _ ⟨rfl, rfl⟩
    refine call_fn (hc2 y8 y7) (Seals.refl _ _) qS ?_
    rintro _ _ _ ⟨rfl, rfl, rfl⟩
    refine cmp_split _ rfl (fun hle2 => ?_) (fun hle2 => ?_)
    · rw [decide_eq_true (show jv m - R ≤ jv y by have := sgn_le.1 hle2; omega)]
      exact fin ⟨rfl, rfl, rfl⟩ (Seals.trans (Seals.drop 0 _ _) (Seals.trans (Seals.drop 0 _ _) (Seals.trans (Seals.drop 0 _ _) (Seals.trans (Seals.drop 0 _ _) (Seals.trans (Seals.drop 0 _ _) (Seals.nil _ _))))))
    · rw [decide_eq_false (show ¬ jv m - R ≤ jv y from fun h => hle2 (sgn_le.2 (by omega)))]
      exact fin ⟨rfl, rfl, rfl⟩ (Seals.trans (Seals.drop 0 _ _) (Seals.trans (Seals.drop 0 _ _) (Seals.trans (Seals.drop 0 _ _) (Seals.trans (Seals.drop 0 _ _) (Seals.trans (Seals.drop 0 _ _) (Seals.nil _ _))))))
def withinR (P : List Int) (m y x : Int) : Bool × Int := if m < 1 ∨ y < 0 then (false, 1) else (near (pev P x) m y, 0)
theorem slzWithin_meets (v w u t : Value) (p : Row) (m y x : Bool × List Nat) (k a : Nat) (hp : Fit k p) (lp : p.length ≤ 1000) (hk : k ≤ 1000000) (hm : Lim m.2) (hma : m.2.length ≤ a) (hy : Lim y.2) (hya : y.2.length ≤ a) (hx : Lim x.2) (hxa : x.2.length ≤ a) (ha : a ≤ 1000000) :
    Meets Tryz.prog 13 [v, w, u, t] [(v, V p), (w, J m), (u, J y), (t, J x)] (fun r os fs => os = [] ∧ fs = [] ∧ r = .tuple #[.bool (withinR (vv p) (jv m) (jv y) (jv x)).1, .int .i64 (withinR (vv p) (jv m) (jv y) (jv x)).2]) := by
  have zm := sz_jv hm hma
  have zy := sz_jv hy hya
  have hmul : (p.length + 1) * (a + 1) ≤ 1001 * (a + 1) := Nat.mul_le_mul_right _ (by omega)
  have hsm : ∀ z, Meets Tryz.prog 51 [z] [(z, J m)] (fun r os fs => os = [] ∧ fs = [] ∧ r = .int .i64 (jv m).sign) := fun z => zsign_meets z m.1 m.2 hm (by omega)
  have hsy : ∀ z, Meets Tryz.prog 51 [z] [(z, J y)] (fun r os fs => os = [] ∧ fs = [] ∧ r = .int .i64 (jv y).sign) := fun z => zsign_meets z y.1 y.2 hy (by omega)
  have hv := fun z => pValueJ v z p x k a hp hx hxa (by omega) (by omega)
  have zv : sz (pev (vv p) (jv x)) 1073741824 := (ev_sz hp.szR (sz_jv hx hxa)).mono (by
    rw [vv_len]
    have : p.length * (a + 1) ≤ 1000 * (a + 1) := Nat.mul_le_mul_right _ lp
    omega)
  refine meets_of_vc Tryz.func13 (by kernel_rfl) rfl (by kernel_rfl) (Nat.le_of_ble_eq_true rfl) ?_
  refine box_rule (Reads.fact (d := J m) qM) fun b1 h1 => ?_
  refine box_rule (Reads.fact (d := J y) qM) fun b2 h2 => ?_
  refine box_rule (Reads.fact (d := J x) qM) fun b3 h3 => ?_
  refine load_box (d := J m) 2 rfl h1 rfl (load_J _) fun y1 => ?_
  refine call_fn (hsm y1) (Seals.refl _ _) qS ?_
  rintro _ _ _ ⟨rfl, rfl, rfl⟩
  have hs1 : (jv m).sign < 1 ↔ jv m < 1 := by
    rcases Int.lt_trichotomy (jv m) 0 with g | g | g
    · rw [sgn_neg g]; omega
    · rw [g]; simp
    · rw [sgn_pos g]; omega
  refine cmp_split _ rfl (fun hl => ?_) (fun hl => ?_)
  · rw [show withinR (vv p) (jv m) (jv y) (jv x) = (false, 1) from if_pos (.inl (hs1.1 hl))]
    exact fin ⟨rfl, rfl, rfl⟩ (Seals.trans (Seals.drop 0 _ _) (Seals.trans (Seals.drop 0 _ _) (Seals.trans (Seals.drop 0 _ _) (Seals.nil _ _))))
  have hm1 : ¬ jv m < 1 := fun h => hl (hs1.2 h)
  refine load_box (d := J y) 1 rfl h2 rfl (load_J _) fun y2 => ?_
  refine call_fn (hsy y2) (Seals.refl _ _) qS ?_
  rintro _ _ _ ⟨rfl, rfl, rfl⟩
  refine cmp_split _ rfl (fun hl2 => ?_) (fun hl2 => ?_)
  · rw [show withinR (vv p) (jv m) (jv y) (jv x) = (false, 1) from if_pos (.inr (sgn_lt.1 hl2))]
    exact fin ⟨rfl, rfl, rfl⟩ (Seals.trans (Seals.drop 0 _ _) (Seals.trans (Seals.drop 0 _ _) (Seals.trans (Seals.drop 0 _ _) (Seals.nil _ _))))
  rw [show withinR (vv p) (jv m) (jv y) (jv x) = (near (pev (vv p) (jv x)) (jv m) (jv y), 0) from if_neg (fun h => h.elim hm1 fun h => hl2 (sgn_lt.2 h))]
  refine draw_rule [0, 1, 3, 4, 2, 5, 6, 7] [0, 1, 2, 3, 4, 5, 6, 7] (by kernel_rfl) (by kernel_rfl) ?_
  refine load_box (d := J x) 0 rfl h3 rfl (load_J _) fun y3 => ?_
  refine load_box (d := J m) 2 rfl h1 rfl (load_J _) fun y4 => ?_
  refine load_box (d := J y) 1 rfl h2 rfl (load_J _) fun y5 => ?_
  refine call_fn (hv y3) (Seals.refl _ _) qS ?_
  rintro y6 _ _ ⟨rfl, rfl⟩
  refine call_fn (slzwithin_meets y6 y4 y5 _ m y _ zv (by decide) hm (by omega) hy (by omega) (by omega)) (Seals.refl _ _) qS ?_
  rintro _ _ _ ⟨rfl, rfl, rfl⟩
  exact fin ⟨rfl, rfl, rfl⟩ (Seals.trans (Seals.drop 0 _ _) (Seals.trans (Seals.drop 0 _ _) (Seals.trans (Seals.drop 0 _ _) (Seals.nil _ _))))
def lst1 (x : Int) : Int := if x = 0 then 1 else x
theorem slzpower_meets (v : Value) (x : Bool × List Nat) (n : Nat) (a : Nat) (hx : Lim x.2) (hxa : x.2.length ≤ a) (hn : n ≤ 1000) (ha : a ≤ 100000) :
    Meets Tryz.prog 57 [v, .int .i64 (n : Int)] [(v, J x)] (fun r os fs => os = [] ∧ fs = [(r, zd (jv x ^ n))]) := by
  have zx := sz_jv hx hxa
  have zp : ∀ i, i ≤ n → sz (jv x ^ i) (i * a + 1) := fun i _ => (sz_pow zx i).mono (by omega)
  have hle : ∀ i, i ≤ n → i * a + 1 ≤ 137438953472 := fun i hi => by
    have : i * a ≤ 1000 * a := Nat.mul_le_mul_right _ (by omega)
    omega
  have hmu := fun i (hi : i ≤ n) y1 y2 => zMulZJ y1 y2 (jv x ^ i) x _ (zp i hi) (hle i hi) hx (by omega)
  refine meets_of_vc Tryz.func57 (by kernel_rfl) rfl (by kernel_rfl) (Nat.le_of_ble_eq_true rfl) ?_
  refine box_rule (Reads.fact (d := J x) qM) fun b1 h1 => ?_
  refine alloc_rule (d := I false []) fun o ho => ?_
  refine call_fn (zof_meets 1 (by decide) (by decide)) (Seals.refl _ _) qS ?_
  rintro y1 _ _ ⟨rfl, rfl⟩
  refine alloc_rule (d := I false []) fun c hc => ?_
  refine store_box (d := zd 1) 0 rfl hc rfl (by kernel_rfl) (Reads.fact (v := y1) qM) ?_
  refine loop_rule (X := Nat) (fun i => ([(2, b1), (4, o), (5, c), (7, .int .i64 (n : Int)), (8, .int .i64 (i : Nat))], [own1 c 2 1 (fun _ => zd (jv x ^ i)), own1 o 2 1 (fun _ => I false []), own1 b1 2 1 (fun _ => J x)], []))
    (fun i => i ≤ n) (fun i => n - i) rfl ?_ ?_
  · exact again 0 (Nat.zero_le _) trivial qF (Seals.trans (Seals.box0 (by show zd 1 = zd (jv x ^ 0); rw [Int.pow_zero])) (Seals.sub qS))
  rintro i hi
  refine cmp_split _ rfl (fun hlt => ?_) (fun hlt => ?_)
  · refine load_box (d := zd (jv x ^ i)) 0 rfl hc rfl (load_I _ _) fun y2 => ?_
    refine load_box (d := J x) 2 rfl h1 rfl (load_J _) fun y3 => ?_
    refine call_fn (hmu i hi y2 y3) (Seals.refl _ _) qS ?_
    rintro y4 _ _ ⟨rfl, rfl⟩
    refine store_box (d := zd (jv x ^ i * jv x)) 0 rfl hc rfl (by kernel_rfl) (Reads.fact (v := y4) qM) ?_
    refine ar rfl qI ?_
    exact again (i + 1) (by omega) (by simp only; omega) qF (Seals.trans (Seals.box0 (by show zd _ = zd (jv x ^ (i + 1)); rw [Int.pow_succ])) (Seals.sub qS))
  · have hin : i = n := by omega
    subst hin
    refine load_box (d := zd (jv x ^ i)) 0 rfl hc rfl (load_I _ _) fun y5 => ?_
    refine store_box (d := zd (jv x ^ i)) 1 rfl ho rfl (by kernel_rfl) (Reads.fact (v := y5) qM) ?_
    refine load_box (d := zd (jv x ^ i)) 1 rfl ho rfl (load_I _ _) fun r => ?_
    exact fin ⟨rfl, rfl⟩ (Seals.trans (Seals.drop 0 _ _) (Seals.trans (Seals.drop 0 _ _) (Seals.trans (Seals.drop 0 _ _) (Seals.sub (fs' := [(r, zd (jv x ^ i))]) qS))))
open Go.RowKit
instance iCGa1 : TSl Tryz.prog 56 22 1 := ⟨Tryz.underlying56, by kernel_rfl⟩
instance tmS : TMap Tryz.prog 126 129 26 :=
  ⟨Tryz.underlying126, Maps.Keyed.of_law (deep_law_laid (m := 3) (by kernel_rfl) (by decide) (Nat.le_of_ble_eq_true (by kernel_rfl)) (by kernel_rfl) (by kernel_rfl))⟩
instance tsS : TSpot Tryz.prog 129 :=
  ⟨⟨_, _, Tryz.underlying129, rfl, rfl, by kernel_rfl, by kernel_rfl, Tryz.underlying3, Tryz.underlying3, by kernel_rfl, by kernel_rfl, by kernel_rfl⟩, by kernel_rfl, ⟨Tryz.prog.types.size - 1, by kernel_rfl⟩⟩
theorem info_spot : (Tryz.prog.info? 129).map (fun i => (i.zero, i.size, i.bytes)) = some (some (.agg #[.int .i64 0, .int .i64 0]), 2, 16) := by kernel_rfl
instance iCGa3 : TStr2 Tryz.prog 129 (.int .i64 0) (.int .i64 0) := ⟨⟨_, _, _, Tryz.underlying129, rfl, rfl, rfl, by kernel_rfl, by kernel_rfl⟩, by
  obtain ⟨i, h1, _, _, h4⟩ := info_of info_spot
  exact ⟨i, h1, h4⟩⟩
instance iCGa4 : TAgg Tryz.prog 129 2 := ⟨⟨_, Tryz.underlying129, rfl⟩, by kernel_rfl⟩
instance iCGa5 : TFld Tryz.prog 129 0 0 := ⟨_, _, Tryz.underlying129, rfl, rfl, 0, by kernel_rfl⟩
instance iCGa6 : TFld Tryz.prog 129 1 1 := ⟨_, _, Tryz.underlying129, rfl, rfl, 0, by kernel_rfl⟩
instance tzS : TZero Tryz.prog 129 (spotD 0 0) := tzero info_spot fun _ _ => ⟨[_], [_], rfl, ⟨rfl, rfl⟩, ⟨rfl, rfl⟩⟩
instance tvI : TZeroV Tryz.prog 26 (J z0) := ⟨by
  obtain ⟨i, h1, _, _, h4⟩ := info_of info_int
  exact ⟨i, _, h1, h4, fun S w => ⟨_, ⟨[.bool false], [.slice none 0 0], rfl, rd_false S w, rd_nil S w 1 _⟩, rfl⟩⟩⟩
abbrev Ent3 := Nat × Nat × (Bool × List Nat)
def tr (i : Nat) (r : Row) : Nat → List Ent3
  | 0 => []
  | n + 1 => tr i r n ++ if jv (r.getD n z0) = 0 then [] else [(i, n, r.getD n z0)]
def tg (g : List Row) : Nat → List Ent3
  | 0 => []
  | n + 1 => tg g n ++ tr n (g.getD n []) (g.getD n []).length
theorem tr_mem {i : Nat} {r : Row} {n : Nat} {t : Ent3} (h : t ∈ tr i r n) : t.1 = i ∧ t.2.1 < n ∧ t.2.2 = r.getD t.2.1 z0 ∧ jv t.2.2 ≠ 0 := by
  induction n with
  | zero => simp [tr] at h
  | succ n ih =>
    simp only [tr, List.mem_append] at h
    rcases h with h | h
    · obtain ⟨h1, h2, h3⟩ := ih h; exact ⟨h1, by omega, h3⟩
    · split at h
      · simp at h
      · rename_i hz
        simp only [List.mem_singleton] at h
        subst h
        exact ⟨rfl, Nat.lt_succ_self _, rfl, hz⟩
theorem tg_mem {g : List Row} {n : Nat} {t : Ent3} (h : t ∈ tg g n) : t.1 < n ∧ t.2.1 < (g.getD t.1 []).length ∧ t.2.2 = (g.getD t.1 []).getD t.2.1 z0 ∧ jv t.2.2 ≠ 0 := by
  induction n with
  | zero => simp [tg] at h
  | succ n ih =>
    simp only [tg, List.mem_append] at h
    rcases h with h | h
    · obtain ⟨h1, h2⟩ := ih h; exact ⟨by omega, h2⟩
    · obtain ⟨h1, h2, h3, h4⟩ := tr_mem h
      subst h1
      exact ⟨Nat.lt_succ_self _, h2, h3, h4⟩
theorem tr_nd (i : Nat) (r : Row) (n : Nat) : Nd (tr i r n) := by
  induction n with
  | zero => exact List.Pairwise.nil
  | succ n ih =>
    refine List.pairwise_append.2 ⟨ih, ?_, fun s hs t ht => ?_⟩
    · split
      · exact List.Pairwise.nil
      · exact List.pairwise_singleton _ _
    · split at ht
      · simp at ht
      · simp only [List.mem_singleton] at ht
        subst ht
        have := (tr_mem hs).2.1
        simp only
        omega
theorem tg_nd (g : List Row) (n : Nat) : Nd (tg g n) := by
  induction n with
  | zero => exact List.Pairwise.nil
  | succ n ih =>
    refine List.pairwise_append.2 ⟨ih, tr_nd _ _ _, fun s hs t ht => ?_⟩
    have h1 := (tg_mem hs).1
    have h2 := (tr_mem ht).1
    omega
theorem tr_len (i : Nat) (r : Row) (n : Nat) : (tr i r n).length ≤ n := by
  induction n with
  | zero => exact Nat.le_refl _
  | succ n ih =>
    simp only [tr, List.length_append]
    split <;> simp only [List.length_nil, List.length_cons] <;> omega
theorem tg_len {g : List Row} {c : Nat} (hc : ∀ r, r ∈ g → r.length ≤ c) (n : Nat) : (tg g n).length ≤ n * c := by
  induction n with
  | zero => exact Nat.zero_le _
  | succ n ih =>
    have h1 := tr_len n (g.getD n []) (g.getD n []).length
    have h2 : (g.getD n []).length ≤ c := by
      by_cases hn : n < g.length
      · exact hc _ (by rw [List.getD_eq_getElem?_getD, List.getElem?_eq_getElem hn]; exact List.getElem_mem hn)
      · rw [List.getD_eq_getElem?_getD, List.getElem?_eq_none (by omega)]; exact Nat.zero_le _
    simp only [tg, List.length_append, Nat.succ_mul]
    omega
theorem mput_new {L : List Ent3} {i j : Nat} (h : ∀ t, t ∈ L → ¬ (t.1 = i ∧ t.2.1 = j)) (a : Bool × List Nat) : mput L i j a = L ++ [(i, j, a)] := by
  unfold mput
  rw [List.findIdx?_eq_none_iff.2 fun t ht => by
    have := h t ht
    cases hb : (t.1 == i && t.2.1 == j)
    · rfl
    · simp only [Bool.and_eq_true, beq_iff_eq] at hb; exact absurd hb this]
theorem gterms_meets (v : Value) (g : List Row) (hk : ∀ r, r ∈ g → r.length ≤ 1048576 ∧ Fit 137438953472 r) (lg : g.length ≤ 1048576) :
    Meets Tryz.prog 102 [v] [(v, W g)] (fun r os fs => os = [] ∧ (∃ b, r = .map (some b)) ∧ fs = [(r, MD J z0 (tg g g.length))]) := by
  refine meets_of_vc Tryz.func102 (by kernel_rfl) rfl (by kernel_rfl) (Nat.le_of_ble_eq_true rfl) ?_
  refine make_L J z0 fun m hm => ?_
  refine len_fact qM fun _ => ?_
  refine loop_rule (X := Nat) (fun i => ([(3, m), (9, v), (10, .int .i64 (g.length : Nat)), (11, .int .i64 (i : Nat))], [ownMD J z0 m (tg g i)], [(v, W g)])) (fun i => i ≤ g.length) (fun i => g.length - i) rfl ?_ ?_
  · exact again 0 (Nat.zero_le _) trivial qF (Seals.sub qS)
  · rintro i hi
    refine cmp_split _ rfl (fun hlt => ?_) (fun hlt => ?_)
    · have hin : i < g.length := by omega
      have hrm : g.getD i [] ∈ g := by rw [List.getD_eq_getElem?_getD, List.getElem?_eq_getElem hin]; exact List.getElem_mem hin
      obtain ⟨hrl, hrf⟩ := hk _ hrm
      have hlen := tg_len (fun r hr => (hk r hr).1) i
      have hmul : i * 1048576 ≤ 1048576 * 1048576 := Nat.mul_le_mul_right _ (by omega)
      have hmem := fun t => tg_mem (g := g) (n := i) (t := t)
      have hnd := tg_nd g i
      have hstep : tg g (i + 1) = tg g i ++ tr i (g.getD i []) (g.getD i []).length := rfl
      refine index_fact qM i rfl hin fun b1 => ?_
      refine load_fact (d := V (g.getD i [])) qM (show TOne Tryz.prog 22 from inferInstance) fun u => ?_
      generalize g.getD i [] = r at *
      generalize hT : tg g i = T at *
      refine len_fact qM fun _ => ?_
      refine loop_rule (X := Nat) (fun j => ([(3, m), (4, .int .i64 (i : Nat)), (9, v), (10, .int .i64 (g.length : Nat)), (11, .int .i64 (i : Nat)), (16, u), (17, .int .i64 (r.length : Nat)), (18, .int .i64 (j : Nat))], [ownMD J z0 m (T ++ tr i r j)], [(u, V r), (v, W g)])) (fun j => j ≤ r.length) (fun j => r.length - j) rfl ?_ ?_
      · refine again 0 (Nat.zero_le _) trivial qF ?_
        rw [show T ++ tr i r 0 = T from List.append_nil _]
        exact Seals.sub qS
      · rintro j hj
        refine cmp_split _ rfl (fun hlt2 => ?_) (fun hlt2 => ?_)
        · have hjr : j < r.length := by omega
          have hx := hrf.get j
          have hs := fun u => zsign_meets u (r.getD j z0).1 (r.getD j z0).2 hx.1 hx.2
          have hstep2 : tr i r (j + 1) = tr i r j ++ if jv (r.getD j z0) = 0 then [] else [(i, j, r.getD j z0)] := rfl
          have htm := fun t => tr_mem (i := i) (r := r) (n := j) (t := t)
          have htl := tr_len i r j
          have hnd2 : Nd (T ++ tr i r j) := List.pairwise_append.2 ⟨hnd, tr_nd _ _ _, fun s hs t ht => by
            have h1 := (hmem s hs).1
            have h2 := (htm t ht).1
            omega⟩
          have hin64 : In64 (T ++ tr i r j) := fun t ht => by
            rcases List.mem_append.1 ht with ht | ht
            · obtain ⟨h1, h2, _⟩ := hmem t ht
              have : (g.getD t.1 []).length ≤ 1048576 := (hk _ (by rw [List.getD_eq_getElem?_getD, List.getElem?_eq_getElem (by omega)]; exact List.getElem_mem _)).1
              omega
            · obtain ⟨h1, h2, _⟩ := htm t ht
              omega
          have hnew := mput_new (L := T ++ tr i r j) (i := i) (j := j) (fun t ht e => by
            rcases List.mem_append.1 ht with ht | ht
            · have := (hmem t ht).1; omega
            · have := (htm t ht).2.1; omega) (r.getD j z0)
          refine index_fact qM j rfl hjr fun b2 => ?_
          refine load_fact (d := J (r.getD j z0)) qM (load_J _) fun y1 => ?_
          refine alloc_rule (d := I false []) fun q hq => ?_
          refine store_box (d := J (r.getD j z0)) 0 rfl hq rfl (by kernel_rfl) ?_ ?_; exact Reads.fact qM
          refine load_box (d := J (r.getD j z0)) 0 rfl hq rfl (load_J _) fun y2 => ?_
          refine call_fn (hs y2) (Seals.refl _ _) qS ?_
          rintro _ _ _ ⟨rfl, rfl, rfl⟩
          by_cases h0 : jv (r.getD j z0) = 0
          · refine cmp_false rfl (fun hne => hne (by show (jv (r.getD j z0)).sign = 0; rw [h0]; rfl)) ?_
            refine ar rfl qI ?_
            refine again (j + 1) (by omega) (by simp only; omega) qF ?_
            rw [hstep2, if_pos h0, List.append_nil]
            exact Seals.trans (Seals.drop 0 _ _) (Seals.sub qS)
          · refine cmp_true rfl (fun e => h0 (Int.sign_eq_zero_iff_zero.1 e)) ?_
            refine build_spot ?_
            refine load_box (d := J (r.getD j z0)) 0 rfl hq rfl (load_J _) fun y3 => ?_
            refine put_L (r.getD j z0) 1 rfl hm hin64 hnd2 (by omega) (by omega) (by simp only [List.length_append]; unfold maxLen; omega) (Knw.fact qM) ?_
            rw [hnew]
            refine ar rfl qI ?_
            refine again (j + 1) (by omega) (by simp only; omega) qF ?_
            rw [hstep2, if_neg h0, ← List.append_assoc]
            exact Seals.trans (Seals.drop 0 _ _) (Seals.sub qS)
        · have hjr : j = r.length := by omega
          subst hjr
          refine ar rfl qI ?_
          refine again (i + 1) (by omega) (by simp only; omega) qF ?_
          rw [hstep]
          exact Seals.sub qS
    · have hip : i = g.length := by omega
      subst hip
      exact fin ⟨rfl, hm, rfl⟩ (Seals.trans (Seals.mapL 0 rfl hm) (Seals.sub qS))
open Go.RowKit
def gtr : List (List Int) → List (List Int)
  | [] => []
  | r :: g => match gtr g with
    | [] => if r = [] then [] else [r]
    | s :: t => r :: s :: t
theorem gtr_snoc_nil (l : List (List Int)) : gtr (l ++ [[]]) = gtr l := by
  induction l with
  | nil => rfl
  | cons r l ih => simp only [List.cons_append, gtr, ih]
theorem gtr_snoc_ne {r : List Int} (h : r ≠ []) (l : List (List Int)) : gtr (l ++ [r]) = l ++ [r] := by
  induction l with
  | nil => simp [gtr, h]
  | cons s l ih =>
    simp only [List.cons_append, gtr, ih]
    cases l <;> rfl
def rowL (L : List Ent3) (i n : Nat) : Row := (List.range n).map fun j => lk z0 L i j
def laidN (L : List Ent3) (c n : Nat) : List (List Int) := (List.range n).map fun i => nrm (vv (rowL L i c))
theorem rowL_len (L : List Ent3) (i n : Nat) : (rowL L i n).length = n := by simp [rowL]
theorem rowL_get (L : List Ent3) {i n j : Nat} (h : j < n) : (rowL L i n).getD j z0 = lk z0 L i j := by simp [rowL, List.getD_eq_getElem?_getD, h]
theorem laidN_len (L : List Ent3) (c n : Nat) : (laidN L c n).length = n := by simp [laidN]
theorem laidN_succ (L : List Ent3) (c n : Nat) : laidN L c (n + 1) = laidN L c n ++ [nrm (vv (rowL L n c))] := by simp [laidN, List.range_succ]
theorem lk_mem {L : List Ent3} {i j : Nat} : lk z0 L i j = z0 ∨ ∃ t, t ∈ L ∧ t.1 = i ∧ t.2.1 = j ∧ lk z0 L i j = t.2.2 := by
  unfold lk
  cases hf : L.find? fun t => t.1 == i && t.2.1 == j with
  | none => exact .inl rfl
  | some t =>
    have h1 := List.find?_some hf
    simp only [Bool.and_eq_true, beq_iff_eq] at h1
    exact .inr ⟨t, List.mem_of_find?_eq_some hf, h1.1, h1.2, rfl⟩
theorem lay_s (F : Nat → Bool × List Nat) (j y : Nat) : upd (fun y => J (if y < j then F y else z0)) j (J (F j)) y = J (if y < j + 1 then F y else z0) := by
  unfold upd
  by_cases h : y = j
  · subst h; rw [if_pos rfl, if_pos (by omega)]
  · rw [if_neg h]
    show J (if y < j then F y else z0) = J (if y < j + 1 then F y else z0)
    by_cases h2 : y < j
    · rw [if_pos h2, if_pos (by omega)]
    · rw [if_neg h2, if_neg (by omega)]
theorem glaid_meets (v : Value) (L : List Ent3) (n c : Nat) (hL : In64 L) (hnd : Nd L) (hf : ∀ t, t ∈ L → Lim t.2.2.2 ∧ t.2.2.2.length ≤ 137438953472) (hn : n ≤ 1048576) (hc : c ≤ 1048576) :
    Meets Tryz.prog 104 [v, .int .i64 ((n : Nat) - 1 : Int), .int .i64 ((c : Nat) - 1 : Int)] [(v, MD J z0 L)] (fun r os fs => os = [] ∧ fs = [(r, wd (gtr (laidN L c n)))]) := by
  refine meets_of_vc Tryz.func104 (by kernel_rfl) rfl (by kernel_rfl) (Nat.le_of_ble_eq_true rfl) ?_
  refine ar rfl qI ?_
  refine loop_rule (X := Nat × Value) (fun x => ([(0, v), (1, .int .i64 ((n : Nat) - 1 : Int)), (2, .int .i64 ((c : Nat) - 1 : Int)), (7, x.2), (12, .int .i64 (n : Nat)), (13, .int .i64 (x.1 : Nat))], [ownL 1 V [] x.2 ((laidN L c x.1).map (·.map cn))], [(v, MD J z0 L)]))
    (fun x => x.1 ≤ n ∧ isSl x.2) (fun x => n - x.1) rfl ?_ ?_
  · exact again (0, .slice none 0 0) ⟨Nat.zero_le _, isSl_nil⟩ trivial qF (Seals.trans (Seals.own_nil _ _ 1 (fun i => V (([] : List Row).getD i []))) (Seals.sub qS))
  · rintro ⟨i, vo⟩ ⟨h1, hvo⟩
    simp only at h1 hvo ⊢
    refine cmp_split _ rfl (fun hlt => ?_) (fun hlt => ?_)
    · have hin : i < n := by omega
      have hlen := laidN_len L c i
      have hrow : Fit 137438953472 (rowL L i c) := fun x hx => by
        obtain ⟨j, hj, rfl⟩ := List.mem_map.1 hx
        rcases lk_mem (L := L) (i := i) (j := j) with h | ⟨t, ht, _, _, h⟩
        · rw [h]; exact ⟨Lim.nil, Nat.zero_le _⟩
        · rw [h]; exact hf t ht
      refine ar rfl qI ?_
      refine make_rule (t := 23) (d := I false []) c (by omega) (by omega) (by omega) (by omega) fun u hu => ?_
      refine ar rfl qI ?_
      refine loop_rule (X := Nat) (fun j => ([(0, v), (1, .int .i64 ((n : Nat) - 1 : Int)), (2, .int .i64 ((c : Nat) - 1 : Int)), (7, vo), (8, .int .i64 (i : Nat)), (9, u), (12, .int .i64 (n : Nat)), (13, .int .i64 (i : Nat)), (20, .int .i64 (c : Nat)), (21, .int .i64 (j : Nat))],
        [own1 u 2 c (fun y => J (if y < j then lk z0 L i y else z0)), ownL 1 V [] vo ((laidN L c i).map (·.map cn))], [(v, MD J z0 L)])) (fun j => j ≤ c) (fun j => c - j) rfl ?_ ?_
      · exact again 0 (Nat.zero_le _) trivial qF (Seals.trans (Seals.own_cong (os := [_, _]) 0 (fun y => J (if y < 0 then lk z0 L i y else z0)) rfl rfl fun y _ => by rw [if_neg (Nat.not_lt_zero _)]; rfl) (Seals.sub qS))
      · rintro j hj
        refine cmp_split _ rfl (fun hlt2 => ?_) (fun hlt2 => ?_)
        · have hjc : j < c := by omega
          refine build_spot ?_
          refine get_L qM hL hnd (by omega) (by omega) fun y1 => ?_
          refine index_elem 0 rfl hu j rfl hjc ?_
          refine StoreK.post (store_elem (d := J (lk z0 L i j)) 0 rfl j hjc rfl (by kernel_rfl) (Reads.fact qM) ⟨_, _, Seals.own_cong (os := [_, _]) 0 (fun y => J (if y < j + 1 then lk z0 L i y else z0)) rfl rfl (fun y _ => lay_s (fun y => lk z0 L i y) j y), ?_⟩)
          refine ar rfl qI ?_
          exact again (j + 1) (by omega) (by simp only; omega) qF (Seals.sub qS)
        · have hjc : j = c := by omega
          subst hjc
          refine call_fn (pNorm_meets u (rowL L i j) hrow (by rw [rowL_len]; omega)) (Seals.trans (Seals.own_cong (os := [_, _]) 0 (n' := (rowL L i j).length) (fun y => J ((rowL L i j).getD y z0)) rfl (rowL_len L i j).symm fun y hy => by rw [if_pos hy, rowL_get L hy]) (Seals.L (os := [ownL 2 J z0 u (rowL L i j), _]) 0 rfl hu)) qS ?_
          rintro x2 _ _ ⟨rfl, rfl⟩
          refine lit_L (size := 1) V [] ((nrm (vv (rowL L i j))).map cn) (by decide) (Reads.fact (d := V ((nrm (vv (rowL L i j))).map cn)) qM) rfl fun l1 => ?_
          refine append_L 0 rfl hvo (Knw.fact qM) (by simp only [List.length_map, List.length_cons, List.length_nil]; omega) (by simp only [List.length_map, List.length_cons, List.length_nil]; omega) fun w2 hw2 => ?_
          refine ar rfl qI ?_
          refine again (i + 1, w2) ⟨by simp only; omega, hw2⟩ (by simp only; omega) qF ?_
          simp only [laidN_succ, List.map_append, List.map_cons, List.map_nil]
          exact Seals.sub qS
    · have hip : i = n := by omega
      subst hip
      have hG := laidN_len L c i
      generalize laidN L c i = G at *
      have hGm : ∀ k, k ≤ i → ((G.take k).map (·.map cn)).length = k := fun k hk => by rw [List.length_map, List.length_take]; omega
      refine loop_rule (X := Nat × Value) (fun x => ([(7, x.2)], [], [(x.2, wd (G.take x.1))])) (fun x => x.1 ≤ i ∧ gtr (G.take x.1) = gtr G) (fun x => x.1) rfl ?_ ?_
      · refine again (i, vo) ⟨Nat.le_refl _, by simp only; rw [List.take_of_length_le (by omega)]⟩ trivial qF (Seals.trans (Seals.L 0 rfl hvo) ?_)
        simp only
        rw [List.take_of_length_le (show G.length ≤ i by omega)]
        exact Seals.sub qS
      · rintro ⟨k, u⟩ ⟨g1, g2⟩
        simp only at g1 g2 ⊢
        have hm := hGm k g1
        refine len_fact qM fun _ => ?_
        rw [hm]
        refine cmp_split _ rfl (fun hk0 => ?_) (fun hk0 => ?_)
        · obtain ⟨j, rfl⟩ : ∃ j, k = j + 1 := ⟨k - 1, by omega⟩
          have hj : j < G.length := by omega
          have ht := take_snoc' [] hj
          have hget : ((G.take (j + 1)).map (·.map cn)).getD j [] = (G.getD j []).map cn := by
            rw [ht, List.map_append, List.getD_eq_getElem?_getD, List.getElem?_append_right (by rw [hGm j (by omega)]; exact Nat.le_refl _), hGm j (by omega), Nat.sub_self]; rfl
          refine len_fact qM fun _ => ?_
          rw [hm]
          refine ar rfl qI ?_
          refine index_fact qM j (by omega) (by omega) fun b1 => ?_
          refine load_fact (d := V (((G.take (j + 1)).map (·.map cn)).getD j [])) qM (load_V _) fun y1 => ?_
          rw [hget]
          refine len_fact qM fun _ => ?_
          refine cmp_split _ rfl (fun hz => ?_) (fun hz => ?_)
          · have hnil : G.getD j [] = [] := List.eq_nil_of_length_eq_zero (by rw [List.length_map] at hz; omega)
            refine len_fact qM fun _ => ?_
            rw [hm]
            refine ar rfl qI ?_
            refine slice_L (kl := .i64) (kh := .i64) qM 0 j _ _ (.inl ⟨rfl, rfl⟩) (.inr (by congr 2; omega)) (by omega) (by omega) fun u' => ?_
            refine again (j, u') ⟨by omega, by simp only; rw [← g2, ht, hnil, gtr_snoc_nil]⟩ (by simp only; omega) qF ?_
            simp only
            have e : ((G.take (j + 1)).map (·.map cn)).take j = (G.take j).map (·.map cn) := by rw [← List.map_take, List.take_take]; congr 2; omega
            rw [List.drop_zero, e]
            exact Seals.sub qS
          · have hne : G.getD j [] ≠ [] := fun e => hz (by rw [e]; rfl)
            refine fin ⟨rfl, rfl⟩ ?_
            rw [← g2, ht, gtr_snoc_ne hne, ← ht]
            exact Seals.sub qS
        · have hk : k = 0 := by omega
          subst hk
          refine fin ⟨rfl, rfl⟩ ?_
          rw [← g2]
          exact Seals.sub qS
end Go.Proofs.YtjebljkoiaojaaaGreat
namespace Go.Proofs.YtjebljkoiaojaaaGreat
def gv (G : List (List Int)) (i j : Nat) : Int := (G.getD i []).getD j 0
def Gn (G : List (List Int)) : Prop := gtr G = G ∧ ∀ r, r ∈ G → Nm r
theorem gtr_gtr (G : List (List Int)) : gtr (gtr G) = gtr G := by
  induction G with
  | nil => rfl
  | cons r G ih =>
    simp only [gtr]
    split
    · split
      · rfl
      · rename_i h; simp [gtr, h]
    · rename_i s t h
      rw [h] at ih
      show (match gtr (s :: t) with | [] => _ | s :: t => _) = _
      rw [ih]
theorem gtr_getD (G : List (List Int)) (i : Nat) : (gtr G).getD i [] = G.getD i [] := by
  induction G generalizing i with
  | nil => rfl
  | cons r G ih =>
    simp only [gtr]
    split
    · rename_i h
      have hz : ∀ i, G.getD i [] = [] := fun i => by rw [← ih, h]; rfl
      split
      · rename_i hr
        cases i with
        | zero => simp [hr]
        | succ i => simpa using (hz i).symm
      · cases i with
        | zero => rfl
        | succ i => simpa using (hz i).symm
    · rename_i s t h
      cases i with
      | zero => rfl
      | succ i =>
        have := ih i
        rw [h] at this
        simpa using this
theorem gtr_mem {G : List (List Int)} {r : List Int} (h : r ∈ gtr G) : r ∈ G := by
  induction G with
  | nil => exact h
  | cons s G ih =>
    simp only [gtr] at h
    split at h
    · split at h
      · simp at h
      · simp only [List.mem_singleton] at h; exact List.mem_cons.2 (.inl h)
    · rename_i s' t hg
      rcases List.mem_cons.1 h with h | h
      · exact List.mem_cons.2 (.inl h)
      · exact List.mem_cons.2 (.inr (ih (by rw [hg]; exact h)))
theorem gtr_last {G : List (List Int)} (h : gtr G = G) : ∀ n, G.length = n + 1 → G.getD n [] ≠ [] := by
  intro n hn he
  have ht : G = G.take n ++ [G.getD n []] := by
    conv => lhs; rw [← List.take_length (l := G), hn]
    exact take_snoc' [] (by omega)
  rw [he] at ht
  have h1 : gtr G = gtr (G.take n) := by rw [ht, gtr_snoc_nil, List.take_append_of_le_length (by rw [List.length_take]; omega), List.take_take, Nat.min_self]
  have h2 : (gtr (G.take n)).length ≤ (G.take n).length := by
    have : ∀ H : List (List Int), (gtr H).length ≤ H.length := fun H => by
      induction H with
      | nil => exact Nat.le_refl _
      | cons r H ih =>
        simp only [gtr]
        split
        · split <;> simp
        · rename_i s t hg
          rw [hg] at ih
          simpa using ih
    exact this _
  rw [← h1, h, List.length_take] at h2
  omega
theorem Gn.ext {G H : List (List Int)} (hG : Gn G) (hH : Gn H) (h : ∀ i j, gv G i j = gv H i j) : G = H := by
  have rows : ∀ i, G.getD i [] = H.getD i [] := fun i => by
    have nm : ∀ {K : List (List Int)}, Gn K → Nm (K.getD i []) := fun {K} hK => by
      by_cases hi : i < K.length
      · exact hK.2 _ (by rw [List.getD_eq_getElem?_getD, List.getElem?_eq_getElem hi]; exact List.getElem_mem hi)
      · rw [List.getD_eq_getElem?_getD, List.getElem?_eq_none (by omega)]; exact rfl
    have e : nrm (G.getD i []) = nrm (H.getD i []) := nrm_ext fun j => h i j
    rwa [nm hG, nm hH] at e
  have len : G.length = H.length := by
    rcases Nat.lt_trichotomy G.length H.length with hl | hl | hl
    · obtain ⟨n, hn⟩ : ∃ n, H.length = n + 1 := ⟨H.length - 1, by omega⟩
      refine absurd ?_ (gtr_last hH.1 n hn)
      rw [← rows, List.getD_eq_getElem?_getD, List.getElem?_eq_none (by omega)]; rfl
    · exact hl
    · obtain ⟨n, hn⟩ : ∃ n, G.length = n + 1 := ⟨G.length - 1, by omega⟩
      refine absurd ?_ (gtr_last hG.1 n hn)
      rw [rows, List.getD_eq_getElem?_getD, List.getElem?_eq_none (by omega)]; rfl
  exact row_eq_of_getD [] len fun i _ => rows i
def gof (F : Nat → Nat → Int) (n c : Nat) : List (List Int) := gtr ((List.range n).map fun i => nrm (lst c (F i)))
theorem gof_gn (F : Nat → Nat → Int) (n c : Nat) : Gn (gof F n c) := ⟨gtr_gtr _, fun r hr => by
  obtain ⟨i, _, rfl⟩ := List.mem_map.1 (gtr_mem hr)
  exact nrm_nrm _⟩
theorem gof_gv (F : Nat → Nat → Int) (n c i j : Nat) : gv (gof F n c) i j = if i < n ∧ j < c then F i j else 0 := by
  unfold gv gof
  rw [gtr_getD]
  by_cases hi : i < n
  · have : ((List.range n).map fun i => nrm (lst c (F i))).getD i [] = nrm (lst c (F i)) := by simp [List.getD_eq_getElem?_getD, hi]
    rw [this, co_nrm]
    by_cases hj : j < c
    · rw [lst_get hj, if_pos ⟨hi, hj⟩]
    · rw [if_neg (fun h => hj h.2), List.getD_eq_getElem?_getD, List.getElem?_eq_none (by rw [lst_len]; omega)]; rfl
  · have : ((List.range n).map fun i => nrm (lst c (F i))).getD i [] = [] := by simp [List.getD_eq_getElem?_getD, show n ≤ i by omega]
    rw [this, if_neg (fun h => hi h.1)]; rfl
theorem laid_gof (L : List Ent3) (n c : Nat) : gtr (laidN L c n) = gof (fun i j => jv (lk z0 L i j)) n c := by
  unfold laidN gof
  congr 2
  funext i
  congr 1
  refine row_eq_of_getD 0 (by rw [vv_len, rowL_len, lst_len]) fun j hj => ?_
  rw [vv_len, rowL_len] at hj
  rw [vv_get _ _ (by rw [rowL_len]; exact hj), rowL_get L hj, lst_get hj]
def gn (G : List (List Int)) : List (List Int) := gtr (G.map nrm)
theorem gn_gn (G : List (List Int)) : Gn (gn G) := ⟨gtr_gtr _, fun r hr => by
  obtain ⟨i, _, rfl⟩ := List.mem_map.1 (gtr_mem hr)
  exact nrm_nrm _⟩
theorem gn_gv (G : List (List Int)) (i j : Nat) : gv (gn G) i j = gv G i j := by
  unfold gv gn
  rw [gtr_getD]
  by_cases hi : i < G.length
  · have : (G.map nrm).getD i [] = nrm (G.getD i []) := by simp [List.getD_eq_getElem?_getD, hi]
    rw [this, co_nrm]
  · have h1 : (G.map nrm).getD i [] = [] := by simp [List.getD_eq_getElem?_getD, List.getElem?_eq_none (show G.length ≤ i by omega)]
    have h2 : G.getD i [] = [] := by simp [List.getD_eq_getElem?_getD, List.getElem?_eq_none (show G.length ≤ i by omega)]
    rw [h1, h2]
open Go.RowKit
theorem getD_end {α : Type} {l : List α} {z : α} {i : Nat} (h : l.length ≤ i) : l.getD i z = z := by
  rw [List.getD_eq_getElem?_getD, List.getElem?_eq_none h]; rfl
def gdxN (G : List (List Int)) : Nat → Nat
  | 0 => 0
  | n + 1 => if dg (G.getD n []) = 0 then gdxN G n else n + 1
def gdyN (G : List (List Int)) : Nat → Nat
  | 0 => 0
  | n + 1 => max (gdyN G n) (dg (G.getD n []))
def gdx (G : List (List Int)) : Nat := gdxN G G.length
def gdy (G : List (List Int)) : Nat := gdyN G G.length
theorem gdxN_le (G : List (List Int)) (n : Nat) : gdxN G n ≤ n := by
  induction n with
  | zero => exact Nat.le_refl _
  | succ n ih => simp only [gdxN]; split <;> omega
theorem gdyN_le {G : List (List Int)} {c : Nat} (hc : ∀ i, dg (G.getD i []) ≤ c) (n : Nat) : gdyN G n ≤ c := by
  induction n with
  | zero => exact Nat.zero_le _
  | succ n ih => have := hc n; simp only [gdyN]; omega
theorem gdxN_zero {G : List (List Int)} {n i : Nat} (h : gdxN G n ≤ i) (hi : i < n) : dg (G.getD i []) = 0 := by
  induction n with
  | zero => omega
  | succ n ih =>
    simp only [gdxN] at h
    split at h
    · rename_i hz
      by_cases e : i = n
      · subst e; exact hz
      · exact ih h (by omega)
    · omega
theorem gdyN_zero {G : List (List Int)} {n i : Nat} (hi : i < n) : dg (G.getD i []) ≤ gdyN G n := by
  induction n with
  | zero => omega
  | succ n ih =>
    simp only [gdyN]
    by_cases e : i = n
    · subst e; omega
    · have := ih (by omega); omega
theorem gv_zero {G : List (List Int)} {i j : Nat} (h : ¬ (i < gdx G ∧ j < gdy G)) : gv G i j = 0 := by
  unfold gv
  by_cases hi : i < G.length
  · by_cases hx : i < gdx G
    · exact dg_le.1 (gdyN_zero (G := G) hi) j (by unfold gdy at h; omega)
    · exact dg_le.1 (Nat.le_of_eq (gdxN_zero (Nat.le_of_not_lt hx) hi)) j (Nat.zero_le _)
  · rw [getD_end (Nat.le_of_not_lt hi)]; rfl
theorem gof_gn_eq (G : List (List Int)) {n c : Nat} (hn : gdx G ≤ n) (hc : gdy G ≤ c) : gof (gv G) n c = gn G :=
  (gof_gn _ _ _).ext (gn_gn _) fun i j => by
    rw [gof_gv, gn_gv]
    split
    · rfl
    · rename_i h; exact (gv_zero fun h' => h (by omega)).symm
theorem lk_of_mem {L : List Ent3} (hn : Nd L) {i j : Nat} {a : Bool × List Nat} (h : (i, j, a) ∈ L) : lk z0 L i j = a := by
  rcases lk_mem (L := L) (i := i) (j := j) with hz | ⟨t, ht, h1, h2, h3⟩
  · unfold lk at hz
    cases hf : L.find? fun t => t.1 == i && t.2.1 == j with
    | none => have := List.find?_eq_none.1 hf _ h; simp at this
    | some t =>
      have h1 := List.find?_some hf
      simp only [Bool.and_eq_true, beq_iff_eq] at h1
      unfold lk
      rw [hf]
      have ht := List.mem_of_find?_eq_some hf
      have := nd_eq hn ht h h1.1 h1.2
      rw [this]; rfl
  · rw [h3, nd_eq hn ht h h1 h2]
where
  nd_eq {L : List Ent3} (hn : Nd L) {t : Ent3} {i j : Nat} {a : Bool × List Nat} (ht : t ∈ L) (h : (i, j, a) ∈ L) (h1 : t.1 = i) (h2 : t.2.1 = j) : t = (i, j, a) := by
    obtain ⟨m, hm, rfl⟩ := List.mem_iff_getElem.1 ht
    obtain ⟨n, hn', e⟩ := List.mem_iff_getElem.1 h
    have := hn.one (z := z0) hm hn' (by
      unfold mapK spk
      rw [List.getD_eq_getElem?_getD, List.getElem?_eq_getElem hm, List.getD_eq_getElem?_getD, List.getElem?_eq_getElem hn']
      simp only [Option.getD_some, h1, h2, e])
    subst this
    exact e
theorem mem_tr {i : Nat} {r : Row} {n j : Nat} (hj : j < n) (h0 : jv (r.getD j z0) ≠ 0) : (i, j, r.getD j z0) ∈ tr i r n := by
  induction n with
  | zero => omega
  | succ n ih =>
    simp only [tr, List.mem_append]
    by_cases e : j = n
    · subst e; exact .inr (by rw [if_neg h0]; exact List.mem_singleton.2 rfl)
    · exact .inl (ih (by omega))
theorem mem_tg {g : List Row} {n i j : Nat} (hi : i < n) (hj : j < (g.getD i []).length) (h0 : jv ((g.getD i []).getD j z0) ≠ 0) : (i, j, (g.getD i []).getD j z0) ∈ tg g n := by
  induction n with
  | zero => omega
  | succ n ih =>
    simp only [tg, List.mem_append]
    by_cases e : i = n
    · subst e; exact .inr (mem_tr hj h0)
    · exact .inl (ih (by omega))
theorem gv_ww (g : List Row) (i j : Nat) : gv (ww g) i j = jv ((g.getD i []).getD j z0) := by
  unfold gv
  rw [ww_get]
  by_cases h : j < (g.getD i []).length
  · exact vv_get _ _ h
  · rw [getD_end (by rw [vv_len]; omega), getD_end (l := g.getD i []) (by omega)]; rfl
theorem lk_tg (g : List Row) (i j : Nat) : jv (lk z0 (tg g g.length) i j) = gv (ww g) i j := by
  rw [gv_ww]
  by_cases h0 : jv ((g.getD i []).getD j z0) = 0
  · rw [h0]
    rcases lk_mem (L := tg g g.length) (i := i) (j := j) with h | ⟨t, ht, rfl, rfl, h⟩
    · rw [h]; rfl
    · obtain ⟨_, _, h1, h2⟩ := tg_mem ht
      rw [h1] at h2
      exact absurd h0 h2
  · have hj : j < (g.getD i []).length := Nat.lt_of_not_le fun h => h0 (by rw [getD_end h]; rfl)
    have hi : i < g.length := Nat.lt_of_not_le fun h => by
      rw [getD_end h] at hj
      exact absurd hj (Nat.not_lt_zero _)
    rw [lk_of_mem (tg_nd _ _) (mem_tg hi hj h0)]
theorem gDegrees_meets (v : Value) (g : List Row) (hk : ∀ r, r ∈ g → Fit 137438953472 r) (lg : g.length ≤ 1048576) (hl : ∀ r, r ∈ g → r.length ≤ 1048576) :
    Meets Tryz.prog 103 [v] [(v, W g)] (fun r os fs => os = [] ∧ fs = [] ∧ r = .tuple #[.int .i64 ((gdx (ww g) : Nat) - 1 : Int), .int .i64 ((gdy (ww g) : Nat) - 1 : Int)]) := by
  have hwl : (ww g).length = g.length := by simp [ww]
  have hfin : gdx (ww g) = gdxN (ww g) g.length ∧ gdy (ww g) = gdyN (ww g) g.length := by unfold gdx gdy; rw [hwl]; exact ⟨rfl, rfl⟩
  have hdb : ∀ i, dg ((ww g).getD i []) ≤ 1048576 := fun i => by
    rw [ww_get]
    refine Nat.le_trans (dg_le_len _) ?_
    rw [vv_len]
    by_cases h : i < g.length
    · exact hl _ (by rw [List.getD_eq_getElem?_getD, List.getElem?_eq_getElem h]; exact List.getElem_mem h)
    · rw [getD_end (Nat.le_of_not_lt h)]; exact Nat.zero_le _
  rw [hfin.1, hfin.2]
  refine meets_of_vc Tryz.func103 (by kernel_rfl) rfl (by kernel_rfl) (Nat.le_of_ble_eq_true rfl) ?_
  refine len_fact qM fun _ => ?_
  refine loop_rule (X := Nat) (fun i => ([(4, .int .i64 ((gdxN (ww g) i : Nat) - 1 : Int)), (5, .int .i64 ((gdyN (ww g) i : Nat) - 1 : Int)), (9, v), (10, .int .i64 (g.length : Nat)), (11, .int .i64 (i : Nat))], [], [(v, W g)])) (fun i => i ≤ g.length) (fun i => g.length - i) rfl ?_ ?_
  · exact again 0 (Nat.zero_le _) trivial qF (Seals.sub qS)
  · rintro i hi
    refine cmp_split _ rfl (fun hlt => ?_) (fun hlt => ?_)
    · have hin : i < g.length := by omega
      have hrm : g.getD i [] ∈ g := by rw [List.getD_eq_getElem?_getD, List.getElem?_eq_getElem hin]; exact List.getElem_mem hin
      have hd := fun u => pDegree_meets u (g.getD i []) (hk _ hrm)
      have hx1 : gdxN (ww g) (i + 1) = if dg ((ww g).getD i []) = 0 then gdxN (ww g) i else i + 1 := rfl
      have hy1 : gdyN (ww g) (i + 1) = max (gdyN (ww g) i) (dg ((ww g).getD i [])) := rfl
      rw [ww_get] at hx1 hy1
      simp only [deg_dg] at hd
      have hb := hdb i
      rw [ww_get] at hb
      have hby := gdyN_le hdb i
      have hbx := gdxN_le (ww g) i
      generalize dg (vv (g.getD i [])) = D at *
      generalize gdxN (ww g) i = A at *
      generalize gdyN (ww g) i = B at *
      refine index_fact qM i rfl hin fun b1 => ?_
      refine load_fact (d := V (g.getD i [])) qM (load_V _) fun u => ?_
      refine call_fn (hd u) (Seals.refl _ _) qS ?_
      rintro _ _ _ ⟨rfl, rfl, rfl⟩
      refine cmp_split _ rfl (fun h0 => ?_) (fun h0 => ?_)
      · refine max2_rule ?_
        refine ar rfl qI ?_
        rw [if_neg (by omega)] at hx1
        exact again (i + 1) (by omega) (by simp only; omega) ⟨i64_eq (by rw [hx1]; omega), i64_eq (by rw [hy1]; omega), rfl, rfl, i64_eq (by omega), trivial⟩ (Seals.sub qS)
      · refine ar rfl qI ?_
        rw [if_pos (by omega)] at hx1
        exact again (i + 1) (by omega) (by simp only; omega) ⟨i64_eq (by rw [hx1]), i64_eq (by rw [hy1]; omega), rfl, rfl, i64_eq (by omega), trivial⟩ (Seals.sub qS)
    · have hip : i = g.length := by omega
      subst hip
      exact fin ⟨rfl, rfl, rfl⟩ (Seals.nil _ _)
open Go.RowKit
structure Gf (k : Nat) (g : List Row) : Prop where
  len : g.length ≤ 1048576
  row : ∀ r, r ∈ g → r.length ≤ 1048576 ∧ Fit k r
theorem Gf.get {k : Nat} {g : List Row} (h : Gf k g) (i : Nat) : (g.getD i []).length ≤ 1048576 ∧ Fit k (g.getD i []) := by
  by_cases hi : i < g.length
  · exact h.row _ (by rw [List.getD_eq_getElem?_getD, List.getElem?_eq_getElem hi]; exact List.getElem_mem hi)
  · rw [getD_end (Nat.le_of_not_lt hi)]; exact ⟨Nat.zero_le _, fun x hx => by cases hx⟩
theorem Gf.in64 {k : Nat} {g : List Row} (h : Gf k g) (n : Nat) (hn : n ≤ 1048576) : In64 (tg g n) := fun t ht => by
  obtain ⟨h1, h2, _⟩ := tg_mem ht
  have := (h.get t.1).1
  omega
theorem Gf.fit {k : Nat} {g : List Row} (h : Gf k g) (n : Nat) : ∀ t, t ∈ tg g n → Lim t.2.2.2 ∧ t.2.2.2.length ≤ k := fun t ht => by
  obtain ⟨_, _, h3, _⟩ := tg_mem ht
  rw [h3]
  exact (h.get t.1).2.get _
theorem Gf.dx {k : Nat} {g : List Row} (h : Gf k g) : gdx (ww g) ≤ 1048576 := by
  have h1 := gdxN_le (ww g) (ww g).length
  have h2 := h.len
  rw [ww_len] at h1
  unfold gdx
  rw [ww_len]
  omega
theorem Gf.dy {k : Nat} {g : List Row} (h : Gf k g) : gdy (ww g) ≤ 1048576 := gdyN_le (fun i => by
  rw [ww_get]
  exact Nat.le_trans (dg_le_len _) (by rw [vv_len]; exact (h.get i).1)) _
theorem gNorm_meets (v : Value) (g : List Row) (h : Gf 137438953472 g) :
    Meets Tryz.prog 145 [v] [(v, W g)] (fun r os fs => os = [] ∧ fs = [(r, wd (gn (ww g)))]) := by
  have h1 := gDegrees_meets v g (fun r hr => (h.row r hr).2) h.len (fun r hr => (h.row r hr).1)
  have h2 := gterms_meets v g h.row h.len
  have h3 := fun u => glaid_meets u (tg g g.length) (gdx (ww g)) (gdy (ww g)) (h.in64 _ h.len) (tg_nd _ _) (h.fit _) h.dx h.dy
  have e : gtr (laidN (tg g g.length) (gdy (ww g)) (gdx (ww g))) = gn (ww g) := by
    rw [laid_gof, ← gof_gn_eq (ww g) (Nat.le_refl _) (Nat.le_refl _)]
    congr 1
    funext i j
    exact lk_tg g i j
  rw [e] at h3
  refine meets_of_vc Tryz.func145 (by kernel_rfl) rfl (by kernel_rfl) (Nat.le_of_ble_eq_true rfl) ?_
  refine call_fn h1 (Seals.refl _ _) qS ?_
  rintro _ _ _ ⟨rfl, rfl, rfl⟩
  refine call_fn h2 (Seals.refl _ _) qS ?_
  rintro m _ _ ⟨rfl, _, rfl⟩
  refine call_fn (h3 m) (Seals.refl _ _) qS ?_
  rintro r _ _ ⟨rfl, rfl⟩
  exact fin ⟨rfl, rfl⟩ (Seals.sub qS)
def sw (t : Ent3) : Ent3 := (t.2.1, t.1, t.2.2)
theorem Nd.sw {L : List Ent3} (h : Nd L) : Nd (L.map Go.Proofs.YtjebljkoiaojaaaGreat.sw) := List.pairwise_map.2 (h.imp fun {a b} hab e => hab ⟨e.2, e.1⟩)
theorem Nd.perm {L L' : List Ent3} (h : Nd L) (p : L.Perm L') : Nd L' := (p.pairwise_iff fun {a b} hab e => hab ⟨e.1.symm, e.2.symm⟩).1 h
theorem lk_perm {L L' : List Ent3} (h : Nd L) (p : L.Perm L') (i j : Nat) : lk z0 L i j = lk z0 L' i j := by
  rcases lk_mem (L := L) (i := i) (j := j) with h1 | ⟨t, ht, rfl, rfl, h1⟩
  · rcases lk_mem (L := L') (i := i) (j := j) with h2 | ⟨t, ht, rfl, rfl, h2⟩
    · rw [h1, h2]
    · rw [h2]; exact lk_of_mem h (p.mem_iff.2 ht)
  · rw [h1]; exact (lk_of_mem (h.perm p) (p.mem_iff.1 ht)).symm
theorem lk_sw {L : List Ent3} (h : Nd L) (i j : Nat) : lk z0 (L.map sw) i j = lk z0 L j i := by
  rcases lk_mem (L := L) (i := j) (j := i) with h1 | ⟨t, ht, rfl, rfl, h1⟩
  · rcases lk_mem (L := L.map sw) (i := i) (j := j) with h2 | ⟨t, ht, rfl, rfl, h2⟩
    · rw [h1, h2]
    · obtain ⟨s, hs, rfl⟩ := List.mem_map.1 ht
      rw [h2]; exact (lk_of_mem h hs).symm
  · rw [h1]; exact lk_of_mem h.sw (List.mem_map.2 ⟨t, ht, rfl⟩)
theorem erase_perm {α : Type} : ∀ (l : List α) (n : Nat) (h : n < l.length), l.Perm (l[n] :: l.eraseIdx n)
  | _ :: _, 0, _ => List.Perm.refl _
  | a :: l, n + 1, h => ((erase_perm l n (by simpa using h)).cons a).trans (List.Perm.swap _ _ _)
theorem perm_step {L D T : List Ent3} {n : Nat} {t : Ent3} (hg : L[n]? = some t) (hp : (L ++ D).Perm T) : (L.eraseIdx n ++ (D ++ [t])).Perm T := by
  obtain ⟨hn, rfl⟩ := List.getElem?_eq_some_iff.1 hg
  have h1 : L.Perm (L[n] :: L.eraseIdx n) := erase_perm L n hn
  refine List.Perm.trans ?_ hp
  rw [← List.append_assoc]
  refine List.perm_append_comm.trans ?_
  exact (h1.append_right D).symm
theorem gTurn_meets (v : Value) (g : List Row) (h : Gf 137438953472 g) :
    Meets Tryz.prog 76 [v] [(v, W g)] (fun r os fs => os = [] ∧ fs = [(r, wd (gof (fun i j => gv (ww g) j i) (gdy (ww g)) (gdx (ww g))))]) := by
  have h1 := gDegrees_meets v g (fun r hr => (h.row r hr).2) h.len (fun r hr => (h.row r hr).1)
  have h2 := gterms_meets v g h.row h.len
  have hnd := tg_nd g g.length
  have hin := h.in64 _ h.len
  have hft := h.fit g.length
  have hlk := lk_tg g
  have hlen : (tg g g.length).length ≤ 1048576 * 1048576 := Nat.le_trans (tg_len (fun r hr => (h.row r hr).1) _) (Nat.mul_le_mul_right _ h.len)
  have hdx := h.dx
  have hdy := h.dy
  generalize tg g g.length = T at *
  refine meets_of_vc Tryz.func76 (by kernel_rfl) rfl (by kernel_rfl) (Nat.le_of_ble_eq_true rfl) ?_
  refine make_L J z0 fun m hm => ?_
  refine call_fn h2 (Seals.refl _ _) qS ?_
  rintro tm _ _ ⟨rfl, _, rfl⟩
  refine range_L qM fun p hp => ?_
  refine loop_rule (X := List Ent3 × List Ent3 × Value) (fun x => ([(0, v), (3, m), (11, p)], [ownWD J z0 p x.1 x.2.2, ownMD J z0 m (x.2.1.map sw)], [(tm, MD J z0 T), (v, W g)])) (fun x => (x.1 ++ x.2.1).Perm T) (fun x => x.1.length) rfl ?_ ?_
  · exact again (T, [], .bool false) (by simp) trivial qF (Seals.sub qS)
  · rintro ⟨L, D, c⟩ hperm
    simp only at hperm ⊢
    have hndD : Nd (L ++ D) := hnd.perm hperm.symm
    have hlD : (L ++ D).length ≤ 1048576 * 1048576 := by rw [hperm.length_eq]; exact hlen
    rw [List.length_append] at hlD
    have hndM : Nd (D.map sw) := (List.pairwise_append.1 hndD).2.1 |> Nd.sw
    have hinM : In64 (D.map sw) := fun t ht => by
      obtain ⟨s, hs, rfl⟩ := List.mem_map.1 ht
      have := hin s (hperm.mem_iff.1 (List.mem_append.2 (.inr hs)))
      exact ⟨this.2, this.1⟩
    refine next_L 0 rfl hp (fun e => ?_) fun n i j a x hn hg => ?_
    · subst e
      rw [List.nil_append] at hperm
      have h3 := fun u => glaid_meets u (D.map sw) (gdy (ww g)) (gdx (ww g)) hinM hndM (fun t ht => by
        obtain ⟨s, hs, rfl⟩ := List.mem_map.1 ht
        exact hft s (hperm.mem_iff.1 hs)) hdy hdx
      have e : gtr (laidN (D.map sw) (gdx (ww g)) (gdy (ww g))) = gof (fun i j => gv (ww g) j i) (gdy (ww g)) (gdx (ww g)) := by
        rw [laid_gof]
        congr 1
        funext i j
        rw [lk_sw (hnd.perm hperm.symm), lk_perm (hnd.perm hperm.symm) hperm, hlk]
      rw [e] at h3
      refine call_fn h1 (Seals.refl _ _) qS ?_
      rintro _ _ _ ⟨rfl, rfl, rfl⟩
      refine call_fn (h3 m) (Seals.trans (Seals.mapL 1 rfl hm) (Seals.drop 0 _ _)) qS ?_
      rintro r _ _ ⟨rfl, rfl⟩
      exact fin ⟨rfl, rfl⟩ (Seals.sub qS)
    · have htT : (i, j, a) ∈ T := hperm.mem_iff.1 (List.mem_append.2 (.inl (List.mem_of_getElem? hg)))
      obtain ⟨hi, hj⟩ := hin _ htT
      simp only at hi hj
      have hnew := mput_new (L := D.map sw) (i := j) (j := i) (fun t ht e => by
        obtain ⟨s, hs, rfl⟩ := List.mem_map.1 ht
        exact (List.pairwise_append.1 hndD).2.2 (i, j, a) (List.mem_of_getElem? hg) s hs ⟨e.2.symm, e.1.symm⟩) a
      refine walk_entry 0 rfl hp ?_
      refine alloc_rule (d := spotD 0 0) fun b1 hb1 => ?_
      refine alloc_rule (d := I false []) fun b2 hb2 => ?_
      refine store_box (d := spotD (i : Nat) (j : Nat)) 1 rfl hb1 rfl (by kernel_rfl) ?_ ?_; exact Reads.spot _ _
      refine store_box (d := J a) 0 rfl hb2 rfl (by kernel_rfl) ?_ ?_; exact Reads.fact qM
      refine field_box 1 rfl hb1 ?_
      refine load_box_field_one (u := .int .i64 (j : Nat)) 1 rfl (Part.right (Part.refl _)) ?_
      refine field_box 1 rfl hb1 ?_
      refine load_box_field_one (u := .int .i64 (i : Nat)) 1 rfl (Part.left (Part.refl _)) ?_
      refine build_spot ?_
      refine load_box (d := J a) 0 rfl hb2 rfl (load_J _) fun y1 => ?_
      refine put_L a 3 rfl hm hinM hndM hj hi (by rw [List.length_map]; unfold maxLen; omega) (Knw.fact qM) ?_
      rw [hnew]
      refine again (L.eraseIdx n, D ++ [(i, j, a)], .tuple #[spot (i : Nat) (j : Nat), x]) (perm_step hg hperm) (by simp only [List.length_eraseIdx, if_pos hn]; omega) qF ?_
      simp only [List.map_append, List.map_cons, List.map_nil]
      exact Seals.trans (Seals.drop 0 _ _) (Seals.trans (Seals.drop 0 _ _) (Seals.sub qS))
open Go.RowKit
def zrow (f : List Int → List Int → List Int) (G H : List (List Int)) (n : Nat) : List (List Int) := (List.range n).map fun i => f (G.getD i []) (H.getD i [])
theorem zrow_len (f : List Int → List Int → List Int) (G H : List (List Int)) (n : Nat) : (zrow f G H n).length = n := by simp [zrow]
theorem zrow_succ (f : List Int → List Int → List Int) (G H : List (List Int)) (n : Nat) : zrow f G H (n + 1) = zrow f G H n ++ [f (G.getD n []) (H.getD n [])] := by simp [zrow, List.range_succ]
theorem zrow_gv {f : List Int → List Int → List Int} (g : Int → Int → Int) (h0 : g 0 0 = 0) (hf : ∀ l m j, (f l m).getD j 0 = g (l.getD j 0) (m.getD j 0)) (G H : List (List Int)) (i j : Nat) :
    gv (zrow f G H (max G.length H.length)) i j = g (gv G i j) (gv H i j) := by
  unfold gv
  by_cases hi : i < max G.length H.length
  · have : (zrow f G H (max G.length H.length)).getD i [] = f (G.getD i []) (H.getD i []) := by
      simp only [zrow, List.getD_eq_getElem?_getD, List.getElem?_map, List.getElem?_range hi]; rfl
    rw [this, hf]
  · rw [getD_end (l := zrow f G H (max G.length H.length)) (by rw [zrow_len]; omega), getD_end (l := G) (by omega), getD_end (l := H) (by omega)]
    exact h0.symm
def gadd (G H : List (List Int)) : List (List Int) := gn (zrow padd G H (max G.length H.length))
theorem gadd_gv (G H : List (List Int)) (i j : Nat) : gv (gadd G H) i j = gv G i j + gv H i j := by
  rw [gadd, gn_gv]
  exact zrow_gv (· + ·) rfl co_padd G H i j
open Go.RowKit
def gpy (G : List (List Int)) (y : Int) : List Int := nrm (G.map fun r => pev r y)
def gtu (G : List (List Int)) : List (List Int) := gof (fun i j => gv G j i) (gdy G) (gdx G)
theorem gtu_gn (G : List (List Int)) : Gn (gtu G) := gof_gn _ _ _
theorem gtu_gv (G : List (List Int)) (i j : Nat) : gv (gtu G) i j = gv G j i := by
  rw [gtu, gof_gv]
  split
  · rfl
  · rename_i h; exact (gv_zero fun h' => h (by omega)).symm
open Go.RowKit
def esum (L : List Ent3) (φ : Ent3 → Int) : Int := (L.map φ).sum
def con (s t : Ent3) (i j : Nat) : Int := if s.1 + t.1 = i ∧ s.2.1 + t.2.1 = j then jv s.2.2 * jv t.2.2 else 0
theorem esum_nil (φ : Ent3 → Int) : esum [] φ = 0 := rfl
theorem esum_snoc (L : List Ent3) (t : Ent3) (φ : Ent3 → Int) : esum (L ++ [t]) φ = esum L φ + φ t := by
  simp [esum]
theorem esum_perm {L L' : List Ent3} (p : L.Perm L') (φ : Ent3 → Int) : esum L φ = esum L' φ := by
  have hc : ∀ (t : Ent3) (L : List Ent3), esum (t :: L) φ = φ t + esum L φ := fun t L => by simp [esum]
  induction p with
  | nil => rfl
  | cons t _ ih => rw [hc, hc, ih]
  | swap s t l => rw [hc, hc, hc, hc]; omega
  | trans _ _ a b => exact a.trans b
theorem esum_bound {L : List Ent3} {φ : Ent3 → Int} {B : Nat} (h : ∀ t, t ∈ L → (φ t).natAbs ≤ B) : (esum L φ).natAbs ≤ L.length * B := by
  induction L with
  | nil => simp [esum]
  | cons t L ih =>
    have h1 := ih fun s hs => h s (.tail _ hs)
    have h2 := h t (.head _)
    have e : esum (t :: L) φ = φ t + esum L φ := by simp [esum]
    rw [e, List.length_cons, Nat.succ_mul]
    omega
def Cn (M : List Ent3) : Prop := ∀ t, t ∈ M → t.2.2 = cn (jv t.2.2)
theorem z0_cn : z0 = cn 0 := by show (false, []) = (decide ((0 : Int) < 0), lims 0); rw [lims_zero]; rfl
theorem jv_z0 : jv z0 = 0 := by rw [z0_cn, jv_cn]
theorem lk_cn {M : List Ent3} (h : Cn M) (i j : Nat) : lk z0 M i j = cn (jv (lk z0 M i j)) := by
  rcases lk_mem (L := M) (i := i) (j := j) with h1 | ⟨t, ht, _, _, h1⟩
  · rw [h1, jv_z0]; exact z0_cn
  · rw [h1]; exact h t ht
theorem lk_append (L : List Ent3) (t : Ent3) (i j : Nat) : lk z0 (L ++ [t]) i j = if (∀ s, s ∈ L → ¬ (s.1 = i ∧ s.2.1 = j)) ∧ t.1 = i ∧ t.2.1 = j then t.2.2 else lk z0 L i j := by
  unfold lk
  rw [List.find?_append]
  cases hf : L.find? fun t => t.1 == i && t.2.1 == j with
  | some s =>
    have h1 := List.find?_some hf
    simp only [Bool.and_eq_true, beq_iff_eq] at h1
    rw [if_neg fun h => h.1 s (List.mem_of_find?_eq_some hf) h1]
    rfl
  | none =>
    have h1 : ∀ s, s ∈ L → ¬ (s.1 = i ∧ s.2.1 = j) := fun s hs e => by
      have := List.find?_eq_none.1 hf s hs
      simp [e.1, e.2] at this
    by_cases ht : t.1 = i ∧ t.2.1 = j
    · rw [if_pos ⟨h1, ht⟩]; simp [ht.1, ht.2]
    · rw [if_neg fun h => ht h.2]
      have : (t.1 == i && t.2.1 == j) = false := by
        cases hb : (t.1 == i && t.2.1 == j)
        · rfl
        · simp only [Bool.and_eq_true, beq_iff_eq] at hb; exact absurd hb ht
      simp [List.find?, this]
theorem mput_mem {M : List Ent3} {i j : Nat} {a : Bool × List Nat} {t : Ent3} (h : t ∈ mput M i j a) : t ∈ M ∨ t = (i, j, a) := by
  unfold mput at h
  split at h
  · exact List.mem_or_eq_of_mem_set h
  · rcases List.mem_append.1 h with h | h
    · exact .inl h
    · exact .inr (List.mem_singleton.1 h)
theorem mput_len (M : List Ent3) (i j : Nat) (a : Bool × List Nat) : (mput M i j a).length ≤ M.length + 1 := by
  unfold mput
  split
  · rw [List.length_set]; omega
  · simp
theorem mput_nd {M : List Ent3} {i j : Nat} {a : Bool × List Nat} (h : Nd M) : Nd (mput M i j a) := by
  unfold mput
  split
  · rename_i n hf
    obtain ⟨hn, h1, _⟩ := List.findIdx?_eq_some_iff_getElem.1 hf
    simp only [Bool.and_eq_true, beq_iff_eq] at h1
    refine List.pairwise_iff_getElem.2 fun x y hx hy hxy => ?_
    rw [List.length_set] at hx hy
    have := List.pairwise_iff_getElem.1 h x y hx hy hxy
    rw [List.getElem_set, List.getElem_set]
    by_cases e1 : n = x
    · subst e1
      rw [if_pos rfl, if_neg (by omega)]
      rw [h1.1, h1.2] at this
      exact this
    · rw [if_neg e1]
      by_cases e2 : n = y
      · subst e2
        rw [if_pos rfl]
        rw [h1.1, h1.2] at this
        exact this
      · rw [if_neg e2]; exact this
  · rename_i hf
    refine List.pairwise_append.2 ⟨h, List.pairwise_singleton _ _, fun s hs t ht e => ?_⟩
    simp only [List.mem_singleton] at ht
    subst ht
    have := List.findIdx?_eq_none_iff.1 hf s hs
    simp [e.1, e.2] at this
theorem mput_lk {M : List Ent3} {i j : Nat} {a : Bool × List Nat} (h : Nd M) (i' j' : Nat) : lk z0 (mput M i j a) i' j' = if i' = i ∧ j' = j then a else lk z0 M i' j' := by
  have hin : (i, j, a) ∈ mput M i j a := by
    unfold mput
    split
    · rename_i n hf
      obtain ⟨hn, _⟩ := List.findIdx?_eq_some_iff_getElem.1 hf
      exact List.mem_iff_getElem.2 ⟨n, by rw [List.length_set]; exact hn, by simp⟩
    · exact List.mem_append.2 (.inr (List.mem_singleton.2 rfl))
  by_cases e : i' = i ∧ j' = j
  · rw [if_pos e, e.1, e.2]; exact lk_of_mem (mput_nd h) hin
  · rw [if_neg e]
    rcases lk_mem (L := mput M i j a) (i := i') (j := j') with h1 | ⟨t, ht, e1, e2, h1⟩
    · rcases lk_mem (L := M) (i := i') (j := j') with h2 | ⟨t, ht, e1, e2, h2⟩
      · rw [h1, h2]
      · have hm : t ∈ mput M i j a := by
          unfold mput
          split
          · rename_i n hf
            obtain ⟨hn, h3, _⟩ := List.findIdx?_eq_some_iff_getElem.1 hf
            simp only [Bool.and_eq_true, beq_iff_eq] at h3
            obtain ⟨m, hm, rfl⟩ := List.mem_iff_getElem.1 ht
            have hne : n ≠ m := fun q => by subst q; exact e ⟨e1.symm.trans h3.1, e2.symm.trans h3.2⟩
            exact List.mem_iff_getElem.2 ⟨m, by rw [List.length_set]; exact hm, by rw [List.getElem_set, if_neg hne]⟩
          · exact List.mem_append.2 (.inl ht)
        subst e1 e2
        rw [h2]; exact lk_of_mem (mput_nd h) hm
    · rcases mput_mem ht with ht | rfl
      · subst e1 e2
        rw [h1]; exact (lk_of_mem h ht).symm
      · exact absurd ⟨e1.symm, e2.symm⟩ e
theorem mput_cn {M : List Ent3} {i j : Nat} {x : Int} (h : Cn M) : Cn (mput M i j (cn x)) := fun t ht => by
  rcases mput_mem ht with ht | rfl
  · exact h t ht
  · rw [jv_cn]
open Go.RowKit
def pairs (A B : List Ent3) (i j : Nat) : Int := esum A fun s => esum B fun t => con s t i j
def some2 (s : Ent3) (B : List Ent3) (i j : Nat) : Int := esum B fun t => con s t i j
theorem con_sz {s t : Ent3} {k l : Nat} (hs : sz (jv s.2.2) k) (ht : sz (jv t.2.2) l) (i j : Nat) : (con s t i j).natAbs ≤ 18446744073709551616 ^ (k + l) := by
  unfold con
  split
  · have := hs.mul ht
    unfold sz at this
    omega
  · simp
theorem sum_sz {A B C : List Ent3} {s : Ent3} {k l : Nat} (hA : ∀ t, t ∈ A → sz (jv t.2.2) k) (hs : sz (jv s.2.2) k) (hB : ∀ t, t ∈ B → sz (jv t.2.2) l) (hC : ∀ t, t ∈ C → sz (jv t.2.2) l)
    (lA : A.length ≤ 1048576) (lB : B.length ≤ 1048576) (lC : C.length ≤ 1048576) (i j : Nat) : sz (pairs A B i j + some2 s C i j) (k + l + 1) := by
  have h1 : ∀ t, t ∈ A → (esum B fun t' => con t t' i j).natAbs ≤ B.length * 18446744073709551616 ^ (k + l) := fun t ht => esum_bound fun t' ht' => con_sz (hA t ht) (hB t' ht') i j
  have h2 := esum_bound h1
  have h3 : (some2 s C i j).natAbs ≤ C.length * 18446744073709551616 ^ (k + l) := esum_bound fun t' ht' => con_sz hs (hC t' ht') i j
  unfold sz
  rw [Nat.pow_succ]
  have hW : 0 < 18446744073709551616 ^ (k + l) := Nat.pow_pos (by decide)
  have e1 : pairs A B i j = esum A fun s => esum B fun t => con s t i j := rfl
  rw [← e1] at h2
  generalize 18446744073709551616 ^ (k + l) = W at *
  have h4 : A.length * (B.length * W) ≤ 1048576 * (1048576 * W) := Nat.mul_le_mul lA (Nat.mul_le_mul_right _ lB)
  have h5 : C.length * W ≤ 1048576 * W := Nat.mul_le_mul_right _ lC
  omega
structure Gs (k : Nat) (g : List Row) : Prop where
  len : g.length ≤ 1024
  row : ∀ r, r ∈ g → r.length ≤ 1024 ∧ Fit k r
theorem Gs.gf {k : Nat} {g : List Row} (h : Gs k g) {e : Nat} (he : k ≤ e) : Gf e g := ⟨Nat.le_trans h.len (by decide), fun r hr => ⟨Nat.le_trans (h.row r hr).1 (by decide), (h.row r hr).2.mono he⟩⟩
theorem Gs.tlen {k : Nat} {g : List Row} (h : Gs k g) : (tg g g.length).length ≤ 1048576 :=
  Nat.le_trans (tg_len (fun r hr => (h.row r hr).1) _) (Nat.mul_le_mul_right 1024 h.len)
theorem Gs.tin {k : Nat} {g : List Row} (h : Gs k g) : ∀ t, t ∈ tg g g.length → t.1 < 1024 ∧ t.2.1 < 1024 ∧ Lim t.2.2.2 ∧ t.2.2.2.length ≤ k := fun t ht => by
  obtain ⟨h1, h2, h3, _⟩ := tg_mem ht
  have h4 := h.row (g.getD t.1 []) (by rw [List.getD_eq_getElem?_getD, List.getElem?_eq_getElem h1]; exact List.getElem_mem h1)
  have h5 := h.len
  rw [h3]
  exact ⟨by omega, by omega, h4.2.get _⟩
structure Sums (M A B C : List Ent3) (s : Ent3) (q : Nat) : Prop where
  nd : Nd M
  cn : Cn M
  low : ∀ t, t ∈ M → t.1 < 2048 ∧ t.2.1 < 2048
  val : ∀ i j, jv (lk z0 M i j) = pairs A B i j + some2 s C i j
  few : M.length ≤ q
theorem Sums.step {M A B C : List Ent3} {s t : Ent3} {q : Nat} (h : Sums M A B C s q) (hs : s.1 < 1024 ∧ s.2.1 < 1024) (ht : t.1 < 1024 ∧ t.2.1 < 1024) :
    Sums (mput M (s.1 + t.1) (s.2.1 + t.2.1) (Go.Proofs.YtjebljkoiaojaaaGreat.cn (jv (lk z0 M (s.1 + t.1) (s.2.1 + t.2.1)) + jv s.2.2 * jv t.2.2))) A B (C ++ [t]) s (q + 1) := by
  refine ⟨mput_nd h.nd, mput_cn h.cn, fun u hu => ?_, fun i j => ?_, Nat.le_trans (mput_len _ _ _ _) (Nat.succ_le_succ h.few)⟩
  · rcases mput_mem hu with hu | rfl
    · exact h.low u hu
    · exact ⟨by simp only; omega, by simp only; omega⟩
  · rw [mput_lk h.nd]
    have e1 : some2 s (C ++ [t]) i j = some2 s C i j + con s t i j := esum_snoc _ _ _
    rw [e1]
    split
    · rename_i e
      rw [jv_cn, h.val, ← e.1, ← e.2]
      unfold con
      rw [if_pos ⟨e.1.symm, e.2.symm⟩]
      omega
    · rename_i e
      rw [h.val]
      unfold con
      rw [if_neg fun e' => e ⟨e'.1.symm, e'.2.symm⟩]
      omega
theorem Sums.start {M A B C : List Ent3} {s t : Ent3} {q : Nat} (h : Sums M A B C s q) (hC : C.Perm B) : Sums M (A ++ [s]) B [] t q :=
  ⟨h.nd, h.cn, h.low, fun i j => by
    rw [h.val]
    have e1 : pairs (A ++ [s]) B i j = pairs A B i j + some2 s B i j := esum_snoc _ _ _
    have e2 : some2 s C i j = some2 s B i j := esum_perm hC _
    rw [e1, e2]
    show _ = _ + esum [] _
    rw [esum_nil]
    omega, h.few⟩
theorem Sums.other {M A B : List Ent3} {s t : Ent3} {q : Nat} (h : Sums M A B [] s q) : Sums M A B [] t q :=
  ⟨h.nd, h.cn, h.low, fun i j => h.val i j, h.few⟩
open Go.RowKit
def gmuE (g h : List Row) : List (List Int) :=
  if gdx (ww g) = 0 ∨ gdx (ww h) = 0 then [] else gof (pairs (tg g g.length) (tg h h.length)) (gdx (ww g) + gdx (ww h) - 1) (gdy (ww g) + gdy (ww h) - 1)
theorem gdy_pos {G : List (List Int)} (h : gdx G ≠ 0) : gdy G ≠ 0 := fun h0 => h (by
  have h1 : ∀ n, gdyN G n = 0 → gdxN G n = 0 := fun n => by
    induction n with
    | zero => intro _; rfl
    | succ n ih =>
      intro hn
      simp only [gdyN] at hn
      simp only [gdxN]
      rw [if_pos (by omega)]
      exact ih (by omega)
  exact h1 _ h0)
theorem gMul_meets (v w : Value) (g h : List Row) (k l : Nat) (hg : Gs k g) (hh : Gs l h) (hk : k + l + 1 ≤ 1073741824) :
    Meets Tryz.prog 58 [v, w] [(v, W g), (w, W h)] (fun r os fs => os = [] ∧ fs = [(r, wd (gmuE g h))]) := by
  have fg := hg.gf (e := 137438953472) (by omega)
  have fh := hh.gf (e := 137438953472) (by omega)
  have hd1 := gDegrees_meets v g (fun r hr => (fg.row r hr).2) fg.len (fun r hr => (fg.row r hr).1)
  have hd2 := gDegrees_meets w h (fun r hr => (fh.row r hr).2) fh.len (fun r hr => (fh.row r hr).1)
  have ht1 := gterms_meets v g fg.row fg.len
  have ht2 := gterms_meets w h fh.row fh.len
  have bx1 : gdx (ww g) ≤ 1024 := Nat.le_trans (gdxN_le _ _) (by rw [ww_len]; exact hg.len)
  have bx2 : gdx (ww h) ≤ 1024 := Nat.le_trans (gdxN_le _ _) (by rw [ww_len]; exact hh.len)
  have bys : ∀ {e : Nat} {g : List Row}, Gs e g → gdy (ww g) ≤ 1024 := fun {e g} hg => gdyN_le (fun i => by
    rw [ww_get]
    refine Nat.le_trans (dg_le_len _) ?_
    rw [vv_len]
    by_cases hi : i < g.length
    · exact (hg.row _ (by rw [List.getD_eq_getElem?_getD, List.getElem?_eq_getElem hi]; exact List.getElem_mem hi)).1
    · rw [getD_end (Nat.le_of_not_lt hi)]; exact Nat.zero_le _) _
  have by1 := bys hg
  have by2 := bys hh
  have lA := hg.tlen
  have lB := hh.tlen
  have iA := hg.tin
  have iB := hh.tin
  have nA := tg_nd g g.length
  have sA : ∀ t, t ∈ tg g g.length → sz (jv t.2.2) k := fun t ht => sz_jv (iA t ht).2.2.1 (iA t ht).2.2.2
  have sB : ∀ t, t ∈ tg h h.length → sz (jv t.2.2) l := fun t ht => sz_jv (iB t ht).2.2.1 (iB t ht).2.2.2
  have hdef : gmuE g h = if gdx (ww g) = 0 ∨ gdx (ww h) = 0 then [] else gof (pairs (tg g g.length) (tg h h.length)) (gdx (ww g) + gdx (ww h) - 1) (gdy (ww g) + gdy (ww h) - 1) := rfl
  rw [hdef]
  generalize tg g g.length = A at *
  generalize tg h h.length = B at *
  refine meets_of_vc Tryz.func58 (by kernel_rfl) rfl (by kernel_rfl) (Nat.le_of_ble_eq_true rfl) ?_
  have hS0 : Sums [] [] B [] (0, 0, z0) (([] : List Ent3).length * B.length) := ⟨List.Pairwise.nil, fun t ht => (nomatch ht), fun t ht => (nomatch ht), fun i j => jv_z0, Nat.zero_le _⟩
  refine make_L J z0 fun m hm => ?_
  refine call_fn ht2 (Seals.refl _ _) qS ?_
  rintro tb _ _ ⟨rfl, _, rfl⟩
  refine call_fn ht1 (Seals.refl _ _) qS ?_
  rintro ta _ _ ⟨rfl, _, rfl⟩
  refine range_L (L := A) qM fun p hp => ?_
  refine loop_rule (X := List Ent3 × List Ent3 × List Ent3 × Value) (fun x => ([(0, v), (1, w), (5, m), (6, tb), (21, p)], [ownWD J z0 p x.1 x.2.2.2, ownMD J z0 m x.2.2.1], [(ta, MD J z0 A), (tb, MD J z0 B), (v, W g), (w, W h)]))
    (fun x => (x.1 ++ x.2.1).Perm A ∧ Sums x.2.2.1 x.2.1 B [] (0, 0, z0) (x.2.1.length * B.length)) (fun x => x.1.length) rfl ?_ ?_
  · exact again (A, [], [], .bool false) ⟨by simp, hS0⟩ trivial qF (Seals.sub qS)
  · rintro ⟨L, D, M, c⟩ ⟨hperm, hS⟩
    simp only at hperm hS ⊢
    have hDA : ∀ t, t ∈ D → t ∈ A := fun t ht => hperm.mem_iff.1 (List.mem_append.2 (.inr ht))
    have hlD : L.length + D.length = A.length := by rw [← hperm.length_eq, List.length_append]
    refine next_L 0 rfl hp (fun e => ?_) fun n i j a x hn hgn => ?_
    · subst e
      rw [List.nil_append] at hperm
      have hV : ∀ i j, jv (lk z0 M i j) = pairs A B i j := fun i j => by
        rw [hS.val]
        have e1 : pairs D B i j = pairs A B i j := esum_perm hperm _
        have e2 : some2 (0, 0, z0) [] i j = 0 := rfl
        rw [e1, e2]; omega
      have hfit : ∀ t, t ∈ M → Lim t.2.2.2 ∧ t.2.2.2.length ≤ 137438953472 := fun t ht => by
        have h1 := hS.cn t ht
        have h2 := lk_of_mem hS.nd (show (t.1, t.2.1, t.2.2) ∈ M from ht)
        have h3 := sum_sz (s := (0, 0, z0)) (C := []) (fun u hu => sA u (hDA u hu)) (by rw [jv_z0]; exact sz_zero _) sB (fun u hu => by cases hu) (by omega) lB (Nat.zero_le _) t.1 t.2.1
        rw [← hS.val, h2] at h3
        rw [h1]
        exact ⟨Lim_lims _, Nat.le_trans h3.len (by omega)⟩
      have hlaid := fun u => glaid_meets u M (gdx (ww g) + gdx (ww h) - 1) (gdy (ww g) + gdy (ww h) - 1) (fun t ht => by have := hS.low t ht; omega) hS.nd hfit (by omega) (by omega)
      have e : gtr (laidN M (gdy (ww g) + gdy (ww h) - 1) (gdx (ww g) + gdx (ww h) - 1)) = gof (pairs A B) (gdx (ww g) + gdx (ww h) - 1) (gdy (ww g) + gdy (ww h) - 1) := by
        rw [laid_gof]
        congr 1
        funext i j
        exact hV i j
      rw [e] at hlaid
      refine call_fn hd1 (Seals.refl _ _) qS ?_
      rintro _ _ _ ⟨rfl, rfl, rfl⟩
      refine call_fn hd2 (Seals.refl _ _) qS ?_
      rintro _ _ _ ⟨rfl, rfl, rfl⟩
      by_cases z1 : gdx (ww g) = 0
      · refine cmp_true rfl (by omega) ?_
        refine fin ⟨rfl, rfl⟩ ?_
        rw [if_pos (.inl z1)]
        exact Seals.trans (Seals.drop 0 _ _) (Seals.trans (Seals.drop 0 _ _) (Seals.cons (Knw.nil 1 _) (Seals.nil _ _)))
      refine cmp_false rfl (by omega) ?_
      by_cases z2 : gdx (ww h) = 0
      · refine cmp_true rfl (by omega) ?_
        refine fin ⟨rfl, rfl⟩ ?_
        rw [if_pos (.inr z2)]
        exact Seals.trans (Seals.drop 0 _ _) (Seals.trans (Seals.drop 0 _ _) (Seals.cons (Knw.nil 1 _) (Seals.nil _ _)))
      refine cmp_false rfl (by omega) ?_
      have y1 := gdy_pos z1
      have y2 := gdy_pos z2
      refine ar (n := ((gdx (ww g) + gdx (ww h) - 1 : Nat) : Int) - 1) (by simp only [arZ, Option.some.injEq]; omega) qI ?_
      refine ar (n := ((gdy (ww g) + gdy (ww h) - 1 : Nat) : Int) - 1) (by simp only [arZ, Option.some.injEq]; omega) qI ?_
      refine call_fn (hlaid m) (Seals.trans (Seals.mapL 1 rfl hm) (Seals.drop 0 _ _)) qS ?_
      rintro r _ _ ⟨rfl, rfl⟩
      refine fin ⟨rfl, rfl⟩ ?_
      rw [if_neg (fun e => e.elim z1 z2)]
      exact Seals.sub qS
    · have hsA : (i, j, a) ∈ A := hperm.mem_iff.1 (List.mem_append.2 (.inl (List.mem_of_getElem? hgn)))
      have his := iA _ hsA
      simp only at his
      refine walk_entry 0 rfl hp ?_
      refine alloc_rule (d := spotD 0 0) fun b7 hb7 => ?_
      refine alloc_rule (d := I false []) fun b8 hb8 => ?_
      refine store_box (d := spotD (i : Nat) (j : Nat)) 1 rfl hb7 rfl (by kernel_rfl) ?_ ?_; exact Reads.spot _ _
      refine store_box (d := J a) 0 rfl hb8 rfl (by kernel_rfl) ?_ ?_; exact Reads.fact qM
      refine range_L (L := B) qM fun p2 hp2 => ?_
      refine loop_rule (X := List Ent3 × List Ent3 × List Ent3 × Value) (fun y => ([(0, v), (1, w), (5, m), (6, tb), (7, b7), (8, b8), (21, p), (28, p2)],
        [ownWD J z0 p2 y.1 y.2.2.2, own1 b8 2 1 (fun _ => J a), own1 b7 2 1 (fun _ => spotD (i : Nat) (j : Nat)), ownWD J z0 p (L.eraseIdx n) (.tuple #[spot (i : Nat) (j : Nat), x]), ownMD J z0 m y.2.2.1], [(ta, MD J z0 A), (tb, MD J z0 B), (v, W g), (w, W h)]))
        (fun y => (y.1 ++ y.2.1).Perm B ∧ Sums y.2.2.1 D B y.2.1 (i, j, a) (D.length * B.length + y.2.1.length)) (fun y => y.1.length) rfl ?_ ?_
      · refine again (B, [], M, .bool false) ⟨by simp, hS.other⟩ trivial qF ?_
        refine Seals.trans (Seals.own_cong (os := [_, _, _, _, _]) 1 (fun _ => J a) rfl rfl fun y hy => (by
          have h0 : y = 0 := by omega
          subst h0
          rfl)) ?_
        refine Seals.trans (Seals.own_cong (os := [_, _, _, _, _]) 2 (fun _ => spotD (i : Nat) (j : Nat)) rfl rfl fun y hy => (by
          have h0 : y = 0 := by omega
          subst h0
          rfl)) ?_
        exact Seals.sub qS
      · rintro ⟨L2, C, M2, c2⟩ ⟨hperm2, hS2⟩
        simp only at hperm2 hS2 ⊢
        have hlC : L2.length + C.length = B.length := by rw [← hperm2.length_eq, List.length_append]
        refine next_L 0 rfl hp2 (fun e => ?_) fun n2 i2 j2 a2 x2 hn2 hgn2 => ?_
        · subst e
          rw [List.nil_append] at hperm2
          have hst := hS2.start (t := (0, 0, z0)) hperm2
          rw [hperm2.length_eq] at hst
          refine again (L.eraseIdx n, D ++ [(i, j, a)], M2, .tuple #[spot (i : Nat) (j : Nat), x]) ⟨perm_step hgn hperm, by
            simp only
            rw [show (D ++ [(i, j, a)]).length * B.length = D.length * B.length + B.length by simp [Nat.add_mul]]
            exact hst⟩ (by simp only [List.length_eraseIdx, if_pos hn]; omega) qF ?_
          exact Seals.trans (Seals.drop 0 _ _) (Seals.trans (Seals.drop 0 _ _) (Seals.trans (Seals.drop 0 _ _) (Seals.sub qS)))
        · have htB : (i2, j2, a2) ∈ B := hperm2.mem_iff.1 (List.mem_append.2 (.inl (List.mem_of_getElem? hgn2)))
          have hit := iB _ htB
          simp only at hit
          have hVs := sum_sz (s := (i, j, a)) (C := C) (fun u hu => sA u (hDA u hu)) (sA _ hsA) sB (fun u hu => sB u (hperm2.mem_iff.1 (List.mem_append.2 (.inr hu)))) (by omega) lB (by omega) (i + i2) (j + j2)
          rw [← hS2.val] at hVs
          have hlkc := lk_cn hS2.cn (i + i2) (j + j2)
          have hprod : sz (jv a * jv a2) (k + l) := (sA _ hsA).mul (sB _ htB)
          have hstep := hS2.step (t := (i2, j2, a2)) ⟨his.1, his.2.1⟩ ⟨hit.1, hit.2.1⟩
          simp only at hstep
          have hmul := fun u u' => zMulJ u u' a a2 his.2.2.1 (Nat.le_trans his.2.2.2 (by omega)) hit.2.2.1 (Nat.le_trans hit.2.2.2 (by omega))
          have hadd := fun u u' => zAddZ u u' _ _ _ _ hVs hprod (by omega) (by omega)
          have hfew := hS2.few
          have hmulle : D.length * B.length ≤ 1048576 * 1048576 := Nat.mul_le_mul (by omega) lB
          have hJ : J (lk z0 M2 (i + i2) (j + j2)) = zd (jv (lk z0 M2 (i + i2) (j + j2))) := congrArg J hlkc
          refine walk_entry 0 rfl hp2 ?_
          refine alloc_rule (d := spotD 0 0) fun b9 hb9 => ?_
          refine alloc_rule (d := I false []) fun b10 hb10 => ?_
          refine store_box (d := spotD (i2 : Nat) (j2 : Nat)) 1 rfl hb9 rfl (by kernel_rfl) ?_ ?_; exact Reads.spot _ _
          refine store_box (d := J a2) 0 rfl hb10 rfl (by kernel_rfl) ?_ ?_; exact Reads.fact qM
          refine field_box 4 rfl hb7 ?_
          refine load_box_field_one (u := .int .i64 (i : Nat)) 4 rfl (Part.left (Part.refl _)) ?_
          refine field_box 1 rfl hb9 ?_
          refine load_box_field_one (u := .int .i64 (i2 : Nat)) 1 rfl (Part.left (Part.refl _)) ?_
          refine ar (n := ((i + i2 : Nat) : Int)) (by simp [arZ]) qI ?_
          refine field_box 4 rfl hb7 ?_
          refine load_box_field_one (u := .int .i64 (j : Nat)) 4 rfl (Part.right (Part.refl _)) ?_
          refine field_box 1 rfl hb9 ?_
          refine load_box_field_one (u := .int .i64 (j2 : Nat)) 1 rfl (Part.right (Part.refl _)) ?_
          refine ar (n := ((j + j2 : Nat) : Int)) (by simp [arZ]) qI ?_
          refine build_spot ?_
          refine alloc_rule (d := spotD 0 0) fun b11 hb11 => ?_
          refine store_box (d := spotD ((i + i2 : Nat) : Int) ((j + j2 : Nat) : Int)) 0 rfl hb11 rfl (by kernel_rfl) ?_ ?_; exact Reads.spot _ _
          refine draw_rule [0, 1, 2, 3, 4, 5, 6, 7, 8, 9] [0, 1, 2, 3, 4, 5, 6, 7, 8, 9] (by kernel_rfl) (by kernel_rfl) ?_
          refine load_spot 0 rfl hb11 rfl ?_
          refine load_spot 0 rfl hb11 rfl ?_
          refine get_own_L (f := J) (z := z0) 7 rfl hm (fun t ht => by have := hS2.low t ht; omega) hS2.nd (by omega) (by omega) fun y1 => ?_
          rw [hJ]
          refine load_box (d := J a) 4 rfl hb8 rfl (load_J _) fun y2 => ?_
          refine load_box (d := J a2) 1 rfl hb10 rfl (load_J _) fun y3 => ?_
          refine call_fn (hmul y2 y3) (Seals.refl _ _) qS ?_
          rintro y4 _ _ ⟨rfl, rfl⟩
          refine call_fn (hadd y1 y4) (Seals.refl _ _) qS ?_
          rintro y5 _ _ ⟨rfl, rfl⟩
          refine put_L (f := J) (z := z0) (cn (jv (lk z0 M2 (i + i2) (j + j2)) + jv a * jv a2)) 7 rfl hm (fun t ht => by have := hS2.low t ht; omega) hS2.nd (by omega) (by omega) (by unfold maxLen; omega) (Knw.fact qM) ?_
          refine again (L2.eraseIdx n2, C ++ [(i2, j2, a2)], mput M2 (i + i2) (j + j2) (cn (jv (lk z0 M2 (i + i2) (j + j2)) + jv a * jv a2)), .tuple #[spot (i2 : Nat) (j2 : Nat), x2]) ⟨perm_step hgn2 hperm2, by simp only [List.length_append, List.length_cons, List.length_nil]; exact hstep⟩ (by simp only [List.length_eraseIdx, if_pos hn2]; omega) qF ?_
          exact Seals.trans (Seals.drop 0 _ _) (Seals.trans (Seals.drop 0 _ _) (Seals.trans (Seals.drop 0 _ _) (Seals.sub qS)))
open Go.RowKit
theorem gtr_len (H : List (List Int)) : (gtr H).length ≤ H.length := by
  induction H with
  | nil => exact Nat.le_refl _
  | cons r H ih =>
    simp only [gtr]
    split
    · split <;> simp
    · rename_i s t hg
      rw [hg] at ih
      simpa using ih
theorem gdx_zero {G : List (List Int)} : gdx G = 0 ↔ ∀ i j, gv G i j = 0 := by
  constructor
  · intro h i j
    exact gv_zero (by omega)
  · intro h
    have hz : ∀ i, dg (G.getD i []) = 0 := fun i => Nat.le_zero.1 (dg_le.2 fun j _ => h i j)
    have : ∀ n, gdxN G n = 0 := fun n => by
      induction n with
      | zero => rfl
      | succ n ih => simp only [gdxN]; rw [if_pos (hz n)]; exact ih
    exact this _
open Go.RowKit
structure Lk (A : Row) (l : List Int) (k n : Nat) : Prop where
  val : vv A = l
  fit : Fit k A
  len : A.length ≤ n
theorem Lk.told {l : List Int} {k n : Nat} (h : szR k l) (hn : l.length ≤ n) : Lk (l.map cn) l k n := ⟨vv_cn l, h.fit, by rw [List.length_map]; exact hn⟩
theorem Lk.sz {A : Row} {l : List Int} {k n : Nat} (h : Lk A l k n) : szR k l := by rw [← h.val]; exact h.fit.szR
theorem pmul_len (l m : List Int) : (pmul l m).length ≤ l.length + m.length := by
  by_cases h1 : 0 < dg l
  · by_cases h2 : 0 < dg m
    · have := (pmul_dg h1 h2).1
      rw [dg_nm (pmul_nm l m)] at this
      have a1 := dg_le_len l
      have a2 := dg_le_len m
      omega
    · have : pmul l m = [] := (pmul_nm l m).ext Nm.nil fun x => by rw [ev_pmul, dg_zero.1 (show dg m = 0 by omega)]; simp [pev]
      rw [this]; exact Nat.zero_le _
  · have : pmul l m = [] := (pmul_nm l m).ext Nm.nil fun x => by rw [ev_pmul, dg_zero.1 (show dg l = 0 by omega)]; simp [pev]
    rw [this]; exact Nat.zero_le _
theorem szR.pmul {k j : Nat} {l m : List Int} (h : szR k l) (h' : szR j m) (hl : l.length < 18446744073709551616) : szR (k + j + 1) (pmul l m) := by
  have hn : (Go.Proofs.YtjebljkoiaojaaaGreat.nrm l).length ≤ l.length := nrm_length_le l
  unfold Go.Proofs.YtjebljkoiaojaaaGreat.pmul
  simp only
  split
  · exact fun x hx => by simp at hx
  · exact szR.nrm (szR.lst fun i _ => conv_sz h.nrm h'.nrm (by omega) i)
section
variable {A B : Row} {l m : List Int} {k j n n' : Nat}
end
open Go.RowKit
theorem ev_take_dg (l : List Int) (x : Int) : pev (l.take (dg l)) x = pev l x := by
  refine ev_co (fun i => ?_) x
  by_cases hi : i < dg l
  · exact take_getD 0 hi
  · rw [dg_le.1 (Nat.le_refl (dg l)) i (by omega)]
    exact getD_none (by rw [List.length_take]; omega)
theorem rValueJ (v w : Value) (p : Row) (xj : Bool × List Nat) (k a : Nat) (hp : Fit k p) (hxl : Lim xj.2) (hxa : xj.2.length ≤ a) (hk : k + (p.length + 2) * (a + 1) ≤ 137438953472) (lp : p.length ≤ 1048576) :
    Meets Tryz.prog 38 [v, w] [(v, V p), (w, J xj)] (fun r os fs => os = [] ∧ fs = [(r, zd (pev (vv p) (jv xj)))]) := by
  have hx : sz (jv xj) a := sz_jv hxl hxa
  obtain ⟨x, hxj⟩ : ∃ x, jv xj = x := ⟨_, rfl⟩
  rw [hxj] at hx ⊢
  have hm1 : (p.length + 2) * (a + 1) = p.length * (a + 1) + (a + 1) + (a + 1) := by rw [Nat.add_mul]; omega
  have hm2 : p.length ≤ p.length * (a + 1) := Nat.le_mul_of_pos_right _ (by omega)
  have d1 := rDegreeN v p (hp.mono (by omega))
  have hdl : dg (vv p) ≤ p.length := Nat.le_trans (dg_le_len _) (by rw [vv_len]; exact Nat.le_refl _)
  have hpw : ∀ i, i ≤ p.length → sz (x ^ i) (p.length * (a + 1) + 1) := fun i hi => (sz_pow hx i).mono (by
    have h2 : i * a ≤ p.length * (a + 1) := Nat.mul_le_mul hi (by omega)
    omega)
  have hsm : ∀ i, sz (pev ((vv p).take i) x) (k + p.length * (a + 1)) := fun i => (ev_sz (hp.szR.take i) hx).mono (by
    have : ((vv p).take i).length * (a + 1) ≤ p.length * (a + 1) := Nat.mul_le_mul_right _ (by rw [List.length_take, vv_len]; omega)
    omega)
  have hst : ∀ i, i < p.length → pev ((vv p).take i) x + jv (p.getD i z0) * x ^ i = pev ((vv p).take (i + 1)) x := fun i hi => by
    rw [ev_take_succ (by rw [vv_len]; exact hi), vv_get p i hi, Int.mul_comm]
  have hfin := ev_take_dg (vv p) x
  generalize hS : (fun i => pev ((vv p).take i) x) = S
  have hSi : ∀ i, pev ((vv p).take i) x = S i := fun i => by rw [← hS]
  simp only [hSi] at hsm hst hfin
  have h00 : S 0 = 0 := by rw [← hSi]; rfl
  rw [← hfin]
  generalize dg (vv p) = n at *
  refine meets_of_vc Tryz.func38 (by kernel_rfl) rfl (by kernel_rfl) (Nat.le_of_ble_eq_true rfl) ?_
  refine box_fact (Reads.fact (d := J xj) qM) fun px => ?_
  refine alloc_rule (d := I false []) fun o ho => ?_
  refine build0 (da := .one (.bool false)) (db := U (lims 0)) (fun S w => ⟨[.bool false], [.slice none 0 0], rfl, rd_false S w, by rw [lims_zero]; exact rd_nil S w 1 _⟩) fun z => ?_
  refine alloc_rule (d := I false []) fun s hs => ?_
  refine store_box (d := zd 0) 0 rfl hs rfl (by kernel_rfl) ?_ ?_; exact Reads.fact qM
  refine call_fn (rOf_meets 1 (by decide) (by decide)) (Seals.refl _ _) qS ?_
  rintro y0 _ _ ⟨rfl, rfl⟩
  refine alloc_rule (d := I false []) fun t ht => ?_
  refine store_box (d := zd 1) 0 rfl ht rfl (by kernel_rfl) ?_ ?_; exact Reads.fact qM
  refine loop_rule (X := Nat) (fun i => ([(0, v), (3, px), (4, o), (5, s), (6, t), (7, .int .i64 (i : Nat))], [own1 t 2 1 (fun _ => zd (x ^ i)), own1 s 2 1 (fun _ => zd (S i)), own1 o 2 1 (fun _ => I false [])], [(v, V p), (px, .ptr (J xj))])) (fun i => i ≤ n) (fun i => n - i) rfl ?_ ?_
  · exact again 0 (Nat.zero_le _) trivial qF (Seals.trans (Seals.box0 (by rw [Int.pow_zero]; rfl)) (Seals.trans (Seals.box1 (by rw [h00]; rfl)) (Seals.sub qS)))
  · rintro i hi
    refine call_fn (d1) (Seals.refl _ _) qS ?_
    rintro _ _ _ ⟨rfl, rfl, rfl⟩
    refine cmp_split _ rfl (fun hlt => ?_) (fun hlt => ?_)
    · have hin : i < p.length := by omega
      have hpi := hp.get i
      have hwi := hpw i (by omega)
      have hnx := fun u u' => rMulZJ u u' (x ^ i) xj _ hwi (by omega) hxl (by omega)
      rw [hxj, ← Int.pow_succ] at hnx
      have hadd := fun u u' => rAddZ u u' (S i) (jv (p.getD i z0) * x ^ i) (k + (p.length * (a + 1) + 1)) ((hsm i).mono (by omega)) ((sz_jv hpi.1 hpi.2).mul hwi) (by omega)
      rw [hst i hin] at hadd
      refine draw_rule [0, 1, 2, 3, 4, 5, 6, 7, 8] [0, 1, 2, 3, 4, 5, 6, 7, 8] (by kernel_rfl) (by kernel_rfl) ?_
      refine load_box (d := zd (S i)) 1 rfl hs rfl (load_I _ _) fun y1 => ?_
      refine index_fact qM i rfl hin fun b1 => ?_
      refine load_fact (d := J (p.getD i z0)) qM (load_J _) fun y2 => ?_
      refine load_box (d := zd (x ^ i)) 0 rfl ht rfl (load_I _ _) fun y3 => ?_
      refine call_fn (rMulZ y2 y3 (p.getD i z0) (x ^ i) _ hpi.1 (by omega) hwi (by omega)) (Seals.refl _ _) qS ?_
      rintro y4 _ _ ⟨rfl, rfl⟩
      refine call_fn (hadd y1 y4) (Seals.refl _ _) qS ?_
      rintro y5 _ _ ⟨rfl, rfl⟩
      refine store_box (d := zd (S (i + 1))) 1 rfl hs rfl (by kernel_rfl) ?_ ?_; exact Reads.fact qM
      refine load_box (d := zd (x ^ i)) 0 rfl ht rfl (load_I _ _) fun y6 => ?_
      refine load_fact (d := J xj) qM (load_J _) fun y7 => ?_
      refine call_fn (hnx y6 y7) (Seals.refl _ _) qS ?_
      rintro y8 _ _ ⟨rfl, rfl⟩
      refine store_box (d := zd (x ^ (i + 1))) 0 rfl ht rfl (by kernel_rfl) ?_ ?_; exact Reads.fact qM
      refine ar rfl qI ?_
      exact again (i + 1) (by omega) (by simp only; omega) qF (Seals.trans (Seals.box0 rfl) (Seals.trans (Seals.box1 rfl) (Seals.sub qS)))
    · have hin : i = n := by omega
      subst hin
      refine load_box (d := zd (S i)) 1 rfl hs rfl (load_I _ _) fun y1 => ?_
      have hn := rZNorm_meets y1 (decide (S i < 0)) (lims (S i).natAbs) (Lim_lims _) (Nat.le_trans (hsm i).len (by omega))
      rw [iv_zd] at hn
      refine call_fn (hn) (Seals.refl _ _) qS ?_
      rintro y2 _ _ ⟨rfl, rfl⟩
      refine store_box (d := zd (S i)) 2 rfl ho rfl (by kernel_rfl) ?_ ?_; exact Reads.fact qM
      refine load_box (d := zd (S i)) 2 rfl ho rfl (load_I _ _) fun r => ?_
      exact fin ⟨rfl, rfl⟩ (Seals.trans (Seals.drop 0 _ _) (Seals.trans (Seals.drop 0 _ _) (Seals.trans (Seals.drop 0 _ _) (Seals.sub (fs' := [(r, zd (S i))]) qS))))
open Go.RowKit
theorem ptim_len (c : Int) (l : List Int) : (ptim c l).length ≤ l.length := by
  have := prai_len c 0 l
  rw [prai_zero] at this; omega
theorem ptim_szR {k a : Nat} {c : Int} {l : List Int} (h : szR k l) (hc : sz c a) : szR (k + a) (ptim c l) := by
  have := h.prai hc 0
  rwa [prai_zero] at this
end Go.Proofs.YtjebljkoiaojaaaGreat
namespace Go.Proofs.YtjebljkoiaojaaaGreat
abbrev Px := Nat → Nat → List Int
def evm (A : Px) (t : Int) : Mx := fun i j => pev (A i j) t
def psumf (f : Nat → List Int) : Nat → List Int
  | 0 => []
  | n + 1 => padd (psumf f n) (f n)
def pdet : Nat → Px → List Int
  | 0, _ => [1]
  | n + 1, A => psumf (fun i => ptim (sg i) (pmul (A i 0) (pdet n fun x y => A (sk i x) (sk 0 y)))) (n + 1)
theorem ev_psumf (f : Nat → List Int) (n : Nat) (t : Int) : pev (psumf f n) t = isum (fun i => pev (f i) t) n := by
  induction n with
  | zero => rfl
  | succ n ih => rw [psumf, ev_padd, ih]; rfl
theorem psumf_nm (f : Nat → List Int) (n : Nat) : Nm (psumf f n) := by
  cases n with
  | zero => exact Nm.nil
  | succ n => exact padd_nm _ _
theorem psumf_len {f : Nat → List Int} {n l : Nat} (h : ∀ i, i < n → (f i).length ≤ l) : (psumf f n).length ≤ l := by
  induction n with
  | zero => exact Nat.zero_le _
  | succ n ih => exact Nat.le_trans (padd_len _ _) (Nat.max_le.2 ⟨ih fun i hi => h i (by omega), h n (by omega)⟩)
theorem psumf_sz {f : Nat → List Int} {n k : Nat} (h : ∀ i, i < n → szR k (f i)) : szR (k + n) (psumf f n) := by
  induction n with
  | zero => exact fun x hx => by simp [psumf] at hx
  | succ n ih => exact (ih fun i hi => h i (by omega)).padd ((h n (by omega)).mono (by omega))
theorem ev_pdet : ∀ (n : Nat) (A : Px) (t : Int), pev (pdet n A) t = det n (evm A t)
  | 0, _, t => by simp [pdet, det, pev]
  | n + 1, A, t => by
    rw [pdet, ev_psumf, det]
    exact isum_congr fun i _ => by rw [ev_ptim, ev_pmul, ev_pdet n]; rfl
theorem pdet_nm (n : Nat) (A : Px) : Nm (pdet n A) := by
  cases n with
  | zero => rfl
  | succ n => exact psumf_nm _ _
theorem pdet_len {l : Nat} : ∀ {n : Nat} {A : Px}, (∀ i j, (A i j).length ≤ l) → (pdet n A).length ≤ n * l + 1
  | 0, A, _ => by simp [pdet]
  | n + 1, A, h => by
    refine psumf_len fun i _ => Nat.le_trans (ptim_len _ _) (Nat.le_trans (pmul_len _ _) ?_)
    have h1 := h i 0
    have h2 := pdet_len (n := n) (A := fun x y => A (sk i x) (sk 0 y)) fun x y => h _ _
    rw [Nat.succ_mul]; omega
def pdk (k n : Nat) : Nat := n * (k + n + 3) + 1
theorem pdk_succ (k n : Nat) : k + pdk k n + 2 + (n + 1) ≤ pdk k (n + 1) := by unfold pdk; grind
theorem pdk_mono (k : Nat) {m n : Nat} (h : m ≤ n) : pdk k m ≤ pdk k n := Nat.succ_le_succ (Nat.mul_le_mul h (by omega))
theorem pdet_sz {k l : Nat} : ∀ {n : Nat} {A : Px}, (∀ i j, szR k (A i j)) → (∀ i j, (A i j).length ≤ l) → l < 18446744073709551616 → szR (pdk k n) (pdet n A)
  | 0, A, _, _, _ => fun x hx => by
    rw [List.mem_singleton.1 hx]; exact (sz_one 1 (by decide)).mono (by unfold pdk; omega)
  | n + 1, A, h, hl, h64 => by
    refine (psumf_sz (k := k + pdk k n + 2) fun i _ => ?_).mono (pdk_succ k n)
    have h1 := pdet_sz (n := n) (A := fun x y => A (sk i x) (sk 0 y)) (fun x y => h _ _) (fun x y => hl _ _) h64
    have h2 := (h i 0).pmul h1 (Nat.lt_of_le_of_lt (hl i 0) h64)
    exact (ptim_szR h2 (sz_one (sg i) (by unfold sg; split <;> decide))).mono (by omega)
theorem pdet_eq {n : Nat} {A : Px} {l : List Int} (hl : Nm l) (h : ∀ t, pev l t = det n (evm A t)) : l = pdet n A := hl.ext (pdet_nm _ _) fun t => by rw [h, ev_pdet]
def psu (A : Px) (rl cl : List Nat) : Px := fun i j => A (rl.getD i 0) (cl.getD j 0)
theorem ev_mi (A : Px) (s : Nat) (rl cl : List Nat) (t : Int) : pev (pdet s (psu A rl cl)) t = det s (sub' (evm A t) rl cl) := ev_pdet _ _ _
theorem psylv (A : Px) (s x y c k : Nat) (rl cl : List Nat) (hd : 0 < dg (pdet s (psu A rl cl))) (t : Int) :
    pev (pdet s (psu A rl cl)) t * pev (pdet (s + 2) (psu A (y :: x :: rl) (k :: c :: cl))) t =
      pev (pdet (s + 1) (psu A (x :: rl) (c :: cl))) t * pev (pdet (s + 1) (psu A (y :: rl) (k :: cl))) t - pev (pdet (s + 1) (psu A (y :: rl) (c :: cl))) t * pev (pdet (s + 1) (psu A (x :: rl) (k :: cl))) t := by
  have h := cancel hd (u := pmul (pdet s (psu A rl cl)) (pdet (s + 2) (psu A (y :: x :: rl) (k :: c :: cl))))
    (v := psub (pmul (pdet (s + 1) (psu A (x :: rl) (c :: cl))) (pdet (s + 1) (psu A (y :: rl) (k :: cl)))) (pmul (pdet (s + 1) (psu A (y :: rl) (c :: cl))) (pdet (s + 1) (psu A (x :: rl) (k :: cl)))))
    (fun z => by
      by_cases h0 : pev (pdet s (psu A rl cl)) z = 0
      · rw [h0, Int.zero_mul, Int.zero_mul]
      · congr 1
        rw [ev_pmul, ev_psub, ev_pmul, ev_pmul]
        simp only [ev_mi] at h0 ⊢
        exact sylv _ s x y c k rl cl h0) t
  rw [ev_pmul, ev_psub, ev_pmul, ev_pmul] at h
  exact h
def xc (s q i : Nat) : Nat := if i = s then q else if i = q then s else i
theorem xc_xc (s q i : Nat) : xc s q (xc s q i) = i := by unfold xc; split <;> split <;> (try split) <;> omega
theorem xc_lt {s q i N : Nat} (hs : s < N) (hq : q < N) (hi : i < N) : xc s q i < N := by unfold xc; split <;> (try split) <;> omega
theorem xc_ge {s q i : Nat} (hq : s ≤ q) (hi : s ≤ i) : s ≤ xc s q i := by unfold xc; split <;> (try split) <;> omega
theorem xc_low {s q i : Nat} (hq : s ≤ q) (hi : i < s) : xc s q i = i := by unfold xc; rw [if_neg (by omega), if_neg (by omega)]
theorem xc_at (s q : Nat) : xc s q s = q := if_pos rfl
structure PInv (A : Px) (N : Nat) (x : Px) (last : List Int) (odd : Bool) (s : Nat) (rl cl : List Nat) (p : Nat → Nat) : Prop where
  le : s ≤ N
  into : ∀ i, i < N → p i < N
  onto : ∀ i, i < N → ∃ j, j < N ∧ p j = i
  rows : ∀ j, j < s → rl.getD j 0 = p (s - 1 - j)
  cols : ∀ j, j < s → cl.getD j 0 = s - 1 - j
  lst : last = pdet s (psu A rl cl)
  ne : 0 < dg last
  val : ∀ i k, s ≤ i → i < N → s ≤ k → k < N → x i k = pdet (s + 1) (psu A (p i :: rl) (k :: cl))
  sign : ∀ t, det N (fun i j => evm A t (p i) j) = (if odd then -1 else 1) * det N (evm A t)
theorem PInv.start {A : Px} {N : Nat} (h : ∀ i k, i < N → k < N → Nm (A i k)) : PInv A N A [1] false 0 [] [] (fun i => i) :=
  ⟨Nat.zero_le _, fun _ h => h, fun i h => ⟨i, h, rfl⟩, fun j h => absurd h (Nat.not_lt_zero _), fun j h => absurd h (Nat.not_lt_zero _), rfl, by decide,
    fun i k _ hi _ hk => pdet_eq (h i k hi hk) fun t => by simp [det, isum, sg, psu, evm], fun t => by simp⟩
theorem PInv.dv {A : Px} {N : Nat} {x : Px} {last : List Int} {odd : Bool} {s : Nat} {rl cl : List Nat} {p : Nat → Nat} (h : PInv A N x last odd s rl cl p) {a b k : Nat} (ha : s ≤ a) (haN : a < N) (hb : s ≤ b) (hbN : b < N) (hs : s < N) (hk : s ≤ k) (hkN : k < N) (t : Int) :
    pev last t * pev (pdet (s + 2) (psu A (p b :: p a :: rl) (k :: s :: cl))) t = pev (x a s) t * pev (x b k) t - pev (x b s) t * pev (x a k) t := by
  rw [h.lst, h.val a s ha haN (Nat.le_refl _) hs, h.val b k hb hbN hk hkN, h.val b s hb hbN (Nat.le_refl _) hs, h.val a k ha haN hk hkN]
  exact psylv A s (p a) (p b) s k rl cl (by rw [← h.lst]; exact h.ne) t
theorem PInv.step {A : Px} {N : Nat} {x : Px} {last : List Int} {odd : Bool} {s : Nat} {rl cl : List Nat} {p : Nat → Nat} (h : PInv A N x last odd s rl cl p) {q : Nat} (hq : s ≤ q) (hqN : q < N) (h0 : x q s ≠ []) {z : Px}
    (hz : ∀ i k, s + 1 ≤ i → i < N → s + 1 ≤ k → k < N → z i k = pdet (s + 2) (psu A (p (xc s q i) :: p q :: rl) (k :: s :: cl))) :
    PInv A N z (x q s) (if q = s then odd else !odd) (s + 1) (p q :: rl) (s :: cl) (fun i => p (xc s q i)) := by
  have hs : s < N := by omega
  have hval := h.val q s hq hqN (Nat.le_refl _) hs
  refine ⟨by omega, fun i hi => h.into _ (xc_lt hs hqN hi), fun i hi => ?_, fun j hj => ?_, fun j hj => ?_, hval, ?_, hz, fun t => ?_⟩
  · obtain ⟨j, hj, e⟩ := h.onto i hi
    exact ⟨xc s q j, xc_lt hs hqN hj, by rw [xc_xc, e]⟩
  · cases j with
    | zero => rw [List.getD_cons_zero, show s + 1 - 1 - 0 = s by omega, xc_at]
    | succ j => rw [List.getD_cons_succ, h.rows j (by omega), show s + 1 - 1 - (j + 1) = s - 1 - j by omega, xc_low hq (by omega)]
  · cases j with
    | zero => rw [List.getD_cons_zero]; omega
    | succ j => rw [List.getD_cons_succ, h.cols j (by omega)]; omega
  · have hn : Nm (x q s) := by rw [hval]; exact pdet_nm _ _
    rw [dg_nm hn]
    exact List.length_pos_iff.2 h0
  · have hsg := h.sign t
    by_cases e : q = s
    · rw [if_pos e, ← hsg]
      refine det_congr fun i j _ _ => ?_
      have : xc s q i = i := by unfold xc; split <;> (try split) <;> omega
      rw [this]
    · rw [if_neg e]
      have hw := (det_form N).swap (A := fun i j => evm A t (p i) j) (r := s) (s := q) hs hqN (fun e' => e e'.symm)
      rw [hsg] at hw
      have : det N (fun i j => evm A t (p (xc s q i)) j) = - ((if odd = true then -1 else 1) * det N (evm A t)) := by
        rw [← hw]
        refine det_congr fun i j _ _ => ?_
        simp only [rw', xc]
        by_cases h1 : i = q
        · simp [h1, e]
        · by_cases h2 : i = s
          · have : ¬ s = q := fun e' => e e'.symm
            simp [h2, this]
          · simp [h1, h2]
      rw [this]
      cases odd <;> simp
theorem isum_beyond {f : Nat → Int} {m n : Nat} (hm : m ≤ n) (h : ∀ i, m ≤ i → f i = 0) : isum f n = isum f m := by
  induction hm with
  | refl => rfl
  | step hm ih => rw [isum, ih, h _ hm, Int.add_zero]
theorem PInv.none {A : Px} {N : Nat} {x : Px} {last : List Int} {odd : Bool} {s : Nat} {rl cl : List Nat} {p : Nat → Nat} (h : PInv A N x last odd s rl cl p) (hs : s < N) (h0 : ∀ i, s ≤ i → i < N → x i s = []) : pdet N A = [] := by
  have key : ∀ t, pev last t * pev (pdet N A) t = 0 := fun t => by
    by_cases hl : pev last t = 0
    · rw [hl, Int.zero_mul]
    · rw [ev_pdet, ← det_tr]
      refine Int.mul_eq_zero.2 (.inr ?_)
      let B : Nat → Mx := fun a => sub' (evm A t) (a :: rl) (s :: cl)
      have hrow : ∀ a, a < N → det (s + 1) (B a) = 0 := fun a ha => by
        obtain ⟨i, hi, rfl⟩ := h.onto a ha
        by_cases his : s ≤ i
        · have h1 := h.val i s his hi (Nat.le_refl _) hs
          rw [h0 i his hi] at h1
          have h2 := ev_mi A (s + 1) (p i :: rl) (s :: cl) t
          rw [← h1] at h2
          exact h2.symm
        · refine (det_form (s + 1)).eqRows (r := 0) (s := s - 1 - i + 1) (by omega) (by omega) (by omega) fun j _ => ?_
          show evm A t (p i) _ = evm A t ((p i :: rl).getD (s - 1 - i + 1) 0) _
          rw [List.getD_cons_succ, h.rows _ (by omega), show s - 1 - (s - 1 - i) = i by omega]
      let u : Nat → Int := fun c => if c ≤ s then sg (s - c) * det s (cut (B 0) 0 (s - c)) else 0
      refine kernel_det (i := s) hs (u := u) ?_ fun a ha => ?_
      · show (if s ≤ s then sg (s - s) * det s (cut (B 0) 0 (s - s)) else 0) ≠ 0
        rw [if_pos (Nat.le_refl _), Nat.sub_self, sg_zero, Int.one_mul]
        intro e
        refine hl ?_
        rw [h.lst, ev_mi, ← e]
        exact det_congr fun i j _ _ => by simp [cut, B, sub', sk_zero]
      · have h1 := hrow a ha
        rw [det_row (B a) (i := 0) (by omega)] at h1
        rw [isum_beyond (m := s + 1) (by omega) fun i hi => by show (if i ≤ s then _ else (0 : Int)) * _ = 0; rw [if_neg (by omega), Int.zero_mul], ← isum_rev, ← h1]
        refine isum_congr fun j hj => ?_
        show (if s + 1 - 1 - j ≤ s then sg (s - (s + 1 - 1 - j)) * det s (cut (B 0) 0 (s - (s + 1 - 1 - j))) else 0) * evm A t a (s + 1 - 1 - j) = _
        rw [if_pos (by omega), show s - (s + 1 - 1 - j) = j by omega, Nat.zero_add]
        have e1 : det s (cut (B 0) 0 j) = det s (cut (B a) 0 j) := det_congr fun i k _ _ => by simp [cut, B, sub', sk_zero]
        have e2 : B a 0 j = evm A t a (s + 1 - 1 - j) := by
          show evm A t a ((s :: cl).getD j 0) = _
          congr 1
          cases j with
          | zero => rw [List.getD_cons_zero]; omega
          | succ j => rw [List.getD_cons_succ, h.cols j (by omega)]; omega
        rw [e1, e2]; grind
  rcases mul_zero' key with h1 | h1
  · have := h.ne; omega
  · rw [dg_nm (pdet_nm _ _)] at h1
    exact List.length_eq_zero_iff.1 h1
theorem PInv.done {A : Px} {N : Nat} {x : Px} {last : List Int} {odd : Bool} {rl cl : List Nat} {p : Nat → Nat} (h : PInv A N x last odd N rl cl p) (t : Int) : pev (pdet N A) t = if odd then - pev last t else pev last t := by
  have e : pev last t = det N (fun i j => evm A t (p i) j) := by
    rw [h.lst, ev_mi, ← det_rev N (fun i j => evm A t (p i) j)]
    refine det_congr fun i j hi hj => ?_
    simp only [sub', rev]
    rw [h.rows i hi, h.cols j hj]
  rw [e, h.sign t, ev_pdet]
  cases odd <;> simp
open Go.RowKit
theorem info_pp : (Tryz.prog.info? 109).map (fun i => (i.zero, i.size, i.bytes)) = some (some (.slice none 0 0), 1, 24) := by kernel_rfl
theorem info_p : (Tryz.prog.info? 23).map (fun i => (i.zero, i.size, i.bytes)) = some (some (.slice none 0 0), 1, 24) := by kernel_rfl
instance iCGk1 : TSl Tryz.prog 107 109 1 := ⟨Tryz.underlying107, by kernel_rfl⟩
instance iCGk2 : TOne Tryz.prog 109 := ⟨⟨_, Tryz.underlying109, trivial⟩, by kernel_rfl⟩
instance iCGk3 : TEl Tryz.prog 109 1 24 := tel info_pp rfl (by decide)
theorem tz_pp : TZero Tryz.prog 109 (.one (.slice none 0 0)) := tzero info_pp fun _ _ => ⟨rfl, rfl⟩
theorem tz_p : TZero Tryz.prog 23 (vd []) := tzero info_p fun S w => rd_nil S w 2 _
def famP (vs : Nat → Value) (R C : Nat) (x : Px) : Own := ⟨R, vs, 1, fun _ => C, fun i k => vd (x i k)⟩
theorem load_famP {vs : Nat → Value} {R C : Nat} {x : Px} {os : List Own} {fs : List Fact} {K : Cont} (pos i j : Nat) (h : nthOwn os pos = some (famP vs R C x)) (hi : i < R) (hj : j < C) (a : List Int) (ha : x i j = a)
    (k : ∀ u, K u os ((u, vd a) :: fs)) : LoadK Tryz.prog 23 (eptr (vs i) (j * 1)) os fs K := by
  subst ha
  exact load_own (o := famP vs R C x) pos i h hi j 0 rfl hj (Part.refl _) (load_P _) k
theorem index_famP {kk : IntKind} {z : Int} {vs : Nat → Value} {R C : Nat} {x : Px} {os : List Own} {fs : List Fact} {K : Cont} (pos i : Nat) (h : nthOwn os pos = some (famP vs R C x)) (hi : i < R) (hs : isSl (vs i)) (j : Nat) (hz : z = (j : Int)) (hj : j < C)
    (k : K (eptr (vs i) (j * 1)) os fs) : IndexAddrK Tryz.prog 109 (vs i) (.int kk z) os fs K :=
  index_own (o := famP vs R C x) pos i h hi (fun r => by obtain ⟨a, n, c, e⟩ := hs; show vs i ≠ _; rw [e]; simp) j hz hj k
open Go.RowKit
def syRow (F : List (List Int)) (d a : Nat) (y : Nat) : List Int := if a ≤ y ∧ y < a + (d + 1) then F.getD (d - (y - a)) [] else []
def syX (A B : List (List Int)) (m n : Nat) : Px := fun i y => if i < n then syRow A m i y else syRow B n (i - n) y
def syPart (F : List (List Int)) (d a k : Nat) (y : Nat) : List Int := if a ≤ y ∧ y < a + k then F.getD (d - (y - a)) [] else []
theorem syPart_s (F : List (List Int)) {d a k : Nat} (y : Nat) : upd (fun y => vd (syPart F d a k y)) (a + k) (vd (F.getD (d - k) [])) y = vd (syPart F d a (k + 1) y) := by
  unfold upd syPart
  by_cases h : y = a + k
  · subst h
    rw [if_pos rfl, if_pos (by omega), show a + k - a = k by omega]
  · rw [if_neg h]
    show vd (if a ≤ y ∧ y < a + k then F.getD (d - (y - a)) [] else []) = _
    by_cases h2 : a ≤ y ∧ y < a + k
    · rw [if_pos h2, if_pos (by omega)]
    · rw [if_neg h2, if_neg (by omega)]
theorem gsylvester_meets (va vb : Value) (A B : List (List Int)) (m n : Nat) (hA : A.length = m + 1) (hB : B.length = n + 1) (hm : m ≤ 1048576) (hn : n ≤ 1048576) :
    Meets Tryz.prog 77 [va, vb, .int .i64 (m : Nat), .int .i64 (n : Nat)] [(va, wd A), (vb, wd B)] (fun r os fs => isSl r ∧ ∃ vs, (∀ i, i < m + n → isSl (vs i)) ∧ os = [famP vs (m + n) (m + n) (syX A B m n), outer r (m + n) vs] ∧ fs = []) := by
  refine meets_of_vc Tryz.func77 (by kernel_rfl) rfl (by kernel_rfl) (Nat.le_of_ble_eq_true rfl) ?_
  refine ar (n := ((m + n : Nat) : Int)) (by simp [arZ]) qI ?_
  have tz := tz_pp
  have tzp := tz_p
  refine make_rule (t := 107) (d := .one (.slice none 0 0)) (m + n) rfl rfl (by omega) (by omega) fun v hv => ?_
  refine len_own 0 rfl hv fun _ => ?_
  refine loop_rule (X := Nat × (Nat → Value)) (fun x => ([(0, va), (1, vb), (2, .int .i64 (m : Nat)), (3, .int .i64 (n : Nat)), (9, v), (20, .int .i64 ((m + n : Nat) : Int)), (21, .int .i64 (x.1 : Nat))], [famP x.2 x.1 (m + n) (syX A B m n), outer v (m + n) x.2], [(va, wd A), (vb, wd B)]))
    (fun x => x.1 ≤ m + n ∧ ∀ i, i < x.1 → isSl (x.2 i)) (fun x => m + n - x.1) rfl ?_ ?_
  · exact again (0, fun _ => .slice none 0 0) ⟨Nat.zero_le _, fun i hi => absurd hi (Nat.not_lt_zero _)⟩ trivial qF (Seals.none _ rfl)
  · rintro ⟨i, vs⟩ ⟨h1, h2⟩
    simp only at h1 h2 ⊢
    refine cmp_split _ rfl (fun hi => ?_) (fun hi => ?_)
    · have hilt : i < m + n := by omega
      refine ar (n := ((m + n : Nat) : Int)) (by simp [arZ]) qI ?_
      refine make_rule (t := 109) (d := vd []) (m + n) rfl rfl (by omega) (by omega) fun u hu => ?_
      refine index_elem 2 rfl hv i rfl hilt ?_
      refine StoreK.post (store_elem (d := .one u) 2 rfl i hilt rfl (by kernel_rfl) (Reads.one hu.one) ⟨_, _, Seals.own_cong (os := [_, _, _]) 2 (fun y => .one (if y = i then u else vs y)) rfl rfl (fun y _ => by simp only [upd]; split <;> rfl), ?_⟩)
      by_cases hin : i < n
      · refine cmp_false rfl (by omega) ?_
        have hrow : ∀ y, syX A B m n i y = syPart A m i (m + 1) y := fun y => by unfold syX; rw [if_pos hin]; rfl
        refine ar (n := ((m + 1 : Nat) : Int)) (by simp [arZ]) qI ?_
        refine loop_rule (X := Nat) (fun k => ([(0, va), (1, vb), (2, .int .i64 (m : Nat)), (3, .int .i64 (n : Nat)), (9, v), (10, .int .i64 (i : Nat)), (11, va), (12, .int .i64 (m : Nat)), (13, .int .i64 ((i : Nat) : Int)), (20, .int .i64 ((m + n : Nat) : Int)), (21, .int .i64 (i : Nat)), (43, .int .i64 ((m + 1 : Nat) : Int)), (44, .int .i64 (k : Nat))],
          [own1 u 1 (m + n) (fun y => vd (syPart A m (i) k y)), famP vs i (m + n) (syX A B m n), outer v (m + n) fun y => if y = i then u else vs y], [(va, wd A), (vb, wd B)])) (fun k => k ≤ m + 1) (fun k => m + 1 - k) rfl ?_ ?_
        · exact again 0 (Nat.zero_le _) trivial qF (Seals.trans (Seals.own_cong (os := [_, _, _]) 0 (fun y => vd (syPart A m (i) 0 y)) rfl rfl fun y _ => by unfold syPart; rw [if_neg (by omega)]) (Seals.sub qS))
        · rintro k hk
          refine cmp_split _ rfl (fun hc => ?_) (fun hc => ?_)
          · refine draw_rule [0, 1, 2, 3, 4, 5, 6, 7, 8, 9, 10, 11, 12, 13, 14] [0, 1, 2, 3, 4, 5, 6, 7, 8, 9, 10, 11, 12, 13, 14] (by kernel_rfl) (by kernel_rfl) ?_
            refine index_elem 2 rfl hv i rfl hilt ?_
            refine load_one_elem 2 rfl i hilt (u := u) (by simp) ?_
            refine ar (n := ((i + k : Nat) : Int)) (by simp only [arZ, Option.some.injEq]; omega) qI ?_
            refine ar (n := ((m - k : Nat) : Int)) (by simp only [arZ, Option.some.injEq]; omega) qI ?_
            refine index_wd qM (m - k) rfl (by omega) fun b1 => ?_
            refine load_fact (d := vd ((A).getD (m - k) [])) qM (load_V _) fun y1 => ?_
            refine index_elem 0 rfl hu (i + k) rfl (by omega) ?_
            refine StoreK.post (store_elem (d := vd ((A).getD (m - k) [])) 0 rfl (i + k) (by omega) rfl (by kernel_rfl) (Reads.fact qM) ⟨_, _, Seals.own_cong (os := [_, _, _]) 0 (fun y => vd (syPart A m (i) (k + 1) y)) rfl rfl (fun y _ => syPart_s A y), ?_⟩)
            refine ar rfl qI ?_
            exact again (k + 1) (by omega) (by simp only; omega) qF (Seals.sub qS)
          · have hkd : k = m + 1 := by omega
            subst hkd
            refine ar rfl qI ?_
            refine again (i + 1, fun y => if y = i then u else vs y) ⟨by simp only; omega, fun y hy => ?_⟩ (by simp only; omega) qF ?_
            · simp only at hy ⊢
              by_cases e : y = i
              · rw [if_pos e]; exact hu
              · rw [if_neg e]; exact h2 y (by omega)
            · refine Seals.trans (Seals.join (F' := famP (fun y => if y = i then u else vs y) (i + 1) (m + n) (syX A B m n)) rfl rfl rfl (fun y hy => ⟨?_, rfl, fun _ _ => rfl⟩) ⟨?_, rfl, fun y hy => ?_⟩) (Seals.sub qS)
              · have hy' : y < i := hy
                show (if y = i then u else vs y) = vs y
                rw [if_neg (by omega)]
              · show (if i = i then u else vs i) = u
                rw [if_pos rfl]
              · exact congrArg vd (hrow y)
      · refine cmp_true rfl (by omega) ?_
        refine ar (n := ((i - n : Nat) : Int)) (by simp only [arZ, Option.some.injEq]; omega) qI ?_
        have hrow : ∀ y, syX A B m n i y = syPart B n (i - n) (n + 1) y := fun y => by unfold syX; rw [if_neg hin]; rfl
        refine ar (n := ((n + 1 : Nat) : Int)) (by simp [arZ]) qI ?_
        refine loop_rule (X := Nat) (fun k => ([(0, va), (1, vb), (2, .int .i64 (m : Nat)), (3, .int .i64 (n : Nat)), (9, v), (10, .int .i64 (i : Nat)), (11, vb), (12, .int .i64 (n : Nat)), (13, .int .i64 (((i - n) : Nat) : Int)), (20, .int .i64 ((m + n : Nat) : Int)), (21, .int .i64 (i : Nat)), (43, .int .i64 ((n + 1 : Nat) : Int)), (44, .int .i64 (k : Nat))],
          [own1 u 1 (m + n) (fun y => vd (syPart B n ((i - n)) k y)), famP vs i (m + n) (syX A B m n), outer v (m + n) fun y => if y = i then u else vs y], [(va, wd A), (vb, wd B)])) (fun k => k ≤ n + 1) (fun k => n + 1 - k) rfl ?_ ?_
        · exact again 0 (Nat.zero_le _) trivial qF (Seals.trans (Seals.own_cong (os := [_, _, _]) 0 (fun y => vd (syPart B n ((i - n)) 0 y)) rfl rfl fun y _ => by unfold syPart; rw [if_neg (by omega)]) (Seals.sub qS))
        · rintro k hk
          refine cmp_split _ rfl (fun hc => ?_) (fun hc => ?_)
          · refine draw_rule [0, 1, 2, 3, 4, 5, 6, 7, 8, 9, 10, 11, 12, 13, 14] [0, 1, 2, 3, 4, 5, 6, 7, 8, 9, 10, 11, 12, 13, 14] (by kernel_rfl) (by kernel_rfl) ?_
            refine index_elem 2 rfl hv i rfl hilt ?_
            refine load_one_elem 2 rfl i hilt (u := u) (by simp) ?_
            refine ar (n := (((i - n) + k : Nat) : Int)) (by simp only [arZ, Option.some.injEq]; omega) qI ?_
            refine ar (n := ((n - k : Nat) : Int)) (by simp only [arZ, Option.some.injEq]; omega) qI ?_
            refine index_wd qM (n - k) rfl (by omega) fun b1 => ?_
            refine load_fact (d := vd ((B).getD (n - k) [])) qM (load_V _) fun y1 => ?_
            refine index_elem 0 rfl hu ((i - n) + k) rfl (by omega) ?_
            refine StoreK.post (store_elem (d := vd ((B).getD (n - k) [])) 0 rfl ((i - n) + k) (by omega) rfl (by kernel_rfl) (Reads.fact qM) ⟨_, _, Seals.own_cong (os := [_, _, _]) 0 (fun y => vd (syPart B n ((i - n)) (k + 1) y)) rfl rfl (fun y _ => syPart_s B y), ?_⟩)
            refine ar rfl qI ?_
            exact again (k + 1) (by omega) (by simp only; omega) qF (Seals.sub qS)
          · have hkd : k = n + 1 := by omega
            subst hkd
            refine ar rfl qI ?_
            refine again (i + 1, fun y => if y = i then u else vs y) ⟨by simp only; omega, fun y hy => ?_⟩ (by simp only; omega) qF ?_
            · simp only at hy ⊢
              by_cases e : y = i
              · rw [if_pos e]; exact hu
              · rw [if_neg e]; exact h2 y (by omega)
            · refine Seals.trans (Seals.join (F' := famP (fun y => if y = i then u else vs y) (i + 1) (m + n) (syX A B m n)) rfl rfl rfl (fun y hy => ⟨?_, rfl, fun _ _ => rfl⟩) ⟨?_, rfl, fun y hy => ?_⟩) (Seals.sub qS)
              · have hy' : y < i := hy
                show (if y = i then u else vs y) = vs y
                rw [if_neg (by omega)]
              · show (if i = i then u else vs i) = u
                rw [if_pos rfl]
              · exact congrArg vd (hrow y)
    · have hiR : i = m + n := by omega
      subst hiR
      exact fin ⟨hv, vs, h2, rfl, rfl⟩ (Seals.sub (fun F hF => nomatch hF))
end Go.Proofs.YtjebljkoiaojaaaGreat
namespace Go.Proofs.YtjebljkoiaojaaaGreat
def gev (G : List (List Int)) (x y : Int) : Int := pev (gpy G y) x
theorem gpy_co (G : List (List Int)) (y : Int) (i : Nat) : (gpy G y).getD i 0 = pev (G.getD i []) y := by
  unfold gpy
  rw [co_nrm]
  by_cases h : i < G.length
  · simp [List.getD_eq_getElem?_getD, h]
  · rw [getD_end (l := G.map fun r => pev r y) (by rw [List.length_map]; omega), getD_end (l := G) (by omega)]; rfl
theorem Gn.ev_ext {G H : List (List Int)} (hG : Gn G) (hH : Gn H) (h : ∀ x y, gev G x y = gev H x y) : G = H :=
  hG.ext hH fun i j => by
    have h1 : ∀ y, pev (G.getD i []) y = pev (H.getD i []) y := fun y => by
      rw [← gpy_co, ← gpy_co]
      exact co_ext (fun x => h x y) i
    exact co_ext h1 j
theorem gev_co {G H : List (List Int)} (h : ∀ i j, gv G i j = gv H i j) (x y : Int) : gev G x y = gev H x y := by
  unfold gev
  refine same (fun i => ?_) x
  rw [gpy_co, gpy_co]
  exact same (fun j => h i j) y
where
  same {l m : List Int} (h : ∀ i, l.getD i 0 = m.getD i 0) (x : Int) : pev l x = pev m x := by
    rw [← ev_nrm l, ← ev_nrm m, nrm_ext h]
theorem gev_gadd (G H : List (List Int)) (x y : Int) : gev (gadd G H) x y = gev G x y + gev H x y := by
  unfold gev
  rw [← ev_padd]
  refine gev_co.same (fun i => ?_) x
  rw [gpy_co, co_padd, gpy_co, gpy_co, ← ev_padd]
  exact gev_co.same (fun j => by rw [co_padd]; exact gadd_gv G H i j) y
theorem ev_xsum (n : Nat) (f : Nat → Int) (x : Int) : pev (lst n f) x = isum (fun i => x ^ i * f i) n := by
  induction n with
  | zero => rfl
  | succ n ih =>
    have h : pev (lst (n + 1) f) x = pev (lst n f) x + x ^ n * f n := by
      have e : lst (n + 1) f = lst n f ++ [f n] := by simp [lst, List.range_succ]
      have ea : ∀ (l m : List Int), pev (l ++ m) x = pev l x + x ^ l.length * pev m x := fun l m => by
        induction l with
        | nil => simp [pev]
        | cons c l ih => simp only [List.cons_append, pev, List.length_cons, Int.pow_succ, ih]; grind
      rw [e, ea, lst_len]
      simp [pev]
    rw [h, ih]
    rfl
theorem gev_sum {G : List (List Int)} {n : Nat} (h1 : G.length ≤ n) (h2 : ∀ i, (G.getD i []).length ≤ n) (x y : Int) :
    gev G x y = isum (fun i => x ^ i * isum (fun j => y ^ j * gv G i j) n) n := by
  have e1 : gev G x y = pev (lst n fun i => pev (G.getD i []) y) x := by
    unfold gev
    refine gev_co.same (fun i => ?_) x
    rw [gpy_co]
    by_cases hi : i < n
    · rw [lst_get hi]
    · rw [getD_end (l := lst n _) (by rw [lst_len]; omega), getD_end (l := G) (by omega)]; rfl
  rw [e1, ev_xsum]
  congr 1
  funext i
  rw [← ev_lst (h2 i) y, ev_xsum]
  rfl
theorem grid_bound (G : List (List Int)) : ∃ n, G.length ≤ n ∧ ∀ i, (G.getD i []).length ≤ n := by
  induction G with
  | nil => exact ⟨0, Nat.le_refl _, fun i => by simp⟩
  | cons r G ih =>
    obtain ⟨n, h1, h2⟩ := ih
    refine ⟨max (n + 1) r.length, by simp only [List.length_cons]; omega, fun i => ?_⟩
    cases i with
    | zero => simp only [List.getD_cons_zero]; omega
    | succ i => have := h2 i; simp only [List.getD_cons_succ]; omega
theorem isum_xmul (c : Int) (f : Nat → Int) (n : Nat) : c * isum f n = isum (fun i => c * f i) n := by
  induction n with
  | zero => simp [isum]
  | succ n ih => simp only [isum, Int.mul_add, ih]
theorem gev_gtu (G : List (List Int)) (x y : Int) : gev (gtu G) x y = gev G y x := by
  obtain ⟨n1, a1, a2⟩ := grid_bound G
  obtain ⟨n2, b1, b2⟩ := grid_bound (gtu G)
  have hn := fun i => Nat.le_trans (a2 i) (Nat.le_max_left n1 n2)
  have hm := fun i => Nat.le_trans (b2 i) (Nat.le_max_right n1 n2)
  rw [gev_sum (n := max n1 n2) (by omega) hm, gev_sum (n := max n1 n2) (by omega) hn]
  simp only [isum_xmul, gtu_gv]
  rw [isum_swap]
  congr 1
  funext i
  congr 1
  funext j
  rw [← Int.mul_assoc, ← Int.mul_assoc, Int.mul_comm (x ^ j)]
end Go.Proofs.YtjebljkoiaojaaaGreat
namespace Go.Proofs.YtjebljkoiaojaaaGreat
def etm (x y : Int) (t : Ent3) : Int := x ^ t.1 * (y ^ t.2.1 * jv t.2.2)
theorem esum_app (L M : List Ent3) (φ : Ent3 → Int) : esum (L ++ M) φ = esum L φ + esum M φ := by simp [esum]
theorem esum_tr (i : Nat) (r : Row) (n : Nat) (x y : Int) : esum (tr i r n) (etm x y) = x ^ i * isum (fun j => y ^ j * jv (r.getD j z0)) n := by
  induction n with
  | zero => simp [tr, esum, isum]
  | succ n ih =>
    simp only [tr, esum_app, isum, Int.mul_add, ih]
    split
    · rename_i h; rw [h, esum_nil, Int.mul_zero, Int.mul_zero]
    · simp [esum, etm]
theorem esum_tg (g : List Row) (n : Nat) (x y : Int) : esum (tg g n) (etm x y) = isum (fun i => x ^ i * pev (vv (g.getD i [])) y) n := by
  induction n with
  | zero => rfl
  | succ n ih =>
    simp only [tg, esum_app, isum, ih, esum_tr]
    congr 2
    rw [← ev_lst (l := vv (g.getD n [])) (Nat.le_refl _) y, ev_xsum, vv_len]
    refine isum_same fun j hj => ?_
    rw [vv_get _ _ hj]
where
  isum_same {f h : Nat → Int} : ∀ {n : Nat}, (∀ j, j < n → f j = h j) → isum f n = isum h n
    | 0, _ => rfl
    | n + 1, e => by simp only [isum]; rw [isum_same fun j hj => e j (by omega), e n (by omega)]
theorem gev_tg (g : List Row) (x y : Int) : gev (ww g) x y = esum (tg g g.length) (etm x y) := by
  rw [esum_tg]
  unfold gev
  have : pev (gpy (ww g) y) x = pev (lst g.length fun i => pev (vv (g.getD i [])) y) x := gev_co.same (fun i => by
    rw [gpy_co, ww_get]
    by_cases hi : i < g.length
    · rw [lst_get hi]
    · rw [getD_end (l := lst g.length _) (by rw [lst_len]; omega), getD_end (l := g) (by omega)]; rfl) x
  rw [this, ev_xsum]
theorem isum_zero' (n : Nat) : isum (fun _ => 0) n = 0 := by
  induction n with
  | zero => rfl
  | succ n ih => simp only [isum, ih]; rfl
theorem isum_add' (f h : Nat → Int) (n : Nat) : isum (fun i => f i + h i) n = isum f n + isum h n := by
  induction n with
  | zero => rfl
  | succ n ih => simp only [isum, ih]; omega
theorem isum_onep {n a : Nat} (ha : a < n) (f : Nat → Int) (hf : ∀ i, i ≠ a → f i = 0) : isum f n = f a := by
  induction n with
  | zero => omega
  | succ n ih =>
    simp only [isum]
    by_cases e : a = n
    · subst e
      rw [esum_tg.isum_same (h := fun _ => 0) fun i hi => hf i (by omega), isum_zero', Int.zero_add]
    · rw [ih (by omega), hf n (fun h => e h.symm), Int.add_zero]
def fev (F : Nat → Nat → Int) (n : Nat) (x y : Int) : Int := isum (fun i => x ^ i * isum (fun j => y ^ j * F i j) n) n
theorem fev_add (F H : Nat → Nat → Int) (n : Nat) (x y : Int) : fev (fun i j => F i j + H i j) n x y = fev F n x y + fev H n x y := by
  unfold fev
  rw [← isum_add']
  congr 1
  funext i
  rw [← Int.mul_add, ← isum_add']
  congr 2
  funext j
  rw [Int.mul_add]
theorem fev_zero (n : Nat) (x y : Int) : fev (fun _ _ => 0) n x y = 0 := by
  unfold fev
  simp only [Int.mul_zero, isum_zero']
theorem fev_esum (L : List Ent3) (f : Ent3 → Nat → Nat → Int) (n : Nat) (x y : Int) : fev (fun i j => esum L fun t => f t i j) n x y = esum L fun t => fev (f t) n x y := by
  induction L with
  | nil => exact fev_zero n x y
  | cons t L ih =>
    have e : ∀ φ : Ent3 → Int, esum (t :: L) φ = φ t + esum L φ := fun φ => by simp [esum]
    simp only [e]
    rw [fev_add, ih]
theorem fev_con {s t : Ent3} {n : Nat} (h1 : s.1 + t.1 < n) (h2 : s.2.1 + t.2.1 < n) (x y : Int) : fev (con s t) n x y = etm x y s * etm x y t := by
  unfold fev
  rw [isum_onep h1 _ fun i hi => by
    have : (fun j => y ^ j * con s t i j) = fun _ => 0 := by
      funext j
      unfold con
      rw [if_neg fun e => hi e.1.symm, Int.mul_zero]
    rw [this, isum_zero', Int.mul_zero]]
  rw [isum_onep h2 _ fun j hj => by
    unfold con
    rw [if_neg fun e => hj e.2.symm, Int.mul_zero]]
  unfold con etm
  rw [if_pos ⟨rfl, rfl⟩, Int.pow_add, Int.pow_add]
  grind
theorem esum_mulr (L : List Ent3) (φ : Ent3 → Int) (c : Int) : esum L (fun t => φ t * c) = esum L φ * c := by
  induction L with
  | nil => simp [esum]
  | cons t L ih =>
    have e : ∀ φ : Ent3 → Int, esum (t :: L) φ = φ t + esum L φ := fun φ => by simp [esum]
    rw [e, e, ih, Int.add_mul]
theorem esum_mull (L : List Ent3) (φ : Ent3 → Int) (c : Int) : esum L (fun t => c * φ t) = c * esum L φ := by
  rw [Int.mul_comm c, ← esum_mulr]
  congr 1
  funext t
  rw [Int.mul_comm]
theorem esum_same {L : List Ent3} {φ ψ : Ent3 → Int} (h : ∀ t, t ∈ L → φ t = ψ t) : esum L φ = esum L ψ := by
  unfold esum
  rw [List.map_congr_left h]
theorem fev_pairs {A B : List Ent3} {n : Nat} (h : ∀ s t, s ∈ A → t ∈ B → s.1 + t.1 < n ∧ s.2.1 + t.2.1 < n) (x y : Int) : fev (pairs A B) n x y = esum A (etm x y) * esum B (etm x y) := by
  have e : fev (pairs A B) n x y = esum A fun s => fev (fun i j => esum B fun t => con s t i j) n x y := fev_esum A (fun s i j => esum B fun t => con s t i j) n x y
  rw [e, ← esum_mulr]
  refine esum_same fun s hs => ?_
  rw [fev_esum B (fun t => con s t), ← esum_mull]
  exact esum_same fun t ht => fev_con (h s t hs ht).1 (h s t hs ht).2 x y
theorem tg_deg {g : List Row} {t : Ent3} (h : t ∈ tg g g.length) : t.1 < gdx (ww g) ∧ t.2.1 < gdy (ww g) := by
  obtain ⟨_, _, h3, h4⟩ := tg_mem h
  refine Classical.byContradiction fun hn => h4 ?_
  have := gv_zero (G := ww g) hn
  rw [gv_ww, ← h3] at this
  exact this
theorem gev_nil (x y : Int) : gev [] x y = 0 := rfl
theorem gev_zero {G : List (List Int)} (h : gdx G = 0) (x y : Int) : gev G x y = 0 := by
  rw [gev_co (H := []) (fun i j => by rw [gdx_zero.1 h]; simp [gv]) x y, gev_nil]
theorem gev_gmuE (g h : List Row) (x y : Int) : gev (gmuE g h) x y = gev (ww g) x y * gev (ww h) x y := by
  unfold gmuE
  by_cases z1 : gdx (ww g) = 0
  · rw [if_pos (.inl z1), gev_zero z1, gev_nil, Int.zero_mul]
  by_cases z2 : gdx (ww h) = 0
  · rw [if_pos (.inr z2), gev_zero z2, gev_nil, Int.mul_zero]
  rw [if_neg fun e => e.elim z1 z2]
  have y1 := gdy_pos z1
  have y2 := gdy_pos z2
  have hv : ∀ i j, gv (gof (pairs (tg g g.length) (tg h h.length)) (gdx (ww g) + gdx (ww h) - 1) (gdy (ww g) + gdy (ww h) - 1)) i j = pairs (tg g g.length) (tg h h.length) i j := fun i j => by
    rw [gof_gv]
    split
    · rfl
    · rename_i hn
      have e : ∀ s, s ∈ tg g g.length → (esum (tg h h.length) fun t => con s t i j) = 0 := fun s hs => by
        have e2 : (esum (tg h h.length) fun t => con s t i j) = esum (tg h h.length) fun _ => 0 := esum_same fun t ht => by
          have h1 := tg_deg hs
          have h2 := tg_deg ht
          unfold con
          rw [if_neg fun e => hn ⟨by omega, by omega⟩]
        rw [e2, esum_zero]
      show 0 = esum _ _
      rw [esum_same e, esum_zero]
  obtain ⟨n1, b1, b2⟩ := grid_bound (gof (pairs (tg g g.length) (tg h h.length)) (gdx (ww g) + gdx (ww h) - 1) (gdy (ww g) + gdy (ww h) - 1))
  have hb := fun i => Nat.le_trans (b2 i) (Nat.le_add_right n1 (gdx (ww g) + gdx (ww h) + gdy (ww g) + gdy (ww h)))
  rw [gev_sum (n := n1 + (gdx (ww g) + gdx (ww h) + gdy (ww g) + gdy (ww h))) (by omega) hb]
  simp only [hv]
  rw [gev_tg, gev_tg]
  exact fev_pairs (fun s t hs ht => by
    have h1 := tg_deg hs
    have h2 := tg_deg ht
    omega) x y
where
  esum_zero {L : List Ent3} : (esum L fun _ => 0) = 0 := by
    induction L with
    | nil => rfl
    | cons t L ih =>
      have e : ∀ φ : Ent3 → Int, esum (t :: L) φ = φ t + esum L φ := fun φ => by simp [esum]
      rw [e, ih]; rfl
end Go.Proofs.YtjebljkoiaojaaaGreat
namespace Go.Proofs.YtjebljkoiaojaaaGreat
def dy (G : List (List Int)) : Nat := (gtu G).length - 1
def gel (G H : List (List Int)) : List Int :=
  if gtu G = [] ∨ gtu H = [] then [] else pdet (dy G + dy H) (syX (gtu G) (gtu H) (dy G) (dy H))
def led (G : List (List Int)) : List Int := (gtu G).getD (dy G) []
def gax (G : List (List Int)) (t : Int) : List Int := gpy (gtu G) t
def gaf (G : List (List Int)) (t : Int) (j : Nat) : Int := (gax G t).getD j 0
theorem gaf_eq (G : List (List Int)) (t : Int) (j : Nat) : gaf G t j = pev ((gtu G).getD j []) t := gpy_co _ _ _
theorem gel_nm (G H : List (List Int)) : Nm (gel G H) := by
  unfold gel; split
  · exact Nm.nil
  · exact pdet_nm _ _
theorem gel_none {G H : List (List Int)} (h : gtu G = [] ∨ gtu H = []) : gel G H = [] := if_pos h
theorem dy_len {G : List (List Int)} (h : gtu G ≠ []) : (gtu G).length = dy G + 1 := by
  have := List.length_pos_iff.2 h
  unfold dy; omega
theorem gax_ev (G : List (List Int)) (t y : Int) : pev (gax G t) y = gev G t y := by
  rw [← gev_gtu]; rfl
theorem led_dg {G : List (List Int)} (h : gtu G ≠ []) : 0 < dg (led G) := by
  have hn := gtu_gn G
  have h1 := gtr_last hn.1 (dy G) (dy_len h)
  have h2 : (gtu G).getD (dy G) [] ∈ gtu G := getD_mem [] (by rw [dy_len h]; exact Nat.lt_succ_self _)
  show 0 < dg ((gtu G).getD (dy G) [])
  rw [dg_nm (hn.2 _ h2)]
  exact List.length_pos_iff.2 h1
section
variable {C D G H K : List (List Int)}
end
theorem gdy_some {G : List (List Int)} {n : Nat} (h : gdy G = n + 1) : ∃ i, gv G i n ≠ 0 := by
  have key : ∀ m, gdyN G m = n + 1 → ∃ i, gv G i n ≠ 0 := fun m => by
    induction m with
    | zero => intro h; simp [gdyN] at h
    | succ m ih =>
      intro h
      have h' : max (gdyN G m) (dg (G.getD m [])) = n + 1 := h
      by_cases e : gdyN G m = n + 1
      · exact ih e
      · have hd : dg (G.getD m []) = n + 1 := by omega
        have := ld_ne (l := G.getD m []) (by omega)
        unfold ld at this
        rw [hd] at this
        exact ⟨m, this⟩
  exact key _ h
theorem gtu_len (G : List (List Int)) : (gtu G).length = gdy G := by
  have h1 : (gtu G).length ≤ gdy G := by
    unfold gtu gof
    exact Nat.le_trans (gtr_len _) (by simp)
  refine Nat.le_antisymm h1 (Nat.le_of_not_lt fun hlt => ?_)
  obtain ⟨n, hn⟩ : ∃ n, gdy G = n + 1 := ⟨gdy G - 1, by omega⟩
  obtain ⟨i, hi⟩ := gdy_some hn
  rw [← gtu_gv] at hi
  refine hi ?_
  unfold gv
  rw [getD_end (l := gtu G) (by omega)]; rfl
open Go.RowKit
theorem store_px {u : Value} {vs : Nat → Value} {R C : Nat} {x : Px} {os : List Own} {fs : List Fact} {K : Cont} (pos i j : Nat) (h : nthOwn os pos = some (famP vs R C x)) (hi : i < R) (hj : j < C) (w : List Int) (x' : Px)
    (hu : Reads os fs u (vd w)) (hx : ∀ a b, a < R → b < C → x' a b = if a = i ∧ b = j then w else x a b) (k : K undef (setOwn os pos (famP vs R C x')) fs) :
    StoreK Tryz.prog 23 (eptr (vs i) (j * 1)) u os fs K :=
  store_fam (d := vd w) pos i (famP vs R C x') h hi j hj rfl (by kernel_rfl) hu rfl rfl (fun a ha => ⟨rfl, rfl, fun b hb => by
    show vd (x' a b) = if a = i ∧ b = j then vd w else vd (x a b)
    rw [hx a b ha hb]; split <;> rfl⟩) k
theorem Seals.pxcong {vs vs' : Nat → Value} {R C : Nat} {x x' : Px} {os : List Own} {fs : List Fact} (pos : Nat) (h : nthOwn os pos = some (famP vs R C x)) (s : Nat → Nat) (hs : ∀ i, i < R → s i < R ∧ vs' i = vs (s i) ∧ ∀ k, k < C → x' i k = x (s i) k)
    (hinj : ∀ i j, i < R → j < R → s i = s j → i = j) : Seals os fs (setOwn os pos (famP vs' R C x')) fs :=
  Seals.re (o' := famP vs' R C x') pos h s rfl (fun i hi => ⟨(hs i hi).1, (hs i hi).2.1, rfl, fun k hk => by
    show vd _ = vd _
    rw [(hs i hi).2.2 k hk]⟩) hinj
def pmix (z y : Px) (i k : Nat) : Px := fun a b => if a < i ∨ (a = i ∧ b < k) then z a b else y a b
def nextX (A : Px) (x : Px) (s q : Nat) (rl cl : List Nat) (p : Nat → Nat) : Px := fun i k =>
  if i ≤ s ∨ k ≤ s then x (xc s q i) k else pdet (s + 2) (psu A (p (xc s q i) :: p q :: rl) (k :: s :: cl))
theorem pouter_ex {vs : Nat → Value} {s p i : Nat} (h : p ≠ s) : upd (upd (fun i => .one (vs i)) p (.one (vs s))) s (.one (vs p)) i = .one (vs (xc s p i)) := by
  unfold upd xc
  by_cases h1 : i = s
  · simp [h1]
  · by_cases h2 : i = p
    · subst h2; simp [h]
    · simp [h1, h2]
theorem xc_inj {s p i j : Nat} (h : xc s p i = xc s p j) : i = j := by rw [← xc_xc s p i, h, xc_xc]
theorem xc_same (s i : Nat) : xc s s i = i := by unfold xc; split <;> (try split) <;> omega
theorem PInv.quo {A : Px} {N : Nat} {x : Px} {last : List Int} {odd : Bool} {s : Nat} {rl cl : List Nat} {p : Nat → Nat} (h : PInv A N x last odd s rl cl p) {a b k : Nat} (ha : s ≤ a) (haN : a < N) (hb : s ≤ b) (hbN : b < N) (hs : s < N) (hk : s ≤ k) (hkN : k < N) {t : List Int} {e : Int}
    (hd : DivSpec (psub (pmul (x a s) (x b k)) (pmul (x b s) (x a k))) last t e) : t = pdet (s + 2) (psu A (p b :: p a :: rl) (k :: s :: cl)) := by
  have key := fun t => h.dv ha haN hb hbN hs hk hkN t
  have h1 := (hd.ok h.ne ⟨pdet (s + 2) (psu A (p b :: p a :: rl) (k :: s :: cl)), fun t => by rw [ev_psub, ev_pmul, ev_pmul, ← key]⟩).2
  exact hd.tn.ext (pdet_nm _ _) (cancel h.ne fun z => by rw [← h1 z, ev_psub, ev_pmul, ev_pmul]; exact (key z).symm)
def pdB (k l n : Nat) : Nat := 2 * pdk k n + 2 + (2 * (n * l + 1) + 2) * (pdk k n + 1)
structure PB (k l n : Nat) (A : Px) : Prop where
  z : ∀ i j, szR k (A i j)
  len : ∀ i j, (A i j).length ≤ l
  l30 : n * l + 1 ≤ 268435456
  big : pdB k l n ≤ 137438953472
theorem PB.minor {k l n m : Nat} {A : Px} (h : PB k l n A) (hm : m ≤ n) (h1 : 0 < n) (rl cl : List Nat) : szR (pdk k n) (pdet m (psu A rl cl)) ∧ (pdet m (psu A rl cl)).length ≤ n * l + 1 :=
  have h64 : l < 18446744073709551616 := by
    have := h.l30
    have : 1 * l ≤ n * l := Nat.mul_le_mul_right _ h1
    omega
  ⟨(pdet_sz (n := m) (A := psu A rl cl) (fun i j => h.z _ _) (fun i j => h.len _ _) h64).mono (pdk_mono k hm),
    Nat.le_trans (pdet_len (n := m) (A := psu A rl cl) fun i j => h.len _ _) (Nat.succ_le_succ (Nat.mul_le_mul_right _ hm))⟩
theorem syRow_b {F : List (List Int)} {k l : Nat} (h : ∀ i, szR k (F.getD i []) ∧ (F.getD i []).length ≤ l) (d a y : Nat) : szR k (syRow F d a y) ∧ (syRow F d a y).length ≤ l := by
  unfold syRow; split
  · exact h _
  · exact ⟨fun x hx => by simp at hx, Nat.zero_le _⟩
theorem syX_b {F E : List (List Int)} {k l : Nat} (h : ∀ i, szR k (F.getD i []) ∧ (F.getD i []).length ≤ l) (h' : ∀ i, szR k (E.getD i []) ∧ (E.getD i []).length ≤ l) (m n i y : Nat) : szR k (syX F E m n i y) ∧ (syX F E m n i y).length ≤ l := by
  unfold syX; split
  · exact syRow_b h _ _ _
  · exact syRow_b h' _ _ _
theorem syX_nm (G H : List (List Int)) (m n i y : Nat) : Nm (syX (gtu G) (gtu H) m n i y) := by
  have key : ∀ (G : List (List Int)) d a, Nm (syRow (gtu G) d a y) := fun G d a => by
    unfold syRow; split
    · by_cases hi : d - (y - a) < (gtu G).length
      · exact (gtu_gn G).2 _ (getD_mem [] hi)
      · rw [getD_end (l := gtu G) (by omega)]; exact Nm.nil
    · exact Nm.nil
  unfold syX; split
  · exact key _ _ _
  · exact key _ _ _
open Go.RowKit
structure Es where
  s : Nat
  odd : Bool
  last : List Int
  lv : Value
  x : Px
  vs : Nat → Value
theorem gEliminate_core (v w : Value) (g h : List Row) (k l n : Nat) (hg : Gf k g) (hh : Gf k h) (hk : k ≤ 137438953472) (hb : PB k l n (syX (gtu (ww g)) (gtu (ww h)) (dy (ww g)) (dy (ww h)))) (hn : dy (ww g) + dy (ww h) ≤ n) (h0 : 0 < n) :
    Meets Tryz.prog 32 [v, w] [(v, W g), (w, W h)] (fun r os fs => os = [] ∧ fs = [(r, vd (gel (ww g) (ww h)))]) := by
  have t1 := gTurn_meets v g ⟨hg.len, fun r hr => ⟨(hg.row r hr).1, (hg.row r hr).2.mono hk⟩⟩
  have t2 := gTurn_meets w h ⟨hh.len, fun r hr => ⟨(hh.row r hr).1, (hh.row r hr).2.mono hk⟩⟩
  have d1 : (gtu (ww g)).length ≤ 1048576 := by rw [gtu_len]; exact hg.dy
  have d2 : (gtu (ww h)).length ≤ 1048576 := by rw [gtu_len]; exact hh.dy
  have hgel : ∀ h1 : ¬ (gtu (ww g) = [] ∨ gtu (ww h) = []), gel (ww g) (ww h) = pdet (dy (ww g) + dy (ww h)) (syX (gtu (ww g)) (gtu (ww h)) (dy (ww g)) (dy (ww h))) := fun h1 => if_neg h1
  have hgn : gtu (ww g) = [] ∨ gtu (ww h) = [] → gel (ww g) (ww h) = [] := gel_none
  have hl1 := fun h1 : gtu (ww g) ≠ [] => dy_len h1
  have hl2 := fun h1 : gtu (ww h) ≠ [] => dy_len h1
  have hnm := syX_nm (ww g) (ww h) (dy (ww g)) (dy (ww h))
  change Meets _ _ _ _ (fun r os fs => os = [] ∧ fs = [(r, wd (gtu (ww g)))]) at t1
  change Meets _ _ _ _ (fun r os fs => os = [] ∧ fs = [(r, wd (gtu (ww h)))]) at t2
  generalize gel (ww g) (ww h) = E at *
  generalize dy (ww g) = m at *
  generalize dy (ww h) = m' at *
  generalize gtu (ww g) = A at *
  generalize gtu (ww h) = B at *
  have hbig := hb.big
  have hl30 := hb.l30
  have hE1 : 0 ≤ pdk k n := Nat.zero_le _
  refine meets_of_vc Tryz.func32 (by kernel_rfl) rfl (by kernel_rfl) (Nat.le_of_ble_eq_true rfl) ?_
  refine call_fn t1 (Seals.refl _ _) qS ?_
  rintro va _ _ ⟨rfl, rfl⟩
  refine call_fn t2 (Seals.refl _ _) qS ?_
  rintro vb _ _ ⟨rfl, rfl⟩
  refine len_wd qM ?_
  refine cmp_split _ rfl (fun hA => ?_) (fun hA => ?_)
  · rw [hgn (.inl (List.length_eq_zero_iff.1 (by omega)))]
    exact fin ⟨rfl, rfl⟩ (Seals.cons (Knw.nil 2 _) (Seals.nil _ _))
  refine len_wd qM ?_
  refine cmp_split _ rfl (fun hB => ?_) (fun hB => ?_)
  · rw [hgn (.inr (List.length_eq_zero_iff.1 (by omega)))]
    exact fin ⟨rfl, rfl⟩ (Seals.cons (Knw.nil 2 _) (Seals.nil _ _))
  have hA' : A ≠ [] := fun e => hA (by rw [e]; rfl)
  have hB' : B ≠ [] := fun e => hB (by rw [e]; rfl)
  have hE := hgel fun e => e.elim hA' hB'
  have la := hl1 hA'
  have lb := hl2 hB'
  refine call_fn (zof_meets 1 (by decide) (by decide)) (Seals.refl _ _) qS ?_
  rintro u0 _ _ ⟨rfl, rfl⟩
  refine lit_L (size := 2) (f := J) (z := z0) (e := 26) (cn 1) (by decide) (Reads.fact qM) rfl fun l0 => ?_
  refine len_wd qM ?_
  refine ar (n := ((m : Nat) : Int)) (by simp only [arZ, Option.some.injEq]; omega) qI ?_
  refine len_wd qM ?_
  refine ar (n := ((m' : Nat) : Int)) (by simp only [arZ, Option.some.injEq]; omega) qI ?_
  refine call_fn (gsylvester_meets va vb A B m m' la lb (by omega) (by omega)) (Seals.refl _ _) qS ?_
  rintro v' _ _ ⟨hv', vs0, hvs0, rfl, rfl⟩
  refine len_own 1 rfl hv' fun _ => ?_
  generalize hN : m + m' = N at *
  generalize syX A B m m' = S at *
  have hminor := fun (q : Nat) (hq : q ≤ N) rl cl => hb.minor (m := q) (by omega) h0 rl cl
  refine loop_rule (X := Es) (fun x => ([(7, x.lv), (8, v'), (9, .bool x.odd), (39, .int .i64 (N : Nat)), (40, .int .i64 (x.s : Nat))], [famP x.vs N N x.x, outer v' N x.vs], [(x.lv, vd x.last)]))
    (fun x => (∀ i, i < N → isSl (x.vs i)) ∧ ∃ rl cl p, PInv S N x.x x.last x.odd x.s rl cl p) (fun x => N - x.s) rfl ?_ ?_
  · exact again ⟨0, false, [1], l0, S, vs0⟩ ⟨hvs0, [], [], fun i => i, PInv.start fun i k _ _ => hnm i k⟩ trivial qF (Seals.sub qS)
  · rintro ⟨s, odd, last, lv, x, vs⟩ ⟨hvs, rl, cl, p, hP⟩
    simp only at hvs hP ⊢
    have hsle := hP.le
    have hlast : szR (pdk k n) last ∧ last.length ≤ n * l + 1 := by rw [hP.lst]; exact hminor s hsle rl cl
    refine cmp_split _ rfl (fun hs => ?_) (fun hs => ?_)
    rotate_left
    · have hsN : s = N := by omega
      subst hsN
      have hdone := hP.done
      rw [hE]
      cases odd with
      | true =>
        refine call_fn (zof_meets (-1) (by decide) (by decide)) (Seals.refl _ _) qS ?_
        rintro c1 _ _ ⟨rfl, rfl⟩
        refine call_fn (pTimesT lv c1 last (-1) (pdk k n) 1 hlast.1 (sz_one _ (by decide)) (by unfold pdB at hbig; omega) (by omega)) (Seals.refl _ _) qS ?_
        rintro r _ _ ⟨rfl, rfl⟩
        refine fin ⟨rfl, ?_⟩ (Seals.trans (Seals.drop 0 _ _) (Seals.trans (Seals.drop 0 _ _) (Seals.sub (fs' := [(r, vd (ptim (-1) last))]) qS)))
        rw [show ptim (-1) last = pdet s S from (ptim_nm _ _).ext (pdet_nm _ _) fun t => by rw [ev_ptim, hdone t, if_pos rfl]; omega]
        rfl
      | false =>
        refine call_fn (pNormT lv last (hlast.1.mono (by unfold pdB at hbig; omega)) (by omega)) (Seals.refl _ _) qS ?_
        rintro r _ _ ⟨rfl, rfl⟩
        refine fin ⟨rfl, ?_⟩ (Seals.trans (Seals.drop 0 _ _) (Seals.trans (Seals.drop 0 _ _) (Seals.sub (fs' := [(r, vd (nrm last))]) qS)))
        rw [show nrm last = pdet s S from (Nm.nrm _).ext (pdet_nm _ _) fun t => by rw [ev_nrm, hdone t]; rfl]
        rfl
    have hsN : s < N := by omega
    refine loop_rule (X := Nat) (fun q => ([(7, lv), (8, v'), (9, .bool odd), (10, .int .i64 (s : Nat)), (11, .int .i64 (q : Nat)), (39, .int .i64 (N : Nat)), (40, .int .i64 (s : Nat))], [famP vs N N x, outer v' N vs], [(lv, vd last)]))
      (fun q => s ≤ q ∧ q ≤ N ∧ ∀ i, s ≤ i → i < q → x i s = []) (fun q => N - q) rfl ?_ ?_
    · exact again s ⟨Nat.le_refl _, hsle, fun i h1 h2 => by omega⟩ trivial qF (Seals.sub qS)
    · rintro q ⟨hq1, hq2, hqz⟩
      refine len_own 1 rfl hv' fun _ => ?_
      refine cmp_split _ rfl (fun hq => ?_) (fun hq => ?_)
      rotate_left
      · have hqN : q = N := by omega
        subst hqN
        refine len_own 1 rfl hv' fun _ => ?_
        refine cmp_true rfl rfl ?_
        rw [hE, hP.none hsN hqz]
        exact fin ⟨rfl, rfl⟩ (Seals.trans (Seals.drop 0 _ _) (Seals.trans (Seals.drop 0 _ _) (Seals.cons (Knw.nil 2 _) (Seals.nil _ _))))
      have hqN : q < N := by omega
      refine index_elem 1 rfl hv' q rfl (by omega) ?_
      refine load_one_elem 1 rfl q (by omega) (u := vs q) rfl ?_
      refine index_famP 0 q rfl (by omega) (hvs q (by omega)) s rfl (by omega) ?_
      refine load_famP 0 q s rfl (by omega) (by omega) (x q s) rfl fun u1 => ?_
      refine len_vd qM ?_
      refine cmp_split _ rfl (fun hz => ?_) (fun hz => ?_)
      · refine ar rfl qI ?_
        refine again (q + 1) ⟨by omega, by omega, fun i h1 h2 => ?_⟩ (by simp only; omega) qF (Seals.sub qS)
        by_cases e : i = q
        · rw [e]; exact List.length_eq_zero_iff.1 (by omega)
        · exact hqz i h1 (by omega)
      have hz0 : x q s ≠ [] := fun e => hz (by rw [e]; rfl)
      refine len_own 1 rfl hv' fun _ => ?_
      refine cmp_false rfl (by omega) ?_
      have hnext0 := hP.step hq1 hqN hz0 (z := nextX S x s q rl cl p) fun i k' h1 h2 h3 h4 => by unfold nextX; rw [if_neg (by omega)]
      have hquo0 : ∀ i k', s + 1 ≤ i → i < N → s + 1 ≤ k' → k' < N → ∀ {t : List Int} {e : Int}, DivSpec (psub (pmul (x (xc s q s) s) (x (xc s q i) k')) (pmul (x (xc s q i) s) (x (xc s q s) k'))) last t e → t = nextX S x s q rl cl p i k' := fun i k' h1 h2 h3 h4 t e hd => by
        unfold nextX; rw [if_neg (by omega)]
        rw [xc_at] at hd
        exact hP.quo hq1 hqN (xc_ge hq1 (by omega)) (xc_lt hsN hqN h2) hsN (by omega) h4 hd
      have hzy0 : ∀ a b, a ≤ s ∨ b ≤ s → nextX S x s q rl cl p a b = x (xc s q a) b := fun a b e => by unfold nextX; rw [if_pos e]
      have hys0 : ∀ i j, i < N → j < N → s ≤ i → s ≤ j → szR (pdk k n) (x (xc s q i) j) ∧ (x (xc s q i) j).length ≤ n * l + 1 := fun i j hi hj h1 h2 => by
        rw [hP.val _ j (xc_ge hq1 h1) (xc_lt hsN hqN hi) h2 hj]; exact hminor (s + 1) (by omega) _ _
      have hdiv : ∀ m, m ≤ 2 * (n * l + 1) → (pdk k n + pdk k n + 1 + 1) + (m + 1) * (pdk k n + 1) ≤ 137438953472 := fun m hm => by
        have : (m + 1) * (pdk k n + 1) ≤ (2 * (n * l + 1) + 2) * (pdk k n + 1) := Nat.mul_le_mul_right _ (by omega)
        unfold pdB at hbig
        omega
      have hbig2 : 2 * pdk k n + 2 ≤ 137438953472 := by unfold pdB at hbig; omega
      have hyx : ∀ i j, (fun a b => x (xc s q a) b : Px) i j = x (xc s q i) j := fun _ _ => rfl
      have hnext : ∀ od, (if q = s then odd else !odd) = od → (∀ i, i < N → isSl (vs (xc s q i))) ∧ ∃ rl' cl' p', PInv S N (nextX S x s q rl cl p) (x (xc s q s) s) od (s + 1) rl' cl' p' := fun od e => by
        rw [xc_at, ← e]
        exact ⟨fun i hi => hvs _ (xc_lt hsN hqN hi), _, _, _, hnext0⟩
      obtain ⟨y, hy⟩ : ∃ y : Px, ∀ a b, y a b = x (xc s q a) b := ⟨_, fun _ _ => rfl⟩
      obtain ⟨vs', hv's⟩ : ∃ vs' : Nat → Value, ∀ i, vs' i = vs (xc s q i) := ⟨_, fun _ => rfl⟩
      have hvs' : ∀ i, i < N → isSl (vs' i) := fun i hi => by rw [hv's]; exact hvs _ (xc_lt hsN hqN hi)
      simp only [← hy] at hquo0 hzy0 hys0 hnext
      generalize hz' : nextX S x s q rl cl p = z at *
      have hnext : ∀ od, (if q = s then odd else !odd) = od → (∀ i, i < N → isSl (vs' i)) ∧ ∃ rl' cl' p', PInv S N z (y s s) od (s + 1) rl' cl' p' := fun od e => ⟨hvs', (hnext od e).2⟩
      have hzy := hzy0
      have hys := hys0
      have hquo := hquo0
      have hpx : ∀ i, i < N → xc s q i < N ∧ vs' i = vs (xc s q i) ∧ ∀ j, j < N → pmix z y (s + 1) 0 i j = x (xc s q i) j := fun i hi => ⟨xc_lt hsN hqN hi, hv's i, fun j _ => by
        unfold pmix
        split
        · rw [hzy i j (by omega), hy]
        · rw [hy]⟩
      clear hnext0 hqz hz0 hz hminor hzy0 hys0 hquo0 hz'
      refine cmp_split _ rfl (fun hne => ?_) (fun hne => ?_)
      · have hqs : q ≠ s := by omega
        have hnext := hnext (!odd) (if_neg hqs)
        refine draw_rule [0, 1, 2, 3, 4, 5, 6, 7, 8, 9, 10, 11, 12, 13, 14, 15] [0, 1, 4, 5, 6, 7, 8, 9, 10, 11, 12, 13, 2, 3, 14, 15] (by kernel_rfl) (by kernel_rfl) ?_
        refine index_elem 1 rfl hv' s rfl (by omega) ?_
        refine load_one_elem 1 rfl s (by omega) (u := vs s) rfl ?_
        refine index_elem 1 rfl hv' q rfl (by omega) ?_
        refine load_one_elem 1 rfl q (by omega) (u := vs q) rfl ?_
        refine index_elem 1 rfl hv' q rfl (by omega) ?_
        refine store_elem (d := .one (vs s)) 1 rfl q (by omega) rfl (by kernel_rfl) (Reads.one (hvs s (by omega)).one) ?_
        refine index_elem 1 rfl hv' s rfl (by omega) ?_
        refine store_elem (d := .one (vs q)) 1 rfl s (by omega) rfl (by kernel_rfl) (Reads.one (hvs q (by omega)).one) ?_
        refine ar rfl qI ?_
        refine loop_rule (X := Nat) (fun i => ([(7, lv), (8, v'), (9, .bool (!odd)), (10, .int .i64 (s : Nat)), (12, .int .i64 (i : Nat)), (39, .int .i64 (N : Nat)), (40, .int .i64 (s : Nat))], [famP vs' N N (pmix z y i 0), outer v' N vs'], [(lv, vd last)]))
          (fun i => s + 1 ≤ i ∧ i ≤ N) (fun i => N - i) rfl ?_ ?_
        · exact again (s + 1) ⟨Nat.le_refl _, by omega⟩ trivial qF (Seals.trans (Seals.own_cong (os := [_, _]) 1 (fun i => .one (vs' i)) rfl rfl fun i _ => by rw [pouter_ex hqs, hv's]) (Seals.trans (Seals.pxcong (os := [_, _]) 0 rfl (xc s q) hpx fun _ _ _ _ e => xc_inj e) (Seals.sub qS)))
        · rintro i ⟨hi1, hi2⟩
          refine len_own 1 rfl hv' fun _ => ?_
          refine cmp_split _ rfl (fun hi => ?_) (fun hi => ?_)
          · have hiR : i < N := by omega
            refine ar rfl qI ?_
            refine loop_rule (X := Nat) (fun k' => ([(7, lv), (8, v'), (9, .bool (!odd)), (10, .int .i64 (s : Nat)), (12, .int .i64 (i : Nat)), (13, .int .i64 (k' : Nat)), (39, .int .i64 (N : Nat)), (40, .int .i64 (s : Nat))], [famP vs' N N (pmix z y i k'), outer v' N vs'], [(lv, vd last)]))
              (fun k' => s + 1 ≤ k' ∧ k' ≤ N) (fun k' => N - k') rfl ?_ ?_
            · refine again (s + 1) ⟨Nat.le_refl _, by omega⟩ trivial qF (Seals.trans (Seals.pxcong (os := [_, _]) (x' := pmix z y i (s + 1)) 0 rfl (fun i => i) (fun a ha => ⟨ha, rfl, fun b hb => ?_⟩) fun _ _ _ _ e => e) (Seals.sub qS))
              unfold pmix
              by_cases e : a < i ∨ (a = i ∧ b < 0)
              · rw [if_pos e, if_pos (by omega)]
              · rw [if_neg e]
                split
                · exact hzy _ _ (by omega)
                · rfl
            · rintro k' ⟨hk1, hk2⟩
              refine len_own 1 rfl hv' fun _ => ?_
              refine cmp_split _ rfl (fun hc2 => ?_) (fun hc2 => ?_)
              · have hkC : k' < N := by omega
                have y1 := hys s s hsN hsN (Nat.le_refl _) (Nat.le_refl _)
                have y2 := hys i k' hiR hkC (by omega) (by omega)
                have y3 := hys i s hiR hsN (by omega) (Nat.le_refl _)
                have y4 := hys s k' hsN hkC (Nat.le_refl _) (by omega)
                have m1 := y1.1.pmul y2.1 (by omega)
                have m2 := y3.1.pmul y4.1 (by omega)
                have l1 := pmul_len (y s s) (y i k')
                have l2 := pmul_len (y i s) (y s k')
                have l3 := psub_len (pmul (y s s) (y i k')) (pmul (y i s) (y s k'))
                refine draw_rule [0, 1, 2, 3, 4, 5, 6, 7, 8, 9, 10, 11, 12, 13, 15, 16, 17, 18, 19, 20, 21, 22, 23, 24, 25, 26, 27, 28, 14, 29, 30, 31] [0, 1, 2, 3, 4, 5, 6, 7, 8, 9, 10, 11, 12, 13, 14, 15, 16, 17, 18, 19, 20, 21, 22, 23, 24, 25, 26, 27, 28, 29, 30, 31] (by kernel_rfl) (by kernel_rfl) ?_
                refine index_elem 1 rfl hv' s rfl (by omega) ?_
                refine load_one_elem 1 rfl s (by omega) (u := vs' s) rfl ?_
                refine index_famP 0 s rfl (by omega) (hvs' s (by omega)) s rfl (by omega) ?_
                refine load_famP 0 s s rfl (by omega) (by omega) (y s s) ?_ fun u1 => ?_
                · unfold pmix; rw [if_pos (by omega), hzy _ _ (by omega)]
                refine index_elem 1 rfl hv' i rfl (by omega) ?_
                refine load_one_elem 1 rfl i (by omega) (u := vs' i) rfl ?_
                refine index_famP 0 i rfl (by omega) (hvs' i (by omega)) k' rfl (by omega) ?_
                refine load_famP 0 i k' rfl (by omega) (by omega) (y i k') ?_ fun u2 => ?_
                · unfold pmix; rw [if_neg (by omega)]
                refine index_elem 1 rfl hv' i rfl (by omega) ?_
                refine load_one_elem 1 rfl i (by omega) (u := vs' i) rfl ?_
                refine index_famP 0 i rfl (by omega) (hvs' i (by omega)) s rfl (by omega) ?_
                refine load_famP 0 i s rfl (by omega) (by omega) (y i s) ?_ fun u3 => ?_
                · unfold pmix; rw [if_pos (by omega), hzy _ _ (by omega)]
                refine index_elem 1 rfl hv' s rfl (by omega) ?_
                refine load_one_elem 1 rfl s (by omega) (u := vs' s) rfl ?_
                refine index_famP 0 s rfl (by omega) (hvs' s (by omega)) k' rfl (by omega) ?_
                refine load_famP 0 s k' rfl (by omega) (by omega) (y s k') ?_ fun u4 => ?_
                · unfold pmix; rw [if_pos (by omega), hzy _ _ (by omega)]
                refine call_fn (pMulT u1 u2 _ _ _ _ y1.1 y2.1 (by omega) (by omega) (by omega)) (Seals.refl _ _) qS ?_
                rintro w1 _ _ ⟨rfl, rfl⟩
                refine call_fn (pMulT u3 u4 _ _ _ _ y3.1 y4.1 (by omega) (by omega) (by omega)) (Seals.refl _ _) qS ?_
                rintro w2 _ _ ⟨rfl, rfl⟩
                refine call_fn (pSubT w1 w2 _ _ _ m1 m2 (by omega) (by omega) (by omega)) (Seals.refl _ _) qS ?_
                rintro w3 _ _ ⟨rfl, rfl⟩
                refine draw_rule [0, 1, 2, 3, 4, 5, 6, 7, 8, 9, 10, 11, 12] [0, 1, 2, 3, 4, 5, 6, 7, 8, 9, 11, 12, 10] (by kernel_rfl) (by kernel_rfl) ?_
                refine index_elem 1 rfl hv' i rfl (by omega) ?_
                refine load_one_elem 1 rfl i (by omega) (u := vs' i) rfl ?_
                refine call_fn (pDivideT w3 lv _ _ _ _ (m1.psub m2) hlast.1 (hdiv _ (by omega)) (by omega) (by omega)) (Seals.refl _ _) qS ?_
                rintro _ _ _ ⟨rfl, w4, t, e, rfl, hds, _, rfl⟩
                obtain rfl := hquo i k' hi1 hiR hk1 hkC hds
                refine index_famP 0 i rfl (by omega) (hvs' i (by omega)) k' rfl (by omega) ?_
                refine store_px 0 i k' rfl (by omega) (by omega) _ (pmix z y i (k' + 1)) (Reads.fact qM) (fun a b ha hb => ?_) ?_
                · unfold pmix
                  by_cases e : a = i ∧ b = k'
                  · rw [if_pos e, e.1, e.2, if_pos (by omega)]
                  · rw [if_neg e]
                    by_cases e1 : a < i ∨ a = i ∧ b < k'
                    · rw [if_pos e1, if_pos (by omega)]
                    · rw [if_neg e1, if_neg (by omega)]
                refine ar rfl qI ?_
                exact again (k' + 1) ⟨by omega, by omega⟩ (by simp only; omega) qF (Seals.sub qS)
              · have hkC : k' = N := by omega
                subst hkC
                refine ar rfl qI ?_
                refine again (i + 1) ⟨by omega, by omega⟩ (by simp only; omega) qF (Seals.trans (Seals.pxcong (os := [_, _]) (x' := pmix z y (i + 1) 0) 0 rfl (fun i => i) (fun a ha => ⟨ha, rfl, fun b hb => ?_⟩) fun _ _ _ _ e => e) (Seals.sub qS))
                unfold pmix
                by_cases e : a < i ∨ a = i ∧ b < k'
                · rw [if_pos e, if_pos (by omega)]
                · rw [if_neg e, if_neg (by omega)]
          · have hiR : i = N := by omega
            subst hiR
            refine index_elem 1 rfl hv' s rfl (by omega) ?_
            refine load_one_elem 1 rfl s (by omega) (u := vs' s) rfl ?_
            refine index_famP 0 s rfl (by omega) (hvs' s (by omega)) s rfl (by omega) ?_
            refine load_famP 0 s s rfl (by omega) (by omega) (y s s) ?_ fun u1 => ?_
            · unfold pmix; rw [if_pos (by omega), hzy _ _ (by omega)]
            refine ar rfl qI ?_
            refine again ⟨s + 1, (!odd), y s s, u1, z, vs'⟩ hnext (by simp only; omega) qF (Seals.trans (Seals.pxcong (os := [_, _]) (x' := z) 0 rfl (fun i => i) (fun a ha => ⟨ha, rfl, fun b hb => ?_⟩) fun _ _ _ _ e => e) (Seals.sub qS))
            unfold pmix; rw [if_pos (by omega)]
      · have hqs : q = s := by omega
        have hnext := hnext odd (if_pos hqs)
        refine ar rfl qI ?_
        refine loop_rule (X := Nat) (fun i => ([(7, lv), (8, v'), (9, .bool (odd)), (10, .int .i64 (s : Nat)), (12, .int .i64 (i : Nat)), (39, .int .i64 (N : Nat)), (40, .int .i64 (s : Nat))], [famP vs' N N (pmix z y i 0), outer v' N vs'], [(lv, vd last)]))
          (fun i => s + 1 ≤ i ∧ i ≤ N) (fun i => N - i) rfl ?_ ?_
        · exact again (s + 1) ⟨Nat.le_refl _, by omega⟩ trivial qF (Seals.trans (Seals.own_cong (os := [_, _]) 1 (fun i => .one (vs' i)) rfl rfl fun i _ => by rw [hv's, hqs, xc_same]) (Seals.trans (Seals.pxcong (os := [_, _]) 0 rfl (xc s q) hpx fun _ _ _ _ e => xc_inj e) (Seals.sub qS)))
        · rintro i ⟨hi1, hi2⟩
          refine len_own 1 rfl hv' fun _ => ?_
          refine cmp_split _ rfl (fun hi => ?_) (fun hi => ?_)
          · have hiR : i < N := by omega
            refine ar rfl qI ?_
            refine loop_rule (X := Nat) (fun k' => ([(7, lv), (8, v'), (9, .bool (odd)), (10, .int .i64 (s : Nat)), (12, .int .i64 (i : Nat)), (13, .int .i64 (k' : Nat)), (39, .int .i64 (N : Nat)), (40, .int .i64 (s : Nat))], [famP vs' N N (pmix z y i k'), outer v' N vs'], [(lv, vd last)]))
              (fun k' => s + 1 ≤ k' ∧ k' ≤ N) (fun k' => N - k') rfl ?_ ?_
            · refine again (s + 1) ⟨Nat.le_refl _, by omega⟩ trivial qF (Seals.trans (Seals.pxcong (os := [_, _]) (x' := pmix z y i (s + 1)) 0 rfl (fun i => i) (fun a ha => ⟨ha, rfl, fun b hb => ?_⟩) fun _ _ _ _ e => e) (Seals.sub qS))
              unfold pmix
              by_cases e : a < i ∨ (a = i ∧ b < 0)
              · rw [if_pos e, if_pos (by omega)]
              · rw [if_neg e]
                split
                · exact hzy _ _ (by omega)
                · rfl
            · rintro k' ⟨hk1, hk2⟩
              refine len_own 1 rfl hv' fun _ => ?_
              refine cmp_split _ rfl (fun hc2 => ?_) (fun hc2 => ?_)
              · have hkC : k' < N := by omega
                have y1 := hys s s hsN hsN (Nat.le_refl _) (Nat.le_refl _)
                have y2 := hys i k' hiR hkC (by omega) (by omega)
                have y3 := hys i s hiR hsN (by omega) (Nat.le_refl _)
                have y4 := hys s k' hsN hkC (Nat.le_refl _) (by omega)
                have m1 := y1.1.pmul y2.1 (by omega)
                have m2 := y3.1.pmul y4.1 (by omega)
                have l1 := pmul_len (y s s) (y i k')
                have l2 := pmul_len (y i s) (y s k')
                have l3 := psub_len (pmul (y s s) (y i k')) (pmul (y i s) (y s k'))
                refine draw_rule [0, 1, 2, 3, 4, 5, 6, 7, 8, 9, 10, 11, 12, 13, 15, 16, 17, 18, 19, 20, 21, 22, 23, 24, 25, 26, 27, 28, 14, 29, 30, 31] [0, 1, 2, 3, 4, 5, 6, 7, 8, 9, 10, 11, 12, 13, 14, 15, 16, 17, 18, 19, 20, 21, 22, 23, 24, 25, 26, 27, 28, 29, 30, 31] (by kernel_rfl) (by kernel_rfl) ?_
                refine index_elem 1 rfl hv' s rfl (by omega) ?_
                refine load_one_elem 1 rfl s (by omega) (u := vs' s) rfl ?_
                refine index_famP 0 s rfl (by omega) (hvs' s (by omega)) s rfl (by omega) ?_
                refine load_famP 0 s s rfl (by omega) (by omega) (y s s) ?_ fun u1 => ?_
                · unfold pmix; rw [if_pos (by omega), hzy _ _ (by omega)]
                refine index_elem 1 rfl hv' i rfl (by omega) ?_
                refine load_one_elem 1 rfl i (by omega) (u := vs' i) rfl ?_
                refine index_famP 0 i rfl (by omega) (hvs' i (by omega)) k' rfl (by omega) ?_
                refine load_famP 0 i k' rfl (by omega) (by omega) (y i k') ?_ fun u2 => ?_
                · unfold pmix; rw [if_neg (by omega)]
                refine index_elem 1 rfl hv' i rfl (by omega) ?_
                refine load_one_elem 1 rfl i (by omega) (u := vs' i) rfl ?_
                refine index_famP 0 i rfl (by omega) (hvs' i (by omega)) s rfl (by omega) ?_
                refine load_famP 0 i s rfl (by omega) (by omega) (y i s) ?_ fun u3 => ?_
                · unfold pmix; rw [if_pos (by omega), hzy _ _ (by omega)]
                refine index_elem 1 rfl hv' s rfl (by omega) ?_
                refine load_one_elem 1 rfl s (by omega) (u := vs' s) rfl ?_
                refine index_famP 0 s rfl (by omega) (hvs' s (by omega)) k' rfl (by omega) ?_
                refine load_famP 0 s k' rfl (by omega) (by omega) (y s k') ?_ fun u4 => ?_
                · unfold pmix; rw [if_pos (by omega), hzy _ _ (by omega)]
                refine call_fn (pMulT u1 u2 _ _ _ _ y1.1 y2.1 (by omega) (by omega) (by omega)) (Seals.refl _ _) qS ?_
                rintro w1 _ _ ⟨rfl, rfl⟩
                refine call_fn (pMulT u3 u4 _ _ _ _ y3.1 y4.1 (by omega) (by omega) (by omega)) (Seals.refl _ _) qS ?_
                rintro w2 _ _ ⟨rfl, rfl⟩
                refine call_fn (pSubT w1 w2 _ _ _ m1 m2 (by omega) (by omega) (by omega)) (Seals.refl _ _) qS ?_
                rintro w3 _ _ ⟨rfl, rfl⟩
                refine draw_rule [0, 1, 2, 3, 4, 5, 6, 7, 8, 9, 10, 11, 12] [0, 1, 2, 3, 4, 5, 6, 7, 8, 9, 11, 12, 10] (by kernel_rfl) (by kernel_rfl) ?_
                refine index_elem 1 rfl hv' i rfl (by omega) ?_
                refine load_one_elem 1 rfl i (by omega) (u := vs' i) rfl ?_
                refine call_fn (pDivideT w3 lv _ _ _ _ (m1.psub m2) hlast.1 (hdiv _ (by omega)) (by omega) (by omega)) (Seals.refl _ _) qS ?_
                rintro _ _ _ ⟨rfl, w4, t, e, rfl, hds, _, rfl⟩
                obtain rfl := hquo i k' hi1 hiR hk1 hkC hds
                refine index_famP 0 i rfl (by omega) (hvs' i (by omega)) k' rfl (by omega) ?_
                refine store_px 0 i k' rfl (by omega) (by omega) _ (pmix z y i (k' + 1)) (Reads.fact qM) (fun a b ha hb => ?_) ?_
                · unfold pmix
                  by_cases e : a = i ∧ b = k'
                  · rw [if_pos e, e.1, e.2, if_pos (by omega)]
                  · rw [if_neg e]
                    by_cases e1 : a < i ∨ a = i ∧ b < k'
                    · rw [if_pos e1, if_pos (by omega)]
                    · rw [if_neg e1, if_neg (by omega)]
                refine ar rfl qI ?_
                exact again (k' + 1) ⟨by omega, by omega⟩ (by simp only; omega) qF (Seals.sub qS)
              · have hkC : k' = N := by omega
                subst hkC
                refine ar rfl qI ?_
                refine again (i + 1) ⟨by omega, by omega⟩ (by simp only; omega) qF (Seals.trans (Seals.pxcong (os := [_, _]) (x' := pmix z y (i + 1) 0) 0 rfl (fun i => i) (fun a ha => ⟨ha, rfl, fun b hb => ?_⟩) fun _ _ _ _ e => e) (Seals.sub qS))
                unfold pmix
                by_cases e : a < i ∨ a = i ∧ b < k'
                · rw [if_pos e, if_pos (by omega)]
                · rw [if_neg e, if_neg (by omega)]
          · have hiR : i = N := by omega
            subst hiR
            refine index_elem 1 rfl hv' s rfl (by omega) ?_
            refine load_one_elem 1 rfl s (by omega) (u := vs' s) rfl ?_
            refine index_famP 0 s rfl (by omega) (hvs' s (by omega)) s rfl (by omega) ?_
            refine load_famP 0 s s rfl (by omega) (by omega) (y s s) ?_ fun u1 => ?_
            · unfold pmix; rw [if_pos (by omega), hzy _ _ (by omega)]
            refine ar rfl qI ?_
            refine again ⟨s + 1, (odd), y s s, u1, z, vs'⟩ hnext (by simp only; omega) qF (Seals.trans (Seals.pxcong (os := [_, _]) (x' := z) 0 rfl (fun i => i) (fun a ha => ⟨ha, rfl, fun b hb => ?_⟩) fun _ _ _ _ e => e) (Seals.sub qS))
            unfold pmix; rw [if_pos (by omega)]
open Go.RowKit
open Go.RowKit
abbrev toW (G : List (List Int)) : List Row := G.map (·.map cn)
theorem ww_toW (G : List (List Int)) : ww (toW G) = G := by
  unfold ww
  rw [List.map_map]
  conv => rhs; rw [← List.map_id G]
  exact List.map_congr_left fun r _ => vv_cn r
theorem gmuE_gn (g h : List Row) : Gn (gmuE g h) := by
  unfold gmuE; split
  · exact ⟨rfl, fun r hr => by simp at hr⟩
  · exact gof_gn _ _ _
def gmu (G H : List (List Int)) : List (List Int) := gmuE (toW G) (toW H)
theorem gmu_gn (G H : List (List Int)) : Gn (gmu G H) := gmuE_gn _ _
theorem gev_gmu (G H : List (List Int)) (x y : Int) : gev (gmu G H) x y = gev G x y * gev H x y := by
  rw [gmu, gev_gmuE, ww_toW, ww_toW]
theorem gmuE_eq (g h : List Row) : gmuE g h = gmu (ww g) (ww h) := (gmuE_gn _ _).ev_ext (gmu_gn _ _) fun x y => by rw [gev_gmuE, gev_gmu]
theorem gev_gn (G : List (List Int)) (x y : Int) : gev (gn G) x y = gev G x y := gev_co (gn_gv G) x y
structure Lg (A : List Row) (G : List (List Int)) (k n : Nat) : Prop where
  val : ww A = G
  len : A.length ≤ n
  row : ∀ r, r ∈ A → r.length ≤ n ∧ Fit k r
theorem Lg.told {G : List (List Int)} {k n : Nat} (h : G.length ≤ n) (hr : ∀ r, r ∈ G → r.length ≤ n ∧ szR k r) : Lg (toW G) G k n :=
  ⟨ww_toW G, by rw [List.length_map]; exact h, fun r hr' => by
    obtain ⟨l, hl, rfl⟩ := List.mem_map.1 hr'
    exact ⟨by rw [List.length_map]; exact (hr l hl).1, (hr l hl).2.fit⟩⟩
section
variable {A B : List Row} {G H : List (List Int)} {k j n n' : Nat}
theorem Lg.mono (h : Lg A G k n) (hk : k ≤ j) (hn : n ≤ n') : Lg A G j n' := ⟨h.val, Nat.le_trans h.len hn, fun r hr => ⟨Nat.le_trans (h.row r hr).1 hn, (h.row r hr).2.mono hk⟩⟩
theorem Lg.gf (h : Lg A G k n) (hk : k ≤ j) (hn : n ≤ 1048576) : Gf j A := ⟨Nat.le_trans h.len hn, fun r hr => ⟨Nat.le_trans (h.row r hr).1 hn, (h.row r hr).2.mono hk⟩⟩
theorem Lg.gs (h : Lg A G k n) (hn : n ≤ 1024) : Gs k A := ⟨Nat.le_trans h.len hn, fun r hr => ⟨Nat.le_trans (h.row r hr).1 hn, (h.row r hr).2⟩⟩
theorem Lg.ll (h : Lg A G k n) : G.length ≤ n := by rw [← h.val, ww_len]; exact h.len
theorem Lg.g (h : Lg A G k n) (i : Nat) : szR k (G.getD i []) ∧ (G.getD i []).length ≤ n := by
  rw [← h.val, ww_get]
  by_cases hi : i < A.length
  · have := h.row _ (getD_mem [] hi)
    exact ⟨this.2.szR, by rw [vv_len]; exact this.1⟩
  · rw [getD_end (l := A) (by omega)]
    exact ⟨fun x hx => by simp [vv] at hx, Nat.zero_le _⟩
theorem Lg.gv (h : Lg A G k n) (i j : Nat) : sz (Go.Proofs.YtjebljkoiaojaaaGreat.gv G i j) k := (h.g i).1.get j
theorem Lg.dx (h : Lg A G k n) : gdx G ≤ n := Nat.le_trans (gdxN_le _ _) h.ll
theorem Lg.dy (h : Lg A G k n) : gdy G ≤ n := gdyN_le (fun i => Nat.le_trans (dg_le_len _) (h.g i).2) _
theorem Lg.of_gtr {E : List (List Int)} (h : E.length ≤ n) (hr : ∀ r, r ∈ E → r.length ≤ n ∧ szR k r) : Lg (toW (gtr E)) (gtr E) k n :=
  Lg.told (Nat.le_trans (gtr_len _) h) fun r hr' => hr r (gtr_mem hr')
theorem Lg.gof {F : Nat → Nat → Int} {a c : Nat} (hF : ∀ i j, sz (F i j) k) (ha : a ≤ n) (hc : c ≤ n) : Lg (toW (gof F a c)) (Go.Proofs.YtjebljkoiaojaaaGreat.gof F a c) k n :=
  Lg.of_gtr (by simpa using ha) fun r hr => by
    obtain ⟨i, _, rfl⟩ := List.mem_map.1 hr
    exact ⟨Nat.le_trans (nrm_length_le _) (by rw [lst_len]; exact hc), szR.nrm (szR.lst fun j _ => hF i j)⟩
theorem Lg.zr {f : List Int → List Int → List Int} (h : Lg A G k n) (h' : Lg B H k n) (hf : ∀ l m, szR k l → szR k m → l.length ≤ n → m.length ≤ n → szR j (f l m) ∧ (f l m).length ≤ n) :
    Lg (toW (Go.Proofs.YtjebljkoiaojaaaGreat.gn (zrow f G H (max G.length H.length)))) (Go.Proofs.YtjebljkoiaojaaaGreat.gn (zrow f G H (max G.length H.length))) j n := Lg.of_gtr (by rw [List.length_map, zrow_len]; exact Nat.max_le.2 ⟨h.ll, h'.ll⟩) fun r hr => by
  obtain ⟨p, hp, rfl⟩ := List.mem_map.1 hr
  obtain ⟨i, _, rfl⟩ := List.mem_map.1 hp
  have := hf _ _ (h.g i).1 (h'.g i).1 (h.g i).2 (h'.g i).2
  exact ⟨Nat.le_trans (nrm_length_le _) this.2, this.1.nrm⟩
theorem Lg.add (h : Lg A G k n) (h' : Lg B H k n) : Lg (toW (gadd G H)) (gadd G H) (k + 1) n := h.zr h' fun _ _ a b c d => ⟨a.padd b, Nat.le_trans (padd_len _ _) (Nat.max_le.2 ⟨c, d⟩)⟩
theorem Lg.tu (h : Lg A G k n) : Lg (toW (gtu G)) (gtu G) k n := Lg.gof (fun i j => h.gv j i) h.dy h.dx
theorem Lg.toW (h : Lg A G k n) : Lg (Go.Proofs.YtjebljkoiaojaaaGreat.toW G) G k n := Lg.told h.ll fun r hr => by
  obtain ⟨i, hi, rfl⟩ := mem_getD [] hr
  exact ⟨(h.g i).2, (h.g i).1⟩
theorem Lg.mul (h : Lg A G k n) (h' : Lg B H j n') (hn : n ≤ 1024) (hn' : n' ≤ 1024) : Lg (Go.Proofs.YtjebljkoiaojaaaGreat.toW (gmu G H)) (gmu G H) (k + j + 1) (n + n') := by
  have g1 := h.toW.gs hn
  have g2 := h'.toW.gs hn'
  unfold gmu gmuE
  rw [ww_toW, ww_toW]
  split
  · exact Lg.told (Nat.zero_le _) fun r hr => by simp at hr
  · refine Lg.gof (fun i j' => ?_) (by have := h.dx; have := h'.dx; omega) (by have := h.dy; have := h'.dy; omega)
    have e : pairs (tg (Go.Proofs.YtjebljkoiaojaaaGreat.toW G) (Go.Proofs.YtjebljkoiaojaaaGreat.toW G).length) (tg (Go.Proofs.YtjebljkoiaojaaaGreat.toW H) (Go.Proofs.YtjebljkoiaojaaaGreat.toW H).length) i j' + some2 (0, 0, z0) [] i j' = pairs (tg (Go.Proofs.YtjebljkoiaojaaaGreat.toW G) (Go.Proofs.YtjebljkoiaojaaaGreat.toW G).length) (tg (Go.Proofs.YtjebljkoiaojaaaGreat.toW H) (Go.Proofs.YtjebljkoiaojaaaGreat.toW H).length) i j' := by simp [some2, esum]
    rw [← e]
    exact sum_sz (fun t ht => sz_jv (g1.tin t ht).2.2.1 (g1.tin t ht).2.2.2) (by rw [jv_z0]; exact sz_zero _) (fun t ht => sz_jv (g2.tin t ht).2.2.1 (g2.tin t ht).2.2.2) (fun t ht => by simp at ht) g1.tlen g2.tlen (Nat.zero_le _) i j'
theorem xgNorm (v : Value) (h : Lg A G k n) (hk : k ≤ 137438953472 := by decide) (hn : n ≤ 1024 := by decide) :
    Meets Tryz.prog 145 [v] [(v, W A)] (fun r os fs => os = [] ∧ fs = [(r, wd (Go.Proofs.YtjebljkoiaojaaaGreat.gn G))]) := by
  have := gNorm_meets v A (h.gf hk (by omega))
  rw [h.val] at this; exact this
theorem xgMul (v w : Value) (h : Lg A G k n) (h' : Lg B H j n') (hk : k + j + 1 ≤ 1073741824 := by decide) (hn : n ≤ 1024 := by decide) (hn' : n' ≤ 1024 := by decide) :
    Meets Tryz.prog 58 [v, w] [(v, W A), (w, W B)] (fun r os fs => os = [] ∧ fs = [(r, wd (gmu G H))]) := by
  have := gMul_meets v w A B k j (h.gs hn) (h'.gs hn') hk
  rw [gmuE_eq, h.val, h'.val] at this; exact this
theorem Lg.pb (h : Lg A G k n) (h' : Lg B H k n) (hn : 2 * n * n + 1 ≤ 268435456) (hb : pdB k n (2 * n) ≤ 137438953472) :
    PB k n (2 * n) (syX (gtu (ww A)) (gtu (ww B)) (Go.Proofs.YtjebljkoiaojaaaGreat.dy (ww A)) (Go.Proofs.YtjebljkoiaojaaaGreat.dy (ww B))) := by
  have key := fun i j => syX_b (F := gtu (ww A)) (E := gtu (ww B)) (k := k) (l := n) (fun i => by rw [h.val]; exact h.tu.g i) (fun i => by rw [h'.val]; exact h'.tu.g i) (Go.Proofs.YtjebljkoiaojaaaGreat.dy (ww A)) (Go.Proofs.YtjebljkoiaojaaaGreat.dy (ww B)) i j
  exact ⟨fun i j => (key i j).1, fun i j => (key i j).2, hn, hb⟩
theorem Lg.dy' (h : Lg A G k n) : Go.Proofs.YtjebljkoiaojaaaGreat.dy G ≤ n := by
  unfold Go.Proofs.YtjebljkoiaojaaaGreat.dy; rw [gtu_len]; have := h.dy; omega
theorem xgElim (v w : Value) (h : Lg A G k n) (h' : Lg B H k n) (hk : k ≤ 137438953472 := by decide) (hn0 : 0 < n := by decide) (hn : n ≤ 1024 := by decide) (hn2 : 2 * n * n + 1 ≤ 268435456 := by decide) (hb : pdB k n (2 * n) ≤ 137438953472 := by decide) :
    Meets Tryz.prog 32 [v, w] [(v, W A), (w, W B)] (fun r os fs => os = [] ∧ fs = [(r, vd (gel G H))]) := by
  have d1 : Go.Proofs.YtjebljkoiaojaaaGreat.dy (ww A) ≤ n := by rw [h.val]; exact h.dy'
  have d2 : Go.Proofs.YtjebljkoiaojaaaGreat.dy (ww B) ≤ n := by rw [h'.val]; exact h'.dy'
  have := gEliminate_core v w A B k n (2 * n) (h.gf (Nat.le_refl _) (by omega)) (h'.gf (Nat.le_refl _) (by omega)) hk (h.pb h' hn2 hb) (by omega) (by omega)
  rw [h.val, h'.val] at this; exact this
theorem Lg.el (h : Lg A G k n) (h' : Lg B H k n) (hn : n < 18446744073709551616) : Lk ((gel G H).map cn) (gel G H) (pdk k (2 * n)) (2 * n * n + 1) := by
  have d1 := h.dy'
  have d2 := h'.dy'
  unfold gel
  split
  · exact Lk.told (fun x hx => by simp at hx) (Nat.zero_le _)
  · have key := fun i j => syX_b (k := k) (l := n) h.tu.g h'.tu.g (Go.Proofs.YtjebljkoiaojaaaGreat.dy G) (Go.Proofs.YtjebljkoiaojaaaGreat.dy H) i j
    exact Lk.told ((pdet_sz (fun i j => (key i j).1) (fun i j => (key i j).2) hn).mono (pdk_mono k (by omega))) (Nat.le_trans (pdet_len fun i j => (key i j).2) (Nat.succ_le_succ (Nat.mul_le_mul_right _ (by omega))))
end
end Go.Proofs.YtjebljkoiaojaaaGreat
namespace Go.Proofs.YtjebljkoiaojaaaGreat
theorem gdx_some {G : List (List Int)} {n : Nat} (h : gdx G = n + 1) : dg (G.getD n []) ≠ 0 := by
  have key : ∀ m, gdxN G m = n + 1 → dg (G.getD n []) ≠ 0 := fun m => by
    induction m with
    | zero => intro h; simp [gdxN] at h
    | succ m ih =>
      intro h
      simp only [gdxN] at h
      split at h
      · exact ih h
      · rename_i h0
        have : m = n := by omega
        rw [← this]; exact h0
  exact key _ h
theorem gn_eq (G : List (List Int)) : gn G = (List.range (gdx G)).map fun i => nrm (G.getD i []) := by
  have hlen : ((List.range (gdx G)).map fun i => nrm (G.getD i [])).length = gdx G := by simp
  refine (gn_gn G).ext ⟨?_, fun r hr => ?_⟩ fun i j => ?_
  · cases hx : gdx G with
    | zero => rfl
    | succ n =>
      rw [List.range_succ, List.map_append]
      exact gtr_snoc_ne (fun e => gdx_some hx (by unfold dg; rw [show nrm (G.getD n []) = [] from e]; rfl)) _
  · obtain ⟨i, _, rfl⟩ := List.mem_map.1 hr
    exact Nm.nrm _
  · rw [gn_gv]
    by_cases h : i < gdx G
    · show _ = (((List.range (gdx G)).map fun i => nrm (G.getD i [])).getD i []).getD j 0
      rw [show ((List.range (gdx G)).map fun i => nrm (G.getD i [])).getD i [] = nrm (G.getD i []) by simp [List.getD_eq_getElem?_getD, h], co_nrm]
      rfl
    · rw [gv_zero (by omega)]
      show _ = (((List.range (gdx G)).map fun i => nrm (G.getD i [])).getD i []).getD j 0
      rw [getD_end (l := (List.range (gdx G)).map fun i => nrm (G.getD i [])) (by omega)]; rfl
theorem padd_nrm (l m : List Int) : padd (nrm l) (nrm m) = padd l m := (padd_nm _ _).ext (padd_nm _ _) fun x => by rw [ev_padd, ev_padd, ev_nrm, ev_nrm]
def pco (G H : List (List Int)) (i : Nat) : Nat → List Int
  | 0 => []
  | k + 1 => padd (pco G H i k) (pmul (nrm (G.getD k [])) (nrm (H.getD (i - k) [])))
theorem pco_ev (G H : List (List Int)) (i k : Nat) (y : Int) : pev (pco G H i k) y = isum (fun t => pev (G.getD t []) y * pev (H.getD (i - t) []) y) k := by
  induction k with
  | zero => rfl
  | succ k ih => rw [pco, ev_padd, ev_pmul, ev_nrm, ev_nrm, ih]; rfl
theorem conv_all : ∀ (a : List Int) (b : List Int) (x : Int), pev (lst (a.length + b.length) fun i => isum (fun k => a.getD k 0 * b.getD (i - k) 0) (i + 1)) x = pev a x * pev b x
  | [], b, x => by
    rw [lst_congr (g := fun _ => 0) fun i _ => isum_zero fun k _ => by simp, ev_lst_zero]
    simp [pev]
  | c :: a, b, x => by
    have ih := conv_all a b x
    rw [List.length_cons, Nat.add_right_comm, lst_congr (g := fun i => c * b.getD i 0 + if i = 0 then 0 else isum (fun k => a.getD k 0 * b.getD (i - 1 - k) 0) (i - 1 + 1)) fun i _ => by
      rw [isum_front]
      congr 1
      cases i with
      | zero => rfl
      | succ i =>
        rw [if_neg (by omega)]
        exact isum_congr fun k _ => by rw [List.getD_cons_succ, show i + 1 - (k + 1) = i + 1 - 1 - k by omega],
      ev_lst_add, ev_lst_mul, ev_lst_succ (a.length + b.length) (fun i => if i = 0 then 0 else isum (fun k => a.getD k 0 * b.getD (i - 1 - k) 0) (i - 1 + 1)),
      lst_congr (f := fun i => if i + 1 = 0 then 0 else isum (fun k => a.getD k 0 * b.getD (i + 1 - 1 - k) 0) (i + 1 - 1 + 1)) (g := fun i => isum (fun k => a.getD k 0 * b.getD (i - k) 0) (i + 1)) fun i _ => by rw [if_neg (by omega)]; rfl,
      ih, ev_lst (by omega)]
    simp only [pev]
    rw [if_pos trivial]
    grind
def gcl (G H : List (List Int)) : List (List Int) := (List.range (G.length + H.length)).map fun i => pco G H i (i + 1)
theorem gcl_mu (G H : List (List Int)) : gn (gcl G H) = gmu G H := (gn_gn _).ev_ext (gmu_gn _ _) fun x y => by
  rw [gev_gn, gev_gmu]
  have e : ∀ G : List (List Int), gev G x y = pev (G.map fun r => pev r y) x := fun G => ev_nrm _ _
  rw [e, e, e, ← conv_all]
  unfold gcl
  rw [List.map_map, List.length_map, List.length_map]
  congr 1
  refine List.map_congr_left fun i _ => ?_
  show pev (pco G H i (i + 1)) y = _
  rw [pco_ev]
  have g : ∀ (G : List (List Int)) k, (G.map fun r => pev r y).getD k 0 = pev (G.getD k []) y := fun G k => by
    by_cases h : k < G.length
    · simp [List.getD_eq_getElem?_getD, h]
    · rw [getD_end (l := G.map fun r => pev r y) (by rw [List.length_map]; omega), getD_end (l := G) (by omega)]; rfl
  exact isum_congr fun k _ => by rw [g, g]
end Go.Proofs.YtjebljkoiaojaaaGreat
namespace Go.Proofs.YtjebljkoiaojaaaGreat
def shp (d n : Nat) : List (Nat × Nat) := (List.range (n + 1)).flatMap fun j => (List.range (d * (n - j) + 1)).map fun i => (i, j)
theorem shp_mem {d n u v : Nat} : (u, v) ∈ shp d n ↔ v ≤ n ∧ u ≤ d * (n - v) := by
  unfold shp
  simp only [List.mem_flatMap, List.mem_range, List.mem_map, Prod.mk.injEq]
  constructor
  · rintro ⟨j, hj, i, hi, rfl, rfl⟩; exact ⟨by omega, by omega⟩
  · rintro ⟨h1, h2⟩; exact ⟨v, by omega, u, by omega, rfl, rfl⟩
theorem shp_nodup (d n : Nat) : (shp d n).Nodup := by
  unfold shp
  generalize n + 1 = m
  induction m with
  | zero => simp
  | succ m ih =>
    rw [List.range_succ, List.flatMap_append]
    refine List.nodup_append.2 ⟨ih, ?_, fun a ha b hb => ?_⟩
    · simp only [List.flatMap_cons, List.flatMap_nil, List.append_nil]
      refine List.Pairwise.map _ (fun a b h => ?_) List.nodup_range
      intro e
      exact h (Prod.mk.inj e).1
    · simp only [List.mem_flatMap, List.mem_range, List.mem_map] at ha
      simp only [List.flatMap_cons, List.flatMap_nil, List.append_nil, List.mem_map] at hb
      obtain ⟨j, hj, i, _, rfl⟩ := ha
      obtain ⟨i', _, rfl⟩ := hb
      intro e
      have := (Prod.mk.inj e).2
      omega
def supp (d w : Nat) (G : List (List Int)) : Prop := ∀ u v, gv G u v ≠ 0 → u + d * v ≤ w
theorem supp_dg {d w : Nat} {G : List (List Int)} (h : supp d w G) {u : Nat} (h0 : 0 < dg (G.getD u [])) : u + d * (dg (G.getD u []) - 1) ≤ w :=
  h u _ (ld_ne h0)
theorem co_lt {l : List Int} {j : Nat} (h : l.getD j 0 ≠ 0) : j < dg l := Nat.not_le.1 fun g => h (dg_le.1 g j (Nat.le_refl _))
theorem supp_mul {d w w' : Nat} {G H : List (List Int)} (hG : supp d w G) (hH : supp d w' H) : supp d (w + w') (gmu G H) := by
  have key : ∀ i k j, k ≤ i + 1 → (pco G H i k).getD j 0 ≠ 0 → i + d * j ≤ w + w' := fun i k => by
    induction k with
    | zero => intro j _ h; simp [pco] at h
    | succ k ih =>
      intro j hk h
      rw [pco, co_padd] at h
      by_cases h1 : (pco G H i k).getD j 0 = 0
      · rw [h1, Int.zero_add] at h
        have hj := co_lt h
        have ea : dg (nrm (G.getD k [])) = dg (G.getD k []) := dg_ext fun x => ev_nrm _ x
        have eb : dg (nrm (H.getD (i - k) [])) = dg (H.getD (i - k) []) := dg_ext fun x => ev_nrm _ x
        have hab : 0 < dg (nrm (G.getD k [])) ∧ 0 < dg (nrm (H.getD (i - k) [])) := by
          refine Classical.byContradiction fun hn => ?_
          have hz := (dg_zero (l := pmul (nrm (G.getD k [])) (nrm (H.getD (i - k) [])))).2 fun x => by
            rw [ev_pmul]
            by_cases g : dg (nrm (G.getD k [])) = 0
            · rw [dg_zero.1 g]; simp
            · rw [dg_zero.1 (show dg (nrm (H.getD (i - k) [])) = 0 by omega)]; simp
          omega
        have hd := (pmul_dg hab.1 hab.2).1
        have s1 := supp_dg hG (u := k) (by omega)
        have s2 := supp_dg hH (u := i - k) (by omega)
        rw [ea, eb] at hd
        have e1 : d * j ≤ d * (dg (G.getD k []) - 1) + d * (dg (H.getD (i - k) []) - 1) := by
          rw [← Nat.mul_add]
          exact Nat.mul_le_mul_left _ (by omega)
        omega
      · exact ih j (by omega) h1
  intro u v h
  rw [← gcl_mu, gn_gv] at h
  unfold gv gcl at h
  by_cases hu : u < G.length + H.length
  · have e : ((List.range (G.length + H.length)).map fun i => pco G H i (i + 1)).getD u [] = pco G H u (u + 1) := by simp [List.getD_eq_getElem?_getD, hu]
    rw [e] at h
    exact key u (u + 1) v (by omega) h
  · rw [getD_end (l := (List.range (G.length + H.length)).map fun i => pco G H i (i + 1)) (by simp; omega)] at h
    simp at h
def gless (p : List Int) : List (List Int) := match p with
  | [] => []
  | c :: l => [c, -1] :: l.map fun c => [c]
def gone (c : Int) (i : Nat) : List (List Int) := List.replicate i [] ++ [[c]]
def gpw (L G : List (List Int)) : Nat → List (List Int)
  | 0 => G
  | j + 1 => gmu (gpw L G j) L
theorem gone_supp (d : Nat) (c : Int) (i : Nat) : supp d i (gone c i) := fun u v h => by
  unfold gv gone at h
  by_cases hu : u < i
  · have : (List.replicate i ([] : List Int) ++ [[c]]).getD u [] = [] := by
      rw [List.getD_eq_getElem?_getD, List.getElem?_append_left (by simpa using hu)]; simp [hu]
    rw [this] at h; simp at h
  · have e : (List.replicate i ([] : List Int) ++ [[c]]).getD u [] = [[c]].getD (u - i) [] := by
      rw [List.getD_eq_getElem?_getD, List.getElem?_append_right (by simp; omega), List.length_replicate, ← List.getD_eq_getElem?_getD]
    rw [e] at h
    by_cases hu2 : u - i = 0
    · rw [hu2] at h
      have hv : v = 0 := by
        cases v with
        | zero => rfl
        | succ v => simp at h
      subst hv
      omega
    · rw [getD_end (l := [[c]]) (by simp; omega)] at h
      simp at h
theorem gless_supp {d : Nat} {p : List Int} (hp : p.length ≤ d + 1) : supp d d (gless p) := fun u v h => by
  cases p with
  | nil => simp [gv, gless] at h
  | cons c l =>
    simp only [List.length_cons] at hp
    cases u with
    | zero =>
      have : v ≤ 1 := by
        refine Nat.not_lt.1 fun g => ?_
        obtain ⟨t, rfl⟩ : ∃ t, v = t + 2 := ⟨v - 2, by omega⟩
        simp [gv, gless] at h
      have := Nat.mul_le_mul_left d this
      omega
    | succ u =>
      by_cases hu : u < l.length
      · have e : (gless (c :: l)).getD (u + 1) [] = [l.getD u 0] := by simp [gless, List.getD_eq_getElem?_getD, hu]
        unfold gv at h
        rw [e] at h
        have hv : v = 0 := by
          cases v with
          | zero => rfl
          | succ v => simp at h
        subst hv
        omega
      · have e : (gless (c :: l)).getD (u + 1) [] = [] := by simp [gless, List.getD_eq_getElem?_getD, hu]
        unfold gv at h
        rw [e] at h
        simp at h
theorem gpw_supp {d w : Nat} {L G : List (List Int)} (hL : supp d d L) (hG : supp d w G) : ∀ j, supp d (w + d * j) (gpw L G j)
  | 0 => by rw [gpw, Nat.mul_zero, Nat.add_zero]; exact hG
  | j + 1 => by
    have := supp_mul (gpw_supp hL hG j) hL
    rw [show w + d * (j + 1) = w + d * j + d by rw [Nat.mul_add]; omega]
    exact this
theorem gpw_shape {d n i j u v : Nat} {p : List Int} {c : Int} (hp : p.length ≤ d + 1) (hi : i ≤ d * (n - j)) (hj : j ≤ n) (hd : 1 ≤ d) (h : gv (gpw (gless p) (gone c i) j) u v ≠ 0) : (u, v) ∈ shp d n := by
  have h1 := gpw_supp (gless_supp hp) (gone_supp d c i) j u v h
  have h2 : d * (n - j) + d * j = d * n := by rw [← Nat.mul_add]; congr 1; omega
  have h3 : d * v ≤ d * n := by omega
  have h4 : v ≤ n := Nat.le_of_mul_le_mul_left h3 hd
  refine shp_mem.2 ⟨h4, ?_⟩
  have h5 : d * (n - v) + d * v = d * n := by rw [← Nat.mul_add]; congr 1; omega
  omega
theorem gpw_ev (L G : List (List Int)) (x y : Int) : ∀ j, gev (gpw L G j) x y = gev G x y * gev L x y ^ j
  | 0 => by simp [gpw]
  | j + 1 => by rw [gpw, gev_gmu, gpw_ev L G x y j, Int.pow_succ]; grind
open Go.RowKit
theorem info_arr : (Tryz.prog.info? 70).map (fun i => (i.zero, i.size, i.bytes)) = some (some (.agg #[.int .i64 0, .int .i64 0]), 2, 16) := by kernel_rfl
instance iCYb1 : TArr2 Tryz.prog 70 := ⟨⟨_, Tryz.underlying70, Tryz.underlying3, by kernel_rfl, by kernel_rfl, by kernel_rfl⟩, by
  obtain ⟨i, h1, _, _, h4⟩ := info_of info_arr
  exact ⟨i, h1, h4⟩, by kernel_rfl, ⟨Tryz.prog.types.size - 1, by kernel_rfl⟩⟩
instance iCYb2 : TEl Tryz.prog 70 2 16 := tel info_arr rfl (by decide)
instance tzArr : TZero Tryz.prog 70 (spotD 0 0) := tzero info_arr fun _ _ => ⟨[_], [_], rfl, ⟨rfl, rfl⟩, ⟨rfl, rfl⟩⟩
instance iCYb3 : TSl Tryz.prog 36 70 2 := ⟨Tryz.underlying36, by kernel_rfl⟩
instance iCYb4 : TOne Tryz.prog 36 := ⟨⟨_, Tryz.underlying36, trivial⟩, by kernel_rfl⟩
instance tmZ : TMap Tryz.prog 79 70 3 :=
  ⟨Tryz.underlying79, Maps.Keyed.of_law (deep_law_laid (m := 3) (by kernel_rfl) (by decide) (Nat.le_of_ble_eq_true (by kernel_rfl)) (by kernel_rfl) (by kernel_rfl))⟩
instance iCYb5 : TOne Tryz.prog 79 := ⟨⟨_, Tryz.underlying79, trivial⟩, by kernel_rfl⟩
theorem info_intz : (Tryz.prog.info? 3).map (fun i => (i.zero, i.size, i.bytes)) = some (some (.int .i64 0), 1, 8) := by kernel_rfl
instance tvZ : TZeroV Tryz.prog 3 (kD 0) := ⟨by
  obtain ⟨i, h1, _, _, h4⟩ := info_of info_intz
  exact ⟨i, _, h1, h4, fun S w => ⟨_, ⟨rfl, rfl⟩, rfl⟩⟩⟩
theorem info_plan : (Tryz.prog.info? 81).map (fun i => (i.zero, i.size, i.bytes)) = some (some (.agg #[.slice none 0 0, .map none, .slice none 0 0, .bool false, .slice none 0 0]), 5, 88) := by kernel_rfl
instance iCYb6 : TPlan Tryz.prog 81 := ⟨⟨_, _, _, _, _, Tryz.underlying81, rfl, rfl, rfl, rfl, rfl, by kernel_rfl, by kernel_rfl, by kernel_rfl, by kernel_rfl⟩, by
  obtain ⟨i, h1, _, _, h4⟩ := info_of info_plan
  exact ⟨i, h1, h4⟩⟩
instance iCYb7 : TAgg Tryz.prog 81 5 := ⟨⟨_, Tryz.underlying81, rfl⟩, by kernel_rfl⟩
instance iCYb8 : TFld Tryz.prog 81 0 0 := ⟨_, _, Tryz.underlying81, rfl, rfl, 0, by kernel_rfl⟩
instance iCYb9 : TFld Tryz.prog 81 1 1 := ⟨_, _, Tryz.underlying81, rfl, rfl, 0, by kernel_rfl⟩
instance iCYb10 : TFld Tryz.prog 81 2 2 := ⟨_, _, Tryz.underlying81, rfl, rfl, 0, by kernel_rfl⟩
instance iCYb11 : TFld Tryz.prog 81 3 3 := ⟨_, _, Tryz.underlying81, rfl, rfl, 1, by kernel_rfl⟩
def planZD : Dat := planB (.slice none 0 0) (.map none) (.slice none 0 0) (I false [])
theorem planZ_rd (S : Nat → Prop) (w : World) : RdC S w planZD [.slice none 0 0, .map none, .slice none 0 0, .bool false, .slice none 0 0] :=
  ⟨[_], [_, _, .bool false, .slice none 0 0], rfl, ⟨rfl, rfl⟩, [_], [_, .bool false, .slice none 0 0], rfl, ⟨rfl, rfl⟩, [_], [.bool false, .slice none 0 0], rfl, ⟨rfl, rfl⟩, [.bool false], [.slice none 0 0], rfl, rd_false S w, rd_nil S w 1 _⟩
instance tzPlan : TZero Tryz.prog 81 planZD := tzero info_plan fun S w => planZ_rd S w
theorem Reads.planZ {os : List Own} {fs : List Fact} : Reads os fs planZ planZD := fun G w _ => ⟨_, planZ_rd _ w, rfl⟩
def spE (p : Nat × Nat) : Dat := spotD (p.1 : Nat) (p.2 : Nat)
def ShD (s : List (Nat × Nat)) : Dat := LD 2 spE (0, 0) s
theorem load_Sh (s : List (Nat × Nat)) : LoadAs Tryz.prog 36 (ShD s) := (inferInstance : TOne Tryz.prog 36)
theorem load_sp (p : Nat × Nat) : LoadAs Tryz.prog 70 (spE p) := (inferInstance : TAgg Tryz.prog 70 2)
def shN (d n m : Nat) : List (Nat × Nat) := (List.range m).flatMap fun j => (List.range (d * (n - j) + 1)).map fun i => (i, j)
theorem shN_succ (d n m : Nat) : shN d n (m + 1) = shN d n m ++ (List.range (d * (n - m) + 1)).map fun i => (i, m) := by
  unfold shN; rw [List.range_succ, List.flatMap_append]; simp
theorem shN_len {d n : Nat} (hd : d ≤ 24) (hn : n ≤ 24) : ∀ m, (shN d n m).length ≤ m * 577
  | 0 => by simp [shN]
  | m + 1 => by
    rw [shN_succ, List.length_append, List.length_map, List.length_range, Nat.succ_mul]
    have h1 := shN_len hd hn m
    have h2 : d * (n - m) ≤ 24 * 24 := Nat.mul_le_mul hd (by omega)
    omega
def shpR (d n : Int) : List (Nat × Nat) × Int := if d < 1 ∨ n < 1 ∨ 24 ≤ d ∨ 24 ≤ n ∨ 24 < (shp d.toNat n.toNat).length then ([], 1) else (shp d.toNat n.toNat, 0)
theorem slzShape_meets (d n : Int) (hd : inK .i64 d) (hn : inK .i64 n) :
    Meets Tryz.prog 15 [.int .i64 d, .int .i64 n] [] (fun r os fs => os = [] ∧ ∃ q, r = .tuple #[q, .int .i64 (shpR d n).2] ∧ fs = [(q, ShD (shpR d n).1)]) := by
  have bad : (d < 1 ∨ n < 1 ∨ 24 ≤ d ∨ 24 ≤ n ∨ 24 < (shp d.toNat n.toNat).length) → shpR d n = ([], 1) := fun h => if_pos h
  have knil : ∀ os fs, Knw os fs (.slice none 0 0) (ShD []) := fun os fs => Knw.nil 2 _
  refine meets_of_vc Tryz.func15 (by kernel_rfl) rfl (by kernel_rfl) (Nat.le_of_ble_eq_true rfl) ?_
  refine cmp_split _ rfl (fun h1 => ?_) (fun h1 => ?_)
  · rw [bad (.inl h1)]
    exact fin ⟨rfl, _, rfl, rfl⟩ (Seals.cons (knil _ _) (Seals.nil _ _))
  refine cmp_split _ rfl (fun h2 => ?_) (fun h2 => ?_)
  · rw [bad (.inr (.inl h2))]
    exact fin ⟨rfl, _, rfl, rfl⟩ (Seals.cons (knil _ _) (Seals.nil _ _))
  refine cmp_split _ rfl (fun h3 => ?_) (fun h3 => ?_)
  · rw [bad (.inr (.inr (.inl h3)))]
    exact fin ⟨rfl, _, rfl, rfl⟩ (Seals.cons (knil _ _) (Seals.nil _ _))
  refine cmp_split _ rfl (fun h4 => ?_) (fun h4 => ?_)
  · rw [bad (.inr (.inr (.inr (.inl h4))))]
    exact fin ⟨rfl, _, rfl, rfl⟩ (Seals.cons (knil _ _) (Seals.nil _ _))
  obtain ⟨d, rfl⟩ : ∃ k : Nat, d = (k : Int) := ⟨d.toNat, by omega⟩
  obtain ⟨n, rfl⟩ : ∃ k : Nat, n = (k : Int) := ⟨n.toNat, by omega⟩
  have hd1 : 1 ≤ d ∧ d < 24 := by omega
  have hn1 : 1 ≤ n ∧ n < 24 := by omega
  clear h1 h2 h3 h4 hd hn
  refine ar rfl qI ?_
  refine loop_rule (X := Nat × Value) (fun x => ([(0, .int .i64 (d : Int)), (1, .int .i64 (n : Int)), (6, x.2), (24, .int .i64 ((n : Int) + 1)), (25, .int .i64 (x.1 : Nat))], [ownL 2 spE (0, 0) x.2 (shN d n x.1)], []))
    (fun x => x.1 ≤ n + 1 ∧ isSl x.2) (fun x => n + 1 - x.1) rfl ?_ ?_
  · exact again (0, .slice none 0 0) ⟨Nat.zero_le _, isSl_nil⟩ trivial qF (Seals.trans (Seals.own_nil _ _ 2 fun i => spE (([] : List (Nat × Nat)).getD i (0, 0))) (Seals.sub qS))
  rintro ⟨j, vo⟩ ⟨hj, hvo⟩
  simp only at hj hvo ⊢
  have hlen := shN_len (d := d) (n := n) (by omega) (by omega) j
  refine cmp_split _ rfl (fun hlt => ?_) (fun hlt => ?_)
  · have hjn : j ≤ n := by omega
    obtain ⟨e, rfl⟩ : ∃ e, n = j + e := ⟨n - j, by omega⟩
    have hde : d * e ≤ 24 * 24 := Nat.mul_le_mul (by omega) (by omega)
    have hdi : ((d : Int) * ((j + e : Nat) - (j : Nat) : Int)) = ((d * e : Nat) : Int) := by
      rw [show ((j + e : Nat) - (j : Nat) : Int) = (e : Nat) by omega]; exact (Int.natCast_mul d e).symm
    have hsucc := shN_succ d (j + e) j
    rw [show j + e - j = e by omega] at hsucc
    refine ar rfl qI ?_
    refine ar rfl (by rw [hdi]; exact qI) ?_
    rw [hdi]
    refine ar rfl qI ?_
    generalize shN d (j + e) j = T at *
    refine loop_rule (X := Nat × Value) (fun x => ([(0, .int .i64 (d : Int)), (1, .int .i64 ((j + e : Nat) : Int)), (6, x.2), (7, .int .i64 (j : Nat)), (24, .int .i64 (((j + e : Nat) : Int) + 1)), (25, .int .i64 (j : Nat)), (33, .int .i64 (((d * e : Nat) : Int) + 1)), (34, .int .i64 (x.1 : Nat))], [ownL 2 spE (0, 0) x.2 (T ++ (List.range x.1).map fun i => (i, j))], []))
      (fun x => x.1 ≤ d * e + 1 ∧ isSl x.2) (fun x => d * e + 1 - x.1) rfl ?_ ?_
    · refine again (0, vo) ⟨Nat.zero_le _, hvo⟩ trivial qF ?_
      simp only [List.range_zero, List.map_nil, List.append_nil]
      exact Seals.sub qS
    rintro ⟨i, vi⟩ ⟨hi, hvi⟩
    simp only at hi hvi ⊢
    refine cmp_split _ rfl (fun hlt2 => ?_) (fun hlt2 => ?_)
    · refine build_arr ?_
      refine lit_L (size := 2) spE (0, 0) (i, j) (by decide) (Reads.spot _ _) rfl fun l1 => ?_
      refine append_L 0 rfl hvi (Knw.fact qM) (by simp; omega) (by simp; omega) fun u2 hu2 => ?_
      refine ar rfl qI ?_
      refine again (i + 1, u2) ⟨by simp only; omega, hu2⟩ (by simp only; omega) qF ?_
      simp only [List.range_succ, List.map_append, List.map_cons, List.map_nil, ← List.append_assoc]
      exact Seals.sub qS
    · have hie : i = d * e + 1 := by omega
      subst hie
      refine ar rfl qI ?_
      refine again (j + 1, vi) ⟨by simp only; omega, hvi⟩ (by simp only; omega) qF ?_
      simp only [hsucc]
      exact Seals.sub qS
  · have hjn : j = n + 1 := by omega
    subst hjn
    have hs : shN d n (n + 1) = shp d n := rfl
    rw [hs] at hlen ⊢
    refine len_own 0 rfl hvo fun _ => ?_
    refine cmp_split _ rfl (fun hbig => ?_) (fun hbig => ?_)
    · rw [bad (.inr (.inr (.inr (.inr (by rw [Int.toNat_natCast, Int.toNat_natCast]; omega)))))]
      exact fin ⟨rfl, _, rfl, rfl⟩ (Seals.trans (Seals.drop 0 _ _) (Seals.cons (knil _ _) (Seals.nil _ _)))
    · have e : shpR (d : Nat) (n : Nat) = (shp d n, 0) := by
        unfold shpR
        rw [if_neg (by rw [Int.toNat_natCast, Int.toNat_natCast]; omega), Int.toNat_natCast, Int.toNat_natCast]
      rw [e]
      exact fin ⟨rfl, vo, rfl, rfl⟩ (Seals.trans (Seals.L 0 rfl hvo) (Seals.sub qS))
open Go.RowKit
def lstJ (x : Bool × List Nat) : Bool × List Nat := if jv x = 0 then cn 1 else x
theorem jv_lstJ (x : Bool × List Nat) : jv (lstJ x) = lst1 (jv x) := by
  unfold lstJ lst1; split
  · exact jv_cn 1
  · rfl
theorem lstJ_lim {x : Bool × List Nat} {a : Nat} (h : Lim x.2) (ha : x.2.length ≤ a) : Lim (lstJ x).2 ∧ (lstJ x).2.length ≤ a + 1 := by
  unfold lstJ; split
  · exact ⟨Lim_lims _, Nat.le_trans (sz_one 1 (by decide)).len (by omega)⟩
  · exact ⟨h, by omega⟩
def sclV (T Y : Int) (p : Nat × Nat) : Int := T ^ p.1 * Y ^ p.2
def cmap (s : List (Nat × Nat)) (m : Nat) : List (Nat × Nat × Nat) := (List.range m).map fun k => ((s.getD k (0, 0)).1, (s.getD k (0, 0)).2, k)
theorem cmap_len (s : List (Nat × Nat)) (m : Nat) : (cmap s m).length = m := by simp [cmap]
theorem cmap_succ (s : List (Nat × Nat)) (m : Nat) : cmap s (m + 1) = cmap s m ++ [((s.getD m (0, 0)).1, (s.getD m (0, 0)).2, m)] := by simp [cmap, List.range_succ]
theorem cmap_get (s : List (Nat × Nat)) {m k : Nat} (h : k < m) : (cmap s m).getD k (0, 0, 0) = ((s.getD k (0, 0)).1, (s.getD k (0, 0)).2, k) := by simp [cmap, List.getD_eq_getElem?_getD, h]
theorem nd_get {s : List (Nat × Nat)} (h : s.Nodup) {i j : Nat} (hi : i < s.length) (hj : j < s.length) (e : s.getD i (0, 0) = s.getD j (0, 0)) : i = j := by
  simp only [List.getD_eq_getElem?_getD, List.getElem?_eq_getElem hi, List.getElem?_eq_getElem hj, Option.getD_some] at e
  exact (List.getElem_inj h).1 e
theorem cmap_nd {s : List (Nat × Nat)} (h : s.Nodup) {m : Nat} (hm : m ≤ s.length) : Nd (cmap s m) := by
  induction m with
  | zero => exact List.Pairwise.nil
  | succ m ih =>
    rw [cmap_succ]
    refine List.pairwise_append.2 ⟨ih (by omega), List.pairwise_singleton _ _, fun a ha b hb e => ?_⟩
    simp only [List.mem_singleton] at hb
    subst hb
    obtain ⟨k, hk, rfl⟩ := List.mem_map.1 ha
    have hk' := List.mem_range.1 hk
    have := nd_get h (i := k) (j := m) (by omega) (by omega) (Prod.ext e.1 e.2)
    omega
theorem cmap_in {s : List (Nat × Nat)} (h : ∀ p, p ∈ s → p.1 ≤ 1000 ∧ p.2 ≤ 1000) {m : Nat} (hm : m ≤ s.length) : In64 (cmap s m) := fun t ht => by
  obtain ⟨k, hk, rfl⟩ := List.mem_map.1 ht
  have hk' := List.mem_range.1 hk
  have := h _ (getD_mem (0, 0) (show k < s.length by omega))
  simp only; omega
def planD (s : List (Nat × Nat)) (T Y M : Int) : Dat := .cat (ShD s) (.cat (MD kD 0 (cmap s s.length)) (.cat (vd (s.map (sclV T Y))) (zd M)))
theorem load_plan (s : List (Nat × Nat)) (T Y M : Int) : LoadAs Tryz.prog 81 (planD s T Y M) := (inferInstance : TAgg Tryz.prog 81 5)
def planOk (P : List Int) (m t y n : Int) : Prop := (shpR ((dg P : Nat) - 1 : Int) n).2 = 0 ∧ 1 ≤ m ∧ 0 ≤ t ∧ 0 ≤ y
instance (P : List Int) (m t y n : Int) : Decidable (planOk P m t y n) := inferInstanceAs (Decidable (_ ∧ _))
def planR (P : List Int) (m t y n : Int) : Dat × Int :=
  if planOk P m t y n then (planD (shp (dg P - 1) n.toNat) (lst1 t) (lst1 y) (m ^ n.toNat), 0) else (planZD, 1)
theorem shpR_ok {d n : Int} (h : (shpR d n).2 = 0) : 1 ≤ d ∧ d < 24 ∧ 1 ≤ n ∧ n < 24 ∧ (shp d.toNat n.toNat).length ≤ 24 ∧ (shpR d n).1 = shp d.toNat n.toNat := by
  unfold shpR at h ⊢
  split at h
  · simp at h
  · rename_i hb
    rw [if_neg hb]
    exact ⟨by omega, by omega, by omega, by omega, by omega, rfl⟩
theorem shp_small {d n : Nat} (hd : d < 24) (hn : n < 24) : ∀ p, p ∈ shp d n → p.1 ≤ 1000 ∧ p.2 ≤ 1000 := fun p hp => by
  obtain ⟨u, v⟩ := p
  have := shp_mem.1 hp
  have h1 : d * (n - v) ≤ 23 * 23 := Nat.mul_le_mul (by omega) (by omega)
  simp only; omega
theorem Seals.boxAt {os : List Own} {fs : List Fact} {p : Value} {size : Nat} {e : Nat → Dat} {d : Dat} (pos : Nat) (hn : nthOwn os pos = some (own1 p size 1 e)) (h : e 0 = d) : Seals os fs (setOwn os pos (own1 p size 1 fun _ => d)) fs :=
  Seals.own_cong pos (fun _ => d) hn rfl (fun i hi => by obtain rfl : i = 0 := by omega
                                                         exact h) (.inr Nat.zero_lt_one)
theorem slzplanned_meets (v w u z : Value) (p : Row) (m t y : Bool × List Nat) (n : Int) (k a : Nat) (hp : Fit k p) (lp : p.length ≤ 1000) (hk : k ≤ 137438953472) (hm : Lim m.2) (hma : m.2.length ≤ a) (ht : Lim t.2) (hta : t.2.length ≤ a) (hy : Lim y.2) (hya : y.2.length ≤ a) (ha : a ≤ 10000) (hn : inK .i64 n) :
    Meets Tryz.prog 54 [v, w, u, z, .int .i64 n] [(v, V p), (w, J m), (u, J t), (z, J y)] (fun r os fs => os = [] ∧ ∃ q, r = .tuple #[q, .int .i64 (planR (vv p) (jv m) (jv t) (jv y) n).2] ∧ fs = [(q, (planR (vv p) (jv m) (jv t) (jv y) n).1)]) := by
  have hsm : ∀ z, Meets Tryz.prog 51 [z] [(z, J m)] (fun r os fs => os = [] ∧ fs = [] ∧ r = .int .i64 (jv m).sign) := fun z => zsign_meets z m.1 m.2 hm (by omega)
  have hst : ∀ z, Meets Tryz.prog 51 [z] [(z, J t)] (fun r os fs => os = [] ∧ fs = [] ∧ r = .int .i64 (jv t).sign) := fun z => zsign_meets z t.1 t.2 ht (by omega)
  have hsy : ∀ z, Meets Tryz.prog 51 [z] [(z, J y)] (fun r os fs => os = [] ∧ fs = [] ∧ r = .int .i64 (jv y).sign) := fun z => zsign_meets z y.1 y.2 hy (by omega)
  have hdl : dg (vv p) ≤ 1000 := by have := dg_le_len (vv p); rw [vv_len] at this; omega
  have hdd := pDegreeN v p (hp.mono hk)
  have hmm : (jv m).sign < 1 ↔ jv m < 1 := by
    rcases Int.lt_trichotomy (jv m) 0 with g | g | g
    · rw [sgn_neg g]; omega
    · rw [g]; simp
    · rw [sgn_pos g]; omega
  have hshp := slzShape_meets ((dg (vv p) : Nat) - 1 : Int) n (by simp only [inK]; omega) hn
  have zt := lstJ_lim ht hta
  have zy := lstJ_lim hy hya
  by_cases hok : planOk (vv p) (jv m) (jv t) (jv y) n
  case neg =>
    refine meets_of_vc Tryz.func54 (by kernel_rfl) rfl (by kernel_rfl) (Nat.le_of_ble_eq_true rfl) ?_
    refine box_rule (Reads.fact (d := J m) qM) fun b1 h1 => ?_
    refine box_rule (Reads.fact (d := J t) qM) fun b2 h2 => ?_
    refine box_rule (Reads.fact (d := J y) qM) fun b3 h3 => ?_
    refine alloc_rule (d := planZD) fun o ho => ?_
    refine call_fn hdd (Seals.refl _ _) qS ?_
    rintro _ _ _ ⟨rfl, rfl, rfl⟩
    refine call_fn hshp (Seals.refl _ _) qS ?_
    rintro _ _ _ ⟨rfl, q, rfl, rfl⟩
    refine cmp_split _ rfl (fun g1 => ?_) (fun g1 => ?_)
    ·
      rw [show planR (vv p) (jv m) (jv t) (jv y) n = (planZD, 1) from if_neg hok]
      refine build_plan0 ?_
      refine store_box (d := planZD) 0 rfl ho rfl (by kernel_rfl) Reads.planZ ?_
      refine load_box (d := planZD) 0 rfl ho rfl (show TAgg Tryz.prog 81 5 from inferInstance) fun r => ?_
      exact fin ⟨rfl, _, rfl, rfl⟩ (Seals.trans (Seals.drop 0 _ _) (Seals.trans (Seals.drop 0 _ _) (Seals.trans (Seals.drop 0 _ _) (Seals.trans (Seals.drop 0 _ _) (Seals.sub (fs' := [(r, planZD)]) qS)))))
    refine load_box (d := J m) 3 rfl h1 rfl (load_J _) fun y1 => ?_
    refine call_fn (hsm y1) (Seals.refl _ _) qS ?_
    rintro _ _ _ ⟨rfl, rfl, rfl⟩
    refine cmp_split _ rfl (fun g2 => ?_) (fun g2 => ?_)
    ·
      rw [show planR (vv p) (jv m) (jv t) (jv y) n = (planZD, 1) from if_neg hok]
      refine build_plan0 ?_
      refine store_box (d := planZD) 0 rfl ho rfl (by kernel_rfl) Reads.planZ ?_
      refine load_box (d := planZD) 0 rfl ho rfl (show TAgg Tryz.prog 81 5 from inferInstance) fun r => ?_
      exact fin ⟨rfl, _, rfl, rfl⟩ (Seals.trans (Seals.drop 0 _ _) (Seals.trans (Seals.drop 0 _ _) (Seals.trans (Seals.drop 0 _ _) (Seals.trans (Seals.drop 0 _ _) (Seals.sub (fs' := [(r, planZD)]) qS)))))
    refine load_box (d := J t) 2 rfl h2 rfl (load_J _) fun y1 => ?_
    refine call_fn (hst y1) (Seals.refl _ _) qS ?_
    rintro _ _ _ ⟨rfl, rfl, rfl⟩
    refine cmp_split _ rfl (fun g3 => ?_) (fun g3 => ?_)
    ·
      rw [show planR (vv p) (jv m) (jv t) (jv y) n = (planZD, 1) from if_neg hok]
      refine build_plan0 ?_
      refine store_box (d := planZD) 0 rfl ho rfl (by kernel_rfl) Reads.planZ ?_
      refine load_box (d := planZD) 0 rfl ho rfl (show TAgg Tryz.prog 81 5 from inferInstance) fun r => ?_
      exact fin ⟨rfl, _, rfl, rfl⟩ (Seals.trans (Seals.drop 0 _ _) (Seals.trans (Seals.drop 0 _ _) (Seals.trans (Seals.drop 0 _ _) (Seals.trans (Seals.drop 0 _ _) (Seals.sub (fs' := [(r, planZD)]) qS)))))
    refine load_box (d := J y) 1 rfl h3 rfl (load_J _) fun y1 => ?_
    refine call_fn (hsy y1) (Seals.refl _ _) qS ?_
    rintro _ _ _ ⟨rfl, rfl, rfl⟩
    refine cmp_split _ rfl (fun g4 => ?_) (fun g4 => ?_)
    ·
      rw [show planR (vv p) (jv m) (jv t) (jv y) n = (planZD, 1) from if_neg hok]
      refine build_plan0 ?_
      refine store_box (d := planZD) 0 rfl ho rfl (by kernel_rfl) Reads.planZ ?_
      refine load_box (d := planZD) 0 rfl ho rfl (show TAgg Tryz.prog 81 5 from inferInstance) fun r => ?_
      exact fin ⟨rfl, _, rfl, rfl⟩ (Seals.trans (Seals.drop 0 _ _) (Seals.trans (Seals.drop 0 _ _) (Seals.trans (Seals.drop 0 _ _) (Seals.trans (Seals.drop 0 _ _) (Seals.sub (fs' := [(r, planZD)]) qS)))))
    exact absurd ⟨by omega, Int.not_lt.1 fun h => g2 (hmm.2 h), Int.not_lt.1 fun h => g3 (sgn_lt.2 h), Int.not_lt.1 fun h => g4 (sgn_lt.2 h)⟩ hok
  rw [show planR (vv p) (jv m) (jv t) (jv y) n = (planD (shp (dg (vv p) - 1) n.toNat) (lst1 (jv t)) (lst1 (jv y)) (jv m ^ n.toNat), 0) from if_pos hok]
  obtain ⟨k1, k2, k3, k4⟩ := hok
  obtain ⟨j1, j2, j3, j4, j5, j6⟩ := shpR_ok k1
  obtain ⟨n, rfl⟩ : ∃ k : Nat, n = (k : Int) := ⟨n.toNat, by omega⟩
  rw [Int.toNat_natCast] at *
  rw [show (((dg (vv p) : Nat) - 1 : Int)).toNat = dg (vv p) - 1 by omega] at j5 j6
  rw [k1, j6] at hshp
  have hsn := shp_nodup (dg (vv p) - 1) n
  have hsb := shp_small (d := dg (vv p) - 1) (n := n) (by omega) (by omega)
  generalize shp (dg (vv p) - 1) n = s at *
  have hpm := fun y1 => slzpower_meets y1 m n a hm hma (by omega) (by omega)
  rw [← jv_lstJ, ← jv_lstJ]
  refine meets_cut (Y := Value × Value × Value × Value × Value × Value) 7
    (fun x => ([(7, x.1), (8, x.2.1), (10, x.2.2.1), (12, x.2.2.2.1), (14, x.2.2.2.2.1)], [own1 x.2.2.2.2.1 5 1 (fun _ => planB x.2.2.2.1 x.2.2.2.2.2 (.slice none 0 0) (zd (jv m ^ n))), ownMD kD 0 x.2.2.2.2.2 [], own1 x.2.2.1 5 1 (fun _ => planZD), own1 x.2.1 2 1 (fun _ => J (lstJ y)), own1 x.1 2 1 (fun _ => J (lstJ t))], [(x.2.2.2.1, ShD s)]))
    (fun x => isBox x.1 ∧ isBox x.2.1 ∧ isBox x.2.2.1 ∧ isBox x.2.2.2.2.1 ∧ ∃ r, x.2.2.2.2.2 = .map (some r))
    Tryz.func54 (by kernel_rfl) rfl (by kernel_rfl) (Nat.le_of_ble_eq_true rfl) ?_ ?_
  · dsimp only [takeC]
    refine box_rule (Reads.fact (d := J m) qM) fun b1 h1 => ?_
    refine box_rule (Reads.fact (d := J t) qM) fun b2 h2 => ?_
    refine box_rule (Reads.fact (d := J y) qM) fun b3 h3 => ?_
    refine alloc_rule (d := planZD) fun o ho => ?_
    refine call_fn hdd (Seals.refl _ _) qS ?_
    rintro _ _ _ ⟨rfl, rfl, rfl⟩
    refine call_fn hshp (Seals.refl _ _) qS ?_
    rintro _ _ _ ⟨rfl, q, rfl, rfl⟩
    refine cmp_false rfl (by decide) ?_
    refine load_box (d := J m) 3 rfl h1 rfl (load_J _) fun y1 => ?_
    refine call_fn (hsm y1) (Seals.refl _ _) qS ?_
    rintro _ _ _ ⟨rfl, rfl, rfl⟩
    refine cmp_false rfl (fun h => by have := hmm.1 h; omega) ?_
    refine load_box (d := J t) 2 rfl h2 rfl (load_J _) fun y1 => ?_
    refine call_fn (hst y1) (Seals.refl _ _) qS ?_
    rintro _ _ _ ⟨rfl, rfl, rfl⟩
    refine cmp_false rfl (fun h => by have := sgn_lt.1 h; omega) ?_
    refine load_box (d := J y) 1 rfl h3 rfl (load_J _) fun y1 => ?_
    refine call_fn (hsy y1) (Seals.refl _ _) qS ?_
    rintro _ _ _ ⟨rfl, rfl, rfl⟩
    refine cmp_false rfl (fun h => by have := sgn_lt.1 h; omega) ?_
    refine make_L kD 0 fun mv hmv => ?_
    refine load_box (d := J m) 4 rfl h1 rfl (load_J _) fun y2 => ?_
    refine call_fn (hpm y2) (Seals.refl _ _) qS ?_
    rintro y3 _ _ ⟨rfl, rfl⟩
    refine build_plan (x := q) (i := y3) (d1 := .one (.bool (cn (jv m ^ n)).1)) (d2 := U (cn (jv m ^ n)).2) qM hmv qM rfl fun vp => ?_
    refine alloc_rule (d := planZD) fun bp hbp => ?_
    refine store_box (d := planB q mv (.slice none 0 0) (zd (jv m ^ n))) 0 rfl hbp rfl (by kernel_rfl) (Reads.fact qM) ?_
    refine call_fn (zof_meets 1 (by decide) (by decide)) (Seals.refl _ _) qS ?_
    rintro y4 _ _ ⟨rfl, rfl⟩
    refine alloc_rule (d := I false []) fun c hc => ?_
    refine store_box (d := zd 1) 0 rfl hc rfl (by kernel_rfl) (Reads.fact (v := y4) qM) ?_
    refine load_box (d := J t) 5 rfl h2 rfl (load_J _) fun y6 => ?_
    refine call_fn (hst y6) (Seals.refl _ _) qS ?_
    rintro _ _ _ ⟨rfl, rfl, rfl⟩
    by_cases e1 : jv t = 0
    · refine cmp_true rfl (by rw [e1]; rfl) ?_
      refine load_box (d := zd 1) 0 rfl hc rfl (load_I _ _) fun y5 => ?_
      refine store_box (d := zd 1) 5 rfl h2 rfl (by kernel_rfl) (Reads.fact (d := zd 1) qM) ?_
      refine load_box (d := J y) 4 rfl h3 rfl (load_J _) fun y4 => ?_
      refine call_fn (hsy y4) (Seals.refl _ _) qS ?_
      rintro _ _ _ ⟨rfl, rfl, rfl⟩
      by_cases e2 : jv y = 0
      · refine cmp_true rfl (by rw [e2]; rfl) ?_
        refine load_box (d := zd 1) 0 rfl hc rfl (load_I _ _) fun y5 => ?_
        refine store_box (d := zd 1) 4 rfl h3 rfl (by kernel_rfl) (Reads.fact (d := zd 1) qM) ?_
        refine again (b2, b3, o, q, bp, mv) ⟨h2, h3, ho, hbp, hmv⟩ trivial qF ?_
        refine Seals.trans (Seals.drop 0 _ _) (Seals.trans (Seals.drop 5 _ _) (Seals.trans (Seals.sub (fs' := [(q, ShD s)]) qS) ?_))
        rw [show lstJ t = cn 1 from if_pos e1, show lstJ y = cn 1 from if_pos e2]
        exact Seals.trans (Seals.boxAt 0 rfl rfl) (Seals.trans (Seals.boxAt 3 rfl rfl) (Seals.boxAt 4 rfl rfl))
      · refine cmp_false rfl (fun h => e2 (Int.sign_eq_zero_iff_zero.1 h)) ?_
        refine again (b2, b3, o, q, bp, mv) ⟨h2, h3, ho, hbp, hmv⟩ trivial qF ?_
        refine Seals.trans (Seals.drop 0 _ _) (Seals.trans (Seals.drop 5 _ _) (Seals.trans (Seals.sub (fs' := [(q, ShD s)]) qS) ?_))
        rw [show lstJ t = cn 1 from if_pos e1, show lstJ y = y from if_neg e2]
        exact Seals.trans (Seals.boxAt 0 rfl rfl) (Seals.trans (Seals.boxAt 3 rfl rfl) (Seals.boxAt 4 rfl rfl))
    · refine cmp_false rfl (fun h => e1 (Int.sign_eq_zero_iff_zero.1 h)) ?_
      refine load_box (d := J y) 4 rfl h3 rfl (load_J _) fun y4 => ?_
      refine call_fn (hsy y4) (Seals.refl _ _) qS ?_
      rintro _ _ _ ⟨rfl, rfl, rfl⟩
      by_cases e2 : jv y = 0
      · refine cmp_true rfl (by rw [e2]; rfl) ?_
        refine load_box (d := zd 1) 0 rfl hc rfl (load_I _ _) fun y5 => ?_
        refine store_box (d := zd 1) 4 rfl h3 rfl (by kernel_rfl) (Reads.fact (d := zd 1) qM) ?_
        refine again (b2, b3, o, q, bp, mv) ⟨h2, h3, ho, hbp, hmv⟩ trivial qF ?_
        refine Seals.trans (Seals.drop 0 _ _) (Seals.trans (Seals.drop 5 _ _) (Seals.trans (Seals.sub (fs' := [(q, ShD s)]) qS) ?_))
        rw [show lstJ t = t from if_neg e1, show lstJ y = cn 1 from if_pos e2]
        exact Seals.trans (Seals.boxAt 0 rfl rfl) (Seals.trans (Seals.boxAt 3 rfl rfl) (Seals.boxAt 4 rfl rfl))
      · refine cmp_false rfl (fun h => e2 (Int.sign_eq_zero_iff_zero.1 h)) ?_
        refine again (b2, b3, o, q, bp, mv) ⟨h2, h3, ho, hbp, hmv⟩ trivial qF ?_
        refine Seals.trans (Seals.drop 0 _ _) (Seals.trans (Seals.drop 5 _ _) (Seals.trans (Seals.sub (fs' := [(q, ShD s)]) qS) ?_))
        rw [show lstJ t = t from if_neg e1, show lstJ y = y from if_neg e2]
        exact Seals.trans (Seals.boxAt 0 rfl rfl) (Seals.trans (Seals.boxAt 3 rfl rfl) (Seals.boxAt 4 rfl rfl))
  rintro ⟨b2, b3, o, q, bp, mv⟩ ⟨h2, h3, ho, hbp, hmv⟩
  simp only at h2 h3 ho hbp hmv ⊢
  have hpt := fun (i : Nat) (hi : i ≤ 1000) y1 => slzpower_meets y1 (lstJ t) i (a + 1) zt.1 zt.2 hi (by omega)
  have hpy := fun (i : Nat) (hi : i ≤ 1000) y1 => slzpower_meets y1 (lstJ y) i (a + 1) zy.1 zy.2 hi (by omega)
  have st : ∀ i, i ≤ 1000 → sz (jv (lstJ t) ^ i) (1000 * (a + 1) + 1) := fun i hi => (sz_pow (sz_jv zt.1 zt.2) i).mono (Nat.succ_le_succ (Nat.mul_le_mul_right _ hi))
  have sy : ∀ i, i ≤ 1000 → sz (jv (lstJ y) ^ i) (1000 * (a + 1) + 1) := fun i hi => (sz_pow (sz_jv zy.1 zy.2) i).mono (Nat.succ_le_succ (Nat.mul_le_mul_right _ hi))
  have hmu := fun (i j : Nat) (hi : i ≤ 1000) (hj : j ≤ 1000) y1 y2 => zMulZ y1 y2 _ _ _ _ (st i hi) (sy j hj) (by omega) (by omega)
  clear hpm st sy hshp hdd hsm hst hsy zt zy
  generalize lstJ t = T at *
  generalize lstJ y = Y at *
  generalize jv m ^ n = M at *
  refine len_fact qM fun _ => ?_
  refine loop_rule (X := Nat × Value) (fun x => ([(7, b2), (8, b3), (10, o), (14, bp), (58, q), (59, .int .i64 (s.length : Nat)), (60, .int .i64 (x.1 : Nat))],
      [ownL 2 J z0 x.2 (((s.take x.1).map (sclV (jv T) (jv Y))).map cn), own1 bp 5 1 (fun _ => planB q mv x.2 (zd M)), ownMD kD 0 mv (cmap s x.1), own1 o 5 1 (fun _ => planZD), own1 b3 2 1 (fun _ => J Y), own1 b2 2 1 (fun _ => J T)], [(q, ShD s)]))
    (fun x => x.1 ≤ s.length ∧ isSl x.2) (fun x => s.length - x.1) rfl ?_ ?_
  · exact again (0, .slice none 0 0) ⟨Nat.zero_le _, isSl_nil⟩ trivial qF (Seals.trans (Seals.own_nil _ _ 2 fun i => J (([] : Row).getD i z0)) (Seals.sub qS))
  rintro ⟨i, sv⟩ ⟨hi, hsv⟩
  simp only at hi hsv ⊢
  refine cmp_split _ rfl (fun hlt => ?_) (fun hlt => ?_)
  · have his : i < s.length := by omega
    have hpi := hsb _ (getD_mem (0, 0) his)
    have htk : (s.take (i + 1)).map (sclV (jv T) (jv Y)) = (s.take i).map (sclV (jv T) (jv Y)) ++ [sclV (jv T) (jv Y) (s.getD i (0, 0))] := by
      rw [List.take_add_one, List.getElem?_eq_getElem his, List.map_append, List.getD_eq_getElem?_getD, List.getElem?_eq_getElem his]; rfl
    have hcm := cmap_succ s i
    have hcl := cmap_len s i
    have hnd := cmap_nd hsn hi
    have hin := cmap_in hsb hi
    have htl : (((s.take i).map (sclV (jv T) (jv Y))).map cn).length = i := by rw [List.length_map, List.length_map, List.length_take]; omega
    have hnew := mput_newG (L := cmap s i) (i := (s.getD i (0, 0)).1) (j := (s.getD i (0, 0)).2) (fun x hx e => by
      obtain ⟨k, hk, rfl⟩ := List.mem_map.1 hx
      have hk' := List.mem_range.1 hk
      have := nd_get hsn (i := k) (j := i) (by omega) his (Prod.ext e.1 e.2)
      omega) i
    refine index_fact (v := q) qM i rfl his fun a1 => ?_
    refine load_fact (d := spE (s.getD i (0, 0))) qM (load_sp _) fun a2 => ?_
    have hsc : sclV (jv T) (jv Y) (s.getD i (0, 0)) = jv T ^ (s.getD i (0, 0)).1 * jv Y ^ (s.getD i (0, 0)).2 := rfl
    generalize s.getD i (0, 0) = pp at *
    obtain ⟨p1, p2⟩ := pp
    simp only at hpi hnew hcm hsc
    refine alloc_rule (d := spotD 0 0) fun bq hbq => ?_
    refine store_box (d := spotD (p1 : Nat) (p2 : Nat)) 0 rfl hbq rfl (by kernel_rfl) (Reads.fact (d := spE (p1, p2)) qM) ?_
    refine field_box 2 rfl hbp ?_
    refine load_box_field_one 2 rfl (Part.right (Part.left (Part.refl _))) ?_
    refine load_spot 0 rfl hbq rfl ?_
    refine put_L i 3 rfl hmv hin hnd (by omega) (by omega) (by unfold maxLen; omega) (Knw.one rfl) ?_
    rw [hnew]
    refine draw_rule [0, 1, 2, 3, 4, 6, 7, 8, 5, 9, 10, 11, 12, 13, 14] [0, 1, 2, 3, 4, 5, 6, 7, 8, 9, 10, 11, 12, 13, 14] (by kernel_rfl) (by kernel_rfl) ?_
    refine field_box 2 rfl hbp ?_
    refine load_box_field_one 2 rfl (Part.right (Part.right (Part.left (Part.refl _)))) ?_
    refine load_box (d := J T) 6 rfl h2 rfl (load_J _) fun y1 => ?_
    refine index_arr hbq 0 rfl (by decide) ?_
    refine load_box_field_one 0 rfl (Part.left (Part.refl _)) ?_
    refine load_box (d := J Y) 5 rfl h3 rfl (load_J _) fun y2 => ?_
    refine index_arr hbq 1 rfl (by decide) ?_
    refine load_box_field_one 0 rfl (Part.right (Part.refl _)) ?_
    refine call_fn (hpt p1 hpi.1 y1) (Seals.refl _ _) qS ?_
    rintro y3 _ _ ⟨rfl, rfl⟩
    refine call_fn (hpy p2 hpi.2 y2) (Seals.refl _ _) qS ?_
    rintro y4 _ _ ⟨rfl, rfl⟩
    refine call_fn (hmu p1 p2 hpi.1 hpi.2 y3 y4) (Seals.refl _ _) qS ?_
    rintro y5 _ _ ⟨rfl, rfl⟩
    refine lit_L (size := 2) J z0 (cn (jv T ^ p1 * jv Y ^ p2)) (by decide) (Reads.fact (d := zd (jv T ^ p1 * jv Y ^ p2)) qM) rfl fun l1 => ?_
    refine append_L 1 rfl hsv (Knw.fact qM) (by simp only [List.length_cons, List.length_nil]; omega) (by simp only [List.length_cons, List.length_nil]; omega) fun u2 hu2 => ?_
    refine field_box 2 rfl hbp ?_
    refine store_part (d := .one u2) (d' := planB q mv u2 (zd M)) 2 rfl hbp (Nat.le_of_ble_eq_true rfl) Nat.zero_lt_one (by kernel_rfl) (Reads.one (by obtain ⟨_, _, _, rfl⟩ := hu2; rfl)) (fun S w cs cs' => planB_put S w cs cs') ?_
    refine ar rfl qI ?_
    refine again (i + 1, u2) ⟨by simp only; omega, hu2⟩ (by simp only; omega) qF (Seals.trans (Seals.drop 0 _ _) ?_)
    simp only [htk, hcm, hsc, List.map_append, List.map_cons, List.map_nil]
    exact Seals.sub qS
  · have hil : i = s.length := by omega
    subst hil
    rw [List.take_length]
    refine load_box (d := planB q mv sv (zd M)) 1 rfl hbp rfl (show TAgg Tryz.prog 81 5 from inferInstance) fun vp => ?_
    refine store_box (d := planB q mv sv (zd M)) 3 rfl ho rfl (by kernel_rfl) (Reads.fact qM) ?_
    refine load_box (d := planB q mv sv (zd M)) 3 rfl ho rfl (show TAgg Tryz.prog 81 5 from inferInstance) fun r => ?_
    refine fin ⟨rfl, r, rfl, rfl⟩ (Seals.trans (Seals.L 0 rfl hsv) (Seals.trans (Seals.mapL 1 rfl hmv) (Seals.trans (Seals.drop 0 _ _) (Seals.trans (Seals.drop 0 _ _) (Seals.trans (Seals.drop 0 _ _) (Seals.trans (Seals.drop 0 _ _) ?_))))))
    exact Seals.cons (Knw.plan (x := q) (m := mv) (s := sv) qM qM qM qM rfl rfl rfl) (Seals.nil _ _)
open Go.RowKit
theorem cmap_lk {s : List (Nat × Nat)} (h : s.Nodup) {k : Nat} (hk : k < s.length) {u v : Nat} (e : s.getD k (0, 0) = (u, v)) : lk 0 (cmap s s.length) u v = k := by
  have hl := cmap_len s s.length
  rcases lk_some (z := 0) (L := cmap s s.length) (i := u) (j := v) with ⟨n, h1, h2, h3⟩ | ⟨h1, _⟩
  · rw [hl] at h1
    obtain ⟨e1, e2⟩ := mapK_eq h2
    rw [cmap_get s h1] at e1 e2 h3
    rw [h3]
    exact nd_get h h1 hk (by rw [e]; exact Prod.ext e1 e2)
  · refine absurd ?_ (h1 k (by rw [hl]; exact hk))
    unfold mapK spk
    rw [cmap_get s hk, e]
theorem mem_idx {s : List (Nat × Nat)} {p : Nat × Nat} (h : p ∈ s) : ∃ k, k < s.length ∧ s.getD k (0, 0) = p := by
  obtain ⟨k, hk, e⟩ := List.mem_iff_getElem.1 h
  exact ⟨k, hk, by rw [List.getD_eq_getElem?_getD, List.getElem?_eq_getElem hk]; exact e⟩
def rowV (s : List (Nat × Nat)) (T Y : Int) (G : List (List Int)) : List Int := s.map fun p => gv G p.1 p.2 * sclV T Y p
def rE (G : List (List Int)) (T Y : Int) (s : List (Nat × Nat)) (u v k : Nat) : Dat :=
  zd (if (s.getD k (0, 0)).1 < u ∨ ((s.getD k (0, 0)).1 = u ∧ (s.getD k (0, 0)).2 < v) then gv G (s.getD k (0, 0)).1 (s.getD k (0, 0)).2 * sclV T Y (s.getD k (0, 0)) else 0)
theorem rE_skip {G : List (List Int)} {T Y : Int} {s : List (Nat × Nat)} {u v k : Nat} (h : gv G u v = 0) : rE G T Y s u (v + 1) k = rE G T Y s u v k := by
  unfold rE
  generalize s.getD k (0, 0) = p
  by_cases e : p.1 = u ∧ p.2 = v
  · rw [if_pos (by omega), if_neg (by omega), e.1, e.2, h, Int.zero_mul]
  · by_cases g : p.1 < u ∨ (p.1 = u ∧ p.2 < v)
    · rw [if_pos (by omega), if_pos g]
    · rw [if_neg (by omega), if_neg g]
theorem rE_row {G : List (List Int)} {T Y : Int} {s : List (Nat × Nat)} {u v k : Nat} (h : ∀ w, v ≤ w → gv G u w = 0) : rE G T Y s u v k = rE G T Y s (u + 1) 0 k := by
  unfold rE
  generalize s.getD k (0, 0) = p
  by_cases g : p.1 < u ∨ (p.1 = u ∧ p.2 < v)
  · rw [if_pos g, if_pos (by omega)]
  · rw [if_neg g]
    by_cases g2 : p.1 < u + 1 ∨ (p.1 = u + 1 ∧ p.2 < 0)
    · have e : p.1 = u := by omega
      rw [if_pos g2, e, h p.2 (by omega), Int.zero_mul]
    · rw [if_neg g2]
theorem rE_set {G : List (List Int)} {T Y : Int} {s : List (Nat × Nat)} {u v k : Nat} (hn : s.Nodup) (hk : k < s.length) (e : s.getD k (0, 0) = (u, v)) {k' : Nat} (hk' : k' < s.length) :
    upd (rE G T Y s u v) k (zd (gv G u v * sclV T Y (u, v))) k' = rE G T Y s u (v + 1) k' := by
  unfold upd
  by_cases hkk : k' = k
  · rw [if_pos hkk, hkk]
    unfold rE
    rw [e]
    simp only
    simp
  · rw [if_neg hkk]
    have hne : s.getD k' (0, 0) ≠ (u, v) := fun h => hkk (nd_get hn hk' hk (h.trans e.symm))
    unfold rE
    generalize s.getD k' (0, 0) = p at *
    obtain ⟨p1, p2⟩ := p
    have : ¬ (p1 = u ∧ p2 = v) := fun h => hne (Prod.ext h.1 h.2)
    simp only
    by_cases g : p1 < u ∨ (p1 = u ∧ p2 < v)
    · rw [if_pos g, if_pos (by omega)]
    · rw [if_neg g, if_neg (by omega)]
theorem slzrow_meets (v w : Value) (s : List (Nat × Nat)) (T Y M : Int) (g : List Row) (k b : Nat) (hn : s.Nodup) (hb : ∀ p, p ∈ s → p.1 ≤ 1000 ∧ p.2 ≤ 1000) (ls : s.length ≤ 100) (hg : ∀ r, r ∈ g → r.length ≤ 1048576 ∧ Fit k r) (lg : g.length ≤ 1048576)
    (hs : ∀ u v, gv (ww g) u v ≠ 0 → (u, v) ∈ s) (hk : k ≤ 1000000) (hz : ∀ p, p ∈ s → sz (sclV T Y p) b) (hbb : b ≤ 100000000) :
    Meets Tryz.prog 59 [v, w] [(v, planD s T Y M), (w, W g)] (fun r os fs => os = [] ∧ fs = [(r, vd (rowV s T Y (ww g)))]) := by
  have hin := cmap_in hb (Nat.le_refl s.length)
  have hnd := cmap_nd hn (Nat.le_refl s.length)
  have hsl : ∀ i, i < s.length → ((s.map (sclV T Y)).map cn).getD i z0 = cn (sclV T Y (s.getD i (0, 0))) := fun i hi => by
    simp [List.getD_eq_getElem?_getD, hi]
  have hlk := fun i (hi : i < s.length) u v e => cmap_lk hn hi (u := u) (v := v) e
  have hml : ((s.map (sclV T Y)).map cn).length = s.length := by simp
  refine meets_of_vc Tryz.func59 (by kernel_rfl) rfl (by kernel_rfl) (Nat.le_of_ble_eq_true rfl) ?_
  refine box_rule (Reads.fact (d := planD s T Y M) qM) fun bp hbp => ?_
  refine field_box 0 rfl hbp ?_
  refine load_box_field (d := ShD s) 0 rfl (Part.left (Part.refl _)) (load_Sh _) fun y1 => ?_
  refine len_fact (v := y1) (n := s.length) qM fun _ => ?_
  refine make_rule (t := 22) (d := I false []) s.length (by omega) (by omega) (by omega) (by omega) fun ov hov => ?_
  refine len_fact (v := w) qM fun _ => ?_
  refine loop_rule (X := Nat) (fun i => ([(1, w), (2, bp), (5, ov), (15, .int .i64 (g.length : Nat)), (16, .int .i64 (i : Nat))], [own1 ov 2 s.length (rE (ww g) T Y s i 0), own1 bp 5 1 (fun _ => planD s T Y M)], [(w, W g)])) (fun i => i ≤ g.length) (fun i => g.length - i) rfl ?_ ?_
  · exact again 0 (Nat.zero_le _) trivial qF (Seals.trans (Seals.own_cong (os := [_, _]) 0 (rE (ww g) T Y s 0 0) rfl rfl fun y _ => by
      unfold rE; rw [if_neg (by omega)]; exact zero_zd) (Seals.sub qS))
  rintro i hi
  refine cmp_split _ rfl (fun hlt => ?_) (fun hlt => ?_)
  · have hig : i < g.length := by omega
    have hr := hg _ (getD_mem [] hig)
    have hgr : ∀ j, gv (ww g) i j = jv ((g.getD i []).getD j z0) := fun j => gv_ww g i j
    refine index_fact (v := w) qM i rfl hig fun a1 => ?_
    refine load_fact (d := V (g.getD i [])) qM (load_V _) fun a2 => ?_
    generalize g.getD i [] = r at *
    generalize hG : ww g = G at *
    refine len_fact (v := a2) qM fun _ => ?_
    refine loop_rule (X := Nat) (fun j => ([(1, w), (2, bp), (5, ov), (6, .int .i64 (i : Nat)), (15, .int .i64 (g.length : Nat)), (16, .int .i64 (i : Nat)), (22, a2), (23, .int .i64 (r.length : Nat)), (24, .int .i64 (j : Nat))], [own1 ov 2 s.length (rE G T Y s i j), own1 bp 5 1 (fun _ => planD s T Y M)], [(a2, V r), (w, W g)])) (fun j => j ≤ r.length) (fun j => r.length - j) rfl ?_ ?_
    · exact again 0 (Nat.zero_le _) trivial qF (Seals.sub qS)
    rintro j hj
    refine cmp_split _ rfl (fun hlt2 => ?_) (fun hlt2 => ?_)
    · have hjr : j < r.length := by omega
      have hx := hr.2.get j
      have hsg := fun u => zsign_meets u (r.getD j z0).1 (r.getD j z0).2 hx.1 (by omega)
      have hc := hgr j
      have hsij := hs i j
      have hsk := fun k => rE_skip (G := G) (T := T) (Y := Y) (s := s) (u := i) (v := j) (k := k)
      refine index_fact (v := a2) qM j rfl hjr fun a3 => ?_
      refine load_fact (d := J (r.getD j z0)) qM (load_J _) fun a4 => ?_
      generalize r.getD j z0 = x at *
      refine alloc_rule (d := I false []) fun q hq => ?_
      refine store_box (d := J x) 0 rfl hq rfl (by kernel_rfl) (Reads.fact qM) ?_
      refine field_box 2 rfl hbp ?_
      refine load_box_field (d := MD kD 0 (cmap s s.length)) 2 rfl (Part.right (Part.left (Part.refl _))) (show TOne Tryz.prog 79 from inferInstance) fun y2 => ?_
      refine build_arr ?_
      refine get_num (v := y2) qM hin hnd (by omega) (by omega) ?_
      refine load_box (d := J x) 0 rfl hq rfl (load_J _) fun y3 => ?_
      refine call_fn (hsg y3) (Seals.refl _ _) qS ?_
      rintro _ _ _ ⟨rfl, rfl, rfl⟩
      by_cases h0 : jv x = 0
      · refine cmp_false rfl (fun hne => hne (by show (jv x).sign = 0; rw [h0]; rfl)) ?_
        refine ar rfl qI ?_
        refine again (j + 1) (by omega) (by simp only; omega) qF (Seals.trans (Seals.drop 0 _ _) (Seals.trans (Seals.own_cong (os := [_, _]) 0 (rE G T Y s i (j + 1)) rfl rfl fun y _ => ?_) (Seals.sub qS)))
        exact (hsk y (by rw [hc]; exact h0)).symm
      · refine cmp_true rfl (fun e => h0 (Int.sign_eq_zero_iff_zero.1 e)) ?_
        obtain ⟨kk, hkk, hke⟩ := mem_idx (hsij (by rw [hc]; exact h0))
        rw [hlk kk hkk i j hke]
        have hzz := hz _ (getD_mem (0, 0) hkk)
        have hmu := fun y1 y2 => zMulJZ y1 y2 x _ b hx.1 (by omega) hzz (by omega)
        have hset := fun k' (hk' : k' < s.length) => rE_set (G := G) (T := T) (Y := Y) hn hkk hke hk'
        have hsk2 := hsl kk hkk
        rw [hke] at hmu hsk2
        rw [hc] at hset
        refine draw_rule [0, 1, 2, 3, 4, 5, 6, 7, 8, 9, 10] [0, 1, 2, 3, 4, 5, 6, 7, 8, 9, 10] (by kernel_rfl) (by kernel_rfl) ?_
        refine load_box (d := J x) 0 rfl hq rfl (load_J _) fun y4 => ?_
        refine field_box 2 rfl hbp ?_
        refine load_box_field (d := vd (s.map (sclV T Y))) 2 rfl (Part.right (Part.right (Part.left (Part.refl _)))) (load_V _) fun y5 => ?_
        refine index_fact (v := y5) qM kk rfl (by rw [hml]; exact hkk) fun y6 => ?_
        refine load_fact (d := J (((s.map (sclV T Y)).map cn).getD kk z0)) qM (load_J _) fun y7 => ?_
        rw [hsk2]
        refine call_fn (hmu y4 y7) (Seals.refl _ _) qS ?_
        rintro y8 _ _ ⟨rfl, rfl⟩
        refine index_elem 1 rfl hov kk rfl hkk ?_
        refine store_elem (d := zd (jv x * sclV T Y (i, j))) 1 rfl kk hkk rfl (by kernel_rfl) (Reads.fact qM) ?_
        refine ar rfl qI ?_
        refine again (j + 1) (by omega) (by simp only; omega) qF (Seals.trans (Seals.drop 0 _ _) (Seals.trans (Seals.own_cong (os := [_, _]) 0 (rE G T Y s i (j + 1)) rfl rfl fun y hy => ?_) (Seals.sub qS)))
        exact hset y hy
    · have hjr : j = r.length := by omega
      subst hjr
      refine ar rfl qI ?_
      refine again (i + 1) (by omega) (by simp only; omega) qF (Seals.trans (Seals.own_cong (os := [_, _]) 0 (rE G T Y s (i + 1) 0) rfl rfl fun y _ => ?_) (Seals.sub qS))
      exact rE_row fun z hz => by rw [hgr, getD_end (l := r) (by omega)]; rfl
  · have hig : i = g.length := by omega
    subst hig
    refine fin ⟨rfl, rfl⟩ (Seals.trans (Seals.told (g := fun k => gv (ww g) (s.getD k (0, 0)).1 (s.getD k (0, 0)).2 * sclV T Y (s.getD k (0, 0))) hov fun y hy => ?_) (Seals.trans (Seals.drop 0 _ _) (Seals.cons (Knw.cast (Knw.fact qM) ?_) (Seals.nil _ _))))
    · unfold rE
      by_cases h : (s.getD y (0, 0)).1 < g.length
      · rw [if_pos (.inl h)]
      · rw [if_neg (by omega), gv_ww, getD_end (l := g) (by omega)]
        show zd 0 = zd (0 * _)
        rw [Int.zero_mul]
    · congr 1
      unfold rowV
      refine List.ext_getElem (by simp) fun n h1 h2 => ?_
      have hn' : n < s.length := by simpa using h1
      simp [List.getD_eq_getElem?_getD, hn']
end Go.Proofs.YtjebljkoiaojaaaGreat
