/- The law GridPoints is true of each input, and changes none. No condition. -/
import Derived.Test.YtfkeohlpcjpkbaaM4
import Derived.Test.YtfkeohlpcjpkbaaRows
import Derived.OpenShut
import Derived.Below
import Derived.Lib.SmallJoins
set_option linter.unusedVariables false
set_option linter.unusedSimpArgs false

namespace Go.Proofs.Ytfkeohlpcjpkbaa
open Go.RowKit
/-- A row of Sylvester's matrix: F's coefficients from the highest on, at places a, a + 1 .. -/
def syRow (F : List (List Int)) (d a : Nat) (y : Nat) : List Int := if a ≤ y ∧ y < a + (d + 1) then F.getD (d - (y - a)) [] else []
def syX (A B : List (List Int)) (m n : Nat) : Px := fun i y => if i < n then syRow A m i y else syRow B n (i - n) y
def syPart (F : List (List Int)) (d a k : Nat) (y : Nat) : List Int := if a ≤ y ∧ y < a + k then F.getD (d - (y - a)) [] else []
theorem syPart_s (F : List (List Int)) {d a k : Nat} (y : Nat) : upd (fun y => vd (syPart F d a k y)) (a + k) (vd (F.getD (d - k) [])) y = vd (syPart F d a (k + 1) y) := by
  unfold upd syPart
  by_cases h : y = a + k
  · subst h
    rw [if_pos rfl, if_pos (by omega), show a + k - a = k by omega]
  · rw [if_neg h]
    show vd (if a ≤ y ∧ y < a + k then F.getD (d - (y - a)) [] else []) = _
    by_cases h2 : a ≤ y ∧ y < a + k
    · rw [if_pos h2, if_pos (by omega)]
    · rw [if_neg h2, if_neg (by omega)]
theorem gsylvester_meets (va vb : Value) (A B : List (List Int)) (m n : Nat) (hA : A.length = m + 1) (hB : B.length = n + 1) (hm : m ≤ 1048576) (hn : n ≤ 1048576) :
    Meets Try.prog 44 [va, vb, .int .i64 (m : Nat), .int .i64 (n : Nat)] [(va, wd A), (vb, wd B)] (fun r os fs => isSl r ∧ ∃ vs, (∀ i, i < m + n → isSl (vs i)) ∧ os = [famP vs (m + n) (m + n) (syX A B m n), outer r (m + n) vs] ∧ fs = []) := by
  refine meets_of_vc Try.func44 (by kernel_rfl) rfl (by kernel_rfl) (Nat.le_of_ble_eq_true rfl) ?_
  refine ar (n := ((m + n : Nat) : Int)) (by simp [arZ]) (by first | exact ⟨by omega, by omega⟩ | (simp only [inK]; omega)) ?_
  have tz := tz_pp
  have tzp := tz_p
  refine make_rule (t := 58) (d := .one (.slice none 0 0)) (m + n) rfl rfl (by omega) (by omega) fun v hv => ?_
  refine len_own 0 rfl hv fun _ => ?_
  refine loop_rule (X := Nat × (Nat → Value)) (fun x => ([(0, va), (1, vb), (2, .int .i64 (m : Nat)), (3, .int .i64 (n : Nat)), (9, v), (20, .int .i64 ((m + n : Nat) : Int)), (21, .int .i64 (x.1 : Nat))], [famP x.2 x.1 (m + n) (syX A B m n), outer v (m + n) x.2], [(va, wd A), (vb, wd B)]))
    (fun x => x.1 ≤ m + n ∧ ∀ i, i < x.1 → isSl (x.2 i)) (fun x => m + n - x.1) rfl ?_ ?_
  · exact again (0, fun _ => .slice none 0 0) ⟨Nat.zero_le _, fun i hi => absurd hi (Nat.not_lt_zero _)⟩ trivial (by repeat (first | exact trivial | refine ⟨rfl, ?_⟩ | refine ⟨i64_eq (by first | omega | (simp only; omega)), ?_⟩ | refine ⟨u64_eq (by first | omega | (simp only; omega)), ?_⟩)) (Seals.none _ rfl)
  · rintro ⟨i, vs⟩ ⟨h1, h2⟩
    simp only at h1 h2 ⊢
    refine cmp_split _ rfl (fun hi => ?_) (fun hi => ?_)
    · have hilt : i < m + n := by omega
      refine ar (n := ((m + n : Nat) : Int)) (by simp [arZ]) (by first | exact ⟨by omega, by omega⟩ | (simp only [inK]; omega)) ?_
      refine make_rule (t := 62) (d := vd []) (m + n) rfl rfl (by omega) (by omega) fun u hu => ?_
      refine index_elem 2 rfl hv i rfl hilt ?_
      refine StoreK.post (store_elem (d := .one u) 2 rfl i hilt rfl (by kernel_rfl) (Reads.one hu.one) ⟨_, _, Seals.own_cong (os := [_, _, _]) 2 (fun y => .one (if y = i then u else vs y)) rfl rfl (fun y _ => by simp only [upd]; split <;> rfl), ?_⟩)
      by_cases hin : i < n
      · refine cmp_false rfl (by omega) ?_
        have hrow : ∀ y, syX A B m n i y = syPart A m i (m + 1) y := fun y => by unfold syX; rw [if_pos hin]; rfl
        refine ar (n := ((m + 1 : Nat) : Int)) (by simp [arZ]) (by first | exact ⟨by omega, by omega⟩ | (simp only [inK]; omega)) ?_
        refine loop_rule (X := Nat) (fun k => ([(0, va), (1, vb), (2, .int .i64 (m : Nat)), (3, .int .i64 (n : Nat)), (9, v), (10, .int .i64 (i : Nat)), (11, va), (12, .int .i64 (m : Nat)), (13, .int .i64 ((i : Nat) : Int)), (20, .int .i64 ((m + n : Nat) : Int)), (21, .int .i64 (i : Nat)), (43, .int .i64 ((m + 1 : Nat) : Int)), (44, .int .i64 (k : Nat))],
          [own1 u 1 (m + n) (fun y => vd (syPart A m (i) k y)), famP vs i (m + n) (syX A B m n), outer v (m + n) fun y => if y = i then u else vs y], [(va, wd A), (vb, wd B)])) (fun k => k ≤ m + 1) (fun k => m + 1 - k) rfl ?_ ?_
        · exact again 0 (Nat.zero_le _) trivial (by repeat (first | exact trivial | refine ⟨rfl, ?_⟩ | refine ⟨i64_eq (by first | omega | (simp only; omega)), ?_⟩ | refine ⟨u64_eq (by first | omega | (simp only; omega)), ?_⟩)) (Seals.trans (Seals.own_cong (os := [_, _, _]) 0 (fun y => vd (syPart A m (i) 0 y)) rfl rfl fun y _ => by unfold syPart; rw [if_neg (by omega)]) (Seals.sub (by repeat (first | exact Sub.nil _ | refine Sub.cons (by repeat (first | exact List.Mem.head _ | apply List.Mem.tail)) ?_))))
        · rintro k hk
          refine cmp_split _ rfl (fun hc => ?_) (fun hc => ?_)
          · refine draw_rule [0, 1, 2, 3, 4, 5, 6, 7, 8, 9, 10, 11, 12, 13, 14] [0, 1, 2, 3, 4, 5, 6, 7, 8, 9, 10, 11, 12, 13, 14] (by kernel_rfl) (by kernel_rfl) ?_
            refine index_elem 2 rfl hv i rfl hilt ?_
            refine load_one_elem 2 rfl i hilt (u := u) (by simp) ?_
            refine ar (n := ((i + k : Nat) : Int)) (by simp only [arZ, Option.some.injEq]; omega) (by first | exact ⟨by omega, by omega⟩ | (simp only [inK]; omega)) ?_
            refine ar (n := ((m - k : Nat) : Int)) (by simp only [arZ, Option.some.injEq]; omega) (by first | exact ⟨by omega, by omega⟩ | (simp only [inK]; omega)) ?_
            refine index_wd (by repeat (first | exact List.Mem.head _ | apply List.Mem.tail)) (m - k) rfl (by omega) fun b1 => ?_
            refine load_fact (d := vd ((A).getD (m - k) [])) (by repeat (first | exact List.Mem.head _ | apply List.Mem.tail)) (load_V _) fun y1 => ?_
            refine index_elem 0 rfl hu (i + k) rfl (by omega) ?_
            refine StoreK.post (store_elem (d := vd ((A).getD (m - k) [])) 0 rfl (i + k) (by omega) rfl (by kernel_rfl) (Reads.fact (by repeat (first | exact List.Mem.head _ | apply List.Mem.tail))) ⟨_, _, Seals.own_cong (os := [_, _, _]) 0 (fun y => vd (syPart A m (i) (k + 1) y)) rfl rfl (fun y _ => syPart_s A y), ?_⟩)
            refine ar rfl (by first | exact ⟨by omega, by omega⟩ | (simp only [inK]; omega)) ?_
            exact again (k + 1) (by omega) (by simp only; omega) (by repeat (first | exact trivial | refine ⟨rfl, ?_⟩ | refine ⟨i64_eq (by first | omega | (simp only; omega)), ?_⟩ | refine ⟨u64_eq (by first | omega | (simp only; omega)), ?_⟩)) (Seals.sub (by repeat (first | exact Sub.nil _ | refine Sub.cons (by repeat (first | exact List.Mem.head _ | apply List.Mem.tail)) ?_)))
          · have hkd : k = m + 1 := by omega
            subst hkd
            refine ar rfl (by first | exact ⟨by omega, by omega⟩ | (simp only [inK]; omega)) ?_
            refine again (i + 1, fun y => if y = i then u else vs y) ⟨by simp only; omega, fun y hy => ?_⟩ (by simp only; omega) (by repeat (first | exact trivial | refine ⟨rfl, ?_⟩ | refine ⟨i64_eq (by first | omega | (simp only; omega)), ?_⟩ | refine ⟨u64_eq (by first | omega | (simp only; omega)), ?_⟩)) ?_
            · simp only at hy ⊢
              by_cases e : y = i
              · rw [if_pos e]; exact hu
              · rw [if_neg e]; exact h2 y (by omega)
            · refine Seals.trans (Seals.join (F' := famP (fun y => if y = i then u else vs y) (i + 1) (m + n) (syX A B m n)) rfl rfl rfl (fun y hy => ⟨?_, rfl, fun _ _ => rfl⟩) ⟨?_, rfl, fun y hy => ?_⟩) (Seals.sub (by repeat (first | exact Sub.nil _ | refine Sub.cons (by repeat (first | exact List.Mem.head _ | apply List.Mem.tail)) ?_)))
              · have hy' : y < i := hy
                show (if y = i then u else vs y) = vs y
                rw [if_neg (by omega)]
              · show (if i = i then u else vs i) = u
                rw [if_pos rfl]
              · exact congrArg vd (hrow y)
      · refine cmp_true rfl (by omega) ?_
        refine ar (n := ((i - n : Nat) : Int)) (by simp only [arZ, Option.some.injEq]; omega) (by first | exact ⟨by omega, by omega⟩ | (simp only [inK]; omega)) ?_
        have hrow : ∀ y, syX A B m n i y = syPart B n (i - n) (n + 1) y := fun y => by unfold syX; rw [if_neg hin]; rfl
        refine ar (n := ((n + 1 : Nat) : Int)) (by simp [arZ]) (by first | exact ⟨by omega, by omega⟩ | (simp only [inK]; omega)) ?_
        refine loop_rule (X := Nat) (fun k => ([(0, va), (1, vb), (2, .int .i64 (m : Nat)), (3, .int .i64 (n : Nat)), (9, v), (10, .int .i64 (i : Nat)), (11, vb), (12, .int .i64 (n : Nat)), (13, .int .i64 (((i - n) : Nat) : Int)), (20, .int .i64 ((m + n : Nat) : Int)), (21, .int .i64 (i : Nat)), (43, .int .i64 ((n + 1 : Nat) : Int)), (44, .int .i64 (k : Nat))],
          [own1 u 1 (m + n) (fun y => vd (syPart B n ((i - n)) k y)), famP vs i (m + n) (syX A B m n), outer v (m + n) fun y => if y = i then u else vs y], [(va, wd A), (vb, wd B)])) (fun k => k ≤ n + 1) (fun k => n + 1 - k) rfl ?_ ?_
        · exact again 0 (Nat.zero_le _) trivial (by repeat (first | exact trivial | refine ⟨rfl, ?_⟩ | refine ⟨i64_eq (by first | omega | (simp only; omega)), ?_⟩ | refine ⟨u64_eq (by first | omega | (simp only; omega)), ?_⟩)) (Seals.trans (Seals.own_cong (os := [_, _, _]) 0 (fun y => vd (syPart B n ((i - n)) 0 y)) rfl rfl fun y _ => by unfold syPart; rw [if_neg (by omega)]) (Seals.sub (by repeat (first | exact Sub.nil _ | refine Sub.cons (by repeat (first | exact List.Mem.head _ | apply List.Mem.tail)) ?_))))
        · rintro k hk
          refine cmp_split _ rfl (fun hc => ?_) (fun hc => ?_)
          · refine draw_rule [0, 1, 2, 3, 4, 5, 6, 7, 8, 9, 10, 11, 12, 13, 14] [0, 1, 2, 3, 4, 5, 6, 7, 8, 9, 10, 11, 12, 13, 14] (by kernel_rfl) (by kernel_rfl) ?_
            refine index_elem 2 rfl hv i rfl hilt ?_
            refine load_one_elem 2 rfl i hilt (u := u) (by simp) ?_
            refine ar (n := (((i - n) + k : Nat) : Int)) (by simp only [arZ, Option.some.injEq]; omega) (by first | exact ⟨by omega, by omega⟩ | (simp only [inK]; omega)) ?_
            refine ar (n := ((n - k : Nat) : Int)) (by simp only [arZ, Option.some.injEq]; omega) (by first | exact ⟨by omega, by omega⟩ | (simp only [inK]; omega)) ?_
            refine index_wd (by repeat (first | exact List.Mem.head _ | apply List.Mem.tail)) (n - k) rfl (by omega) fun b1 => ?_
            refine load_fact (d := vd ((B).getD (n - k) [])) (by repeat (first | exact List.Mem.head _ | apply List.Mem.tail)) (load_V _) fun y1 => ?_
            refine index_elem 0 rfl hu ((i - n) + k) rfl (by omega) ?_
            refine StoreK.post (store_elem (d := vd ((B).getD (n - k) [])) 0 rfl ((i - n) + k) (by omega) rfl (by kernel_rfl) (Reads.fact (by repeat (first | exact List.Mem.head _ | apply List.Mem.tail))) ⟨_, _, Seals.own_cong (os := [_, _, _]) 0 (fun y => vd (syPart B n ((i - n)) (k + 1) y)) rfl rfl (fun y _ => syPart_s B y), ?_⟩)
            refine ar rfl (by first | exact ⟨by omega, by omega⟩ | (simp only [inK]; omega)) ?_
            exact again (k + 1) (by omega) (by simp only; omega) (by repeat (first | exact trivial | refine ⟨rfl, ?_⟩ | refine ⟨i64_eq (by first | omega | (simp only; omega)), ?_⟩ | refine ⟨u64_eq (by first | omega | (simp only; omega)), ?_⟩)) (Seals.sub (by repeat (first | exact Sub.nil _ | refine Sub.cons (by repeat (first | exact List.Mem.head _ | apply List.Mem.tail)) ?_)))
          · have hkd : k = n + 1 := by omega
            subst hkd
            refine ar rfl (by first | exact ⟨by omega, by omega⟩ | (simp only [inK]; omega)) ?_
            refine again (i + 1, fun y => if y = i then u else vs y) ⟨by simp only; omega, fun y hy => ?_⟩ (by simp only; omega) (by repeat (first | exact trivial | refine ⟨rfl, ?_⟩ | refine ⟨i64_eq (by first | omega | (simp only; omega)), ?_⟩ | refine ⟨u64_eq (by first | omega | (simp only; omega)), ?_⟩)) ?_
            · simp only at hy ⊢
              by_cases e : y = i
              · rw [if_pos e]; exact hu
              · rw [if_neg e]; exact h2 y (by omega)
            · refine Seals.trans (Seals.join (F' := famP (fun y => if y = i then u else vs y) (i + 1) (m + n) (syX A B m n)) rfl rfl rfl (fun y hy => ⟨?_, rfl, fun _ _ => rfl⟩) ⟨?_, rfl, fun y hy => ?_⟩) (Seals.sub (by repeat (first | exact Sub.nil _ | refine Sub.cons (by repeat (first | exact List.Mem.head _ | apply List.Mem.tail)) ?_)))
              · have hy' : y < i := hy
                show (if y = i then u else vs y) = vs y
                rw [if_neg (by omega)]
              · show (if i = i then u else vs i) = u
                rw [if_pos rfl]
              · exact congrArg vd (hrow y)
    · have hiR : i = m + n := by omega
      subst hiR
      exact fin ⟨hv, vs, h2, rfl, rfl⟩ (Seals.sub (fun F hF => nomatch hF))
end Go.Proofs.Ytfkeohlpcjpkbaa

namespace Go.Proofs.Ytfkeohlpcjpkbaa
/-- A grid's value. -/
def gev (G : List (List Int)) (x y : Int) : Int := pev (gpy G y) x
theorem gpy_co (G : List (List Int)) (y : Int) (i : Nat) : (gpy G y).getD i 0 = pev (G.getD i []) y := by
  unfold gpy
  rw [co_nrm]
  by_cases h : i < G.length
  · simp [List.getD_eq_getElem?_getD, h]
  · rw [getD_end (l := G.map fun r => pev r y) (by rw [List.length_map]; omega), getD_end (l := G) (by omega)]; rfl
theorem Gn.ev_ext {G H : List (List Int)} (hG : Gn G) (hH : Gn H) (h : ∀ x y, gev G x y = gev H x y) : G = H :=
  hG.ext hH fun i j => by
    have h1 : ∀ y, pev (G.getD i []) y = pev (H.getD i []) y := fun y => by
      rw [← gpy_co, ← gpy_co]
      exact co_ext (fun x => h x y) i
    exact co_ext h1 j
theorem gev_co {G H : List (List Int)} (h : ∀ i j, gv G i j = gv H i j) (x y : Int) : gev G x y = gev H x y := by
  unfold gev
  refine same (fun i => ?_) x
  rw [gpy_co, gpy_co]
  exact same (fun j => h i j) y
where
  same {l m : List Int} (h : ∀ i, l.getD i 0 = m.getD i 0) (x : Int) : pev l x = pev m x := by
    rw [← ev_nrm l, ← ev_nrm m, nrm_ext h]
theorem ev_xsum (n : Nat) (f : Nat → Int) (x : Int) : pev (lst n f) x = isum (fun i => x ^ i * f i) n := by
  induction n with
  | zero => rfl
  | succ n ih =>
    have h : pev (lst (n + 1) f) x = pev (lst n f) x + x ^ n * f n := by
      have e : lst (n + 1) f = lst n f ++ [f n] := by simp [lst, List.range_succ]
      have ea : ∀ (l m : List Int), pev (l ++ m) x = pev l x + x ^ l.length * pev m x := fun l m => by
        induction l with
        | nil => simp [pev]
        | cons c l ih => simp only [List.cons_append, pev, List.length_cons, Int.pow_succ, ih]; grind
      rw [e, ea, lst_len]
      simp [pev]
    rw [h, ih]
    rfl
/-- A grid's value as a sum over its entries. -/
theorem gev_sum {G : List (List Int)} {n : Nat} (h1 : G.length ≤ n) (h2 : ∀ i, (G.getD i []).length ≤ n) (x y : Int) :
    gev G x y = isum (fun i => x ^ i * isum (fun j => y ^ j * gv G i j) n) n := by
  have e1 : gev G x y = pev (lst n fun i => pev (G.getD i []) y) x := by
    unfold gev
    refine gev_co.same (fun i => ?_) x
    rw [gpy_co]
    by_cases hi : i < n
    · rw [lst_get hi]
    · rw [getD_end (l := lst n _) (by rw [lst_len]; omega), getD_end (l := G) (by omega)]; rfl
  rw [e1, ev_xsum]
  congr 1
  funext i
  rw [← ev_lst (h2 i) y, ev_xsum]
  rfl
theorem grid_bound (G : List (List Int)) : ∃ n, G.length ≤ n ∧ ∀ i, (G.getD i []).length ≤ n := by
  induction G with
  | nil => exact ⟨0, Nat.le_refl _, fun i => by simp⟩
  | cons r G ih =>
    obtain ⟨n, h1, h2⟩ := ih
    refine ⟨max (n + 1) r.length, by simp only [List.length_cons]; omega, fun i => ?_⟩
    cases i with
    | zero => simp only [List.getD_cons_zero]; omega
    | succ i => have := h2 i; simp only [List.getD_cons_succ]; omega
end Go.Proofs.Ytfkeohlpcjpkbaa

namespace Go.Proofs.Ytfkeohlpcjpkbaa
/-- An entry's share of a value. -/
def etm (x y : Int) (t : Ent3) : Int := x ^ t.1 * (y ^ t.2.1 * jv t.2.2)
theorem esum_app (L M : List Ent3) (φ : Ent3 → Int) : esum (L ++ M) φ = esum L φ + esum M φ := by simp [esum]
theorem esum_tr (i : Nat) (r : Row) (n : Nat) (x y : Int) : esum (tr i r n) (etm x y) = x ^ i * isum (fun j => y ^ j * jv (r.getD j z0)) n := by
  induction n with
  | zero => simp [tr, esum, isum]
  | succ n ih =>
    simp only [tr, esum_app, isum, Int.mul_add, ih]
    split
    · rename_i h; rw [h, esum_nil, Int.mul_zero, Int.mul_zero]
    · simp [esum, etm]
theorem esum_tg (g : List Row) (n : Nat) (x y : Int) : esum (tg g n) (etm x y) = isum (fun i => x ^ i * pev (vv (g.getD i [])) y) n := by
  induction n with
  | zero => rfl
  | succ n ih =>
    simp only [tg, esum_app, isum, ih, esum_tr]
    congr 2
    rw [← ev_lst (l := vv (g.getD n [])) (Nat.le_refl _) y, ev_xsum, vv_len]
    refine isum_same fun j hj => ?_
    rw [vv_get _ _ hj]
where
  isum_same {f h : Nat → Int} : ∀ {n : Nat}, (∀ j, j < n → f j = h j) → isum f n = isum h n
    | 0, _ => rfl
    | n + 1, e => by simp only [isum]; rw [isum_same fun j hj => e j (by omega), e n (by omega)]
theorem gev_tg (g : List Row) (x y : Int) : gev (ww g) x y = esum (tg g g.length) (etm x y) := by
  rw [esum_tg]
  unfold gev
  have : pev (gpy (ww g) y) x = pev (lst g.length fun i => pev (vv (g.getD i [])) y) x := gev_co.same (fun i => by
    rw [gpy_co, ww_get]
    by_cases hi : i < g.length
    · rw [lst_get hi]
    · rw [getD_end (l := lst g.length _) (by rw [lst_len]; omega), getD_end (l := g) (by omega)]; rfl) x
  rw [this, ev_xsum]
theorem isum_zero' (n : Nat) : isum (fun _ => 0) n = 0 := by
  induction n with
  | zero => rfl
  | succ n ih => simp only [isum, ih]; rfl
theorem isum_add' (f h : Nat → Int) (n : Nat) : isum (fun i => f i + h i) n = isum f n + isum h n := by
  induction n with
  | zero => rfl
  | succ n ih => simp only [isum, ih]; omega
theorem isum_onep {n a : Nat} (ha : a < n) (f : Nat → Int) (hf : ∀ i, i ≠ a → f i = 0) : isum f n = f a := by
  induction n with
  | zero => omega
  | succ n ih =>
    simp only [isum]
    by_cases e : a = n
    · subst e
      rw [esum_tg.isum_same (h := fun _ => 0) fun i hi => hf i (by omega), isum_zero', Int.zero_add]
    · rw [ih (by omega), hf n (fun h => e h.symm), Int.add_zero]
/-- The value of a function of entries. -/
def fev (F : Nat → Nat → Int) (n : Nat) (x y : Int) : Int := isum (fun i => x ^ i * isum (fun j => y ^ j * F i j) n) n
theorem fev_add (F H : Nat → Nat → Int) (n : Nat) (x y : Int) : fev (fun i j => F i j + H i j) n x y = fev F n x y + fev H n x y := by
  unfold fev
  rw [← isum_add']
  congr 1
  funext i
  rw [← Int.mul_add, ← isum_add']
  congr 2
  funext j
  rw [Int.mul_add]
theorem fev_zero (n : Nat) (x y : Int) : fev (fun _ _ => 0) n x y = 0 := by
  unfold fev
  simp only [Int.mul_zero, isum_zero']
theorem fev_esum (L : List Ent3) (f : Ent3 → Nat → Nat → Int) (n : Nat) (x y : Int) : fev (fun i j => esum L fun t => f t i j) n x y = esum L fun t => fev (f t) n x y := by
  induction L with
  | nil => exact fev_zero n x y
  | cons t L ih =>
    have e : ∀ φ : Ent3 → Int, esum (t :: L) φ = φ t + esum L φ := fun φ => by simp [esum]
    simp only [e]
    rw [fev_add, ih]
theorem fev_con {s t : Ent3} {n : Nat} (h1 : s.1 + t.1 < n) (h2 : s.2.1 + t.2.1 < n) (x y : Int) : fev (con s t) n x y = etm x y s * etm x y t := by
  unfold fev
  rw [isum_onep h1 _ fun i hi => by
    have : (fun j => y ^ j * con s t i j) = fun _ => 0 := by
      funext j
      unfold con
      rw [if_neg fun e => hi e.1.symm, Int.mul_zero]
    rw [this, isum_zero', Int.mul_zero]]
  rw [isum_onep h2 _ fun j hj => by
    unfold con
    rw [if_neg fun e => hj e.2.symm, Int.mul_zero]]
  unfold con etm
  rw [if_pos ⟨rfl, rfl⟩, Int.pow_add, Int.pow_add]
  grind
theorem esum_mulr (L : List Ent3) (φ : Ent3 → Int) (c : Int) : esum L (fun t => φ t * c) = esum L φ * c := by
  induction L with
  | nil => simp [esum]
  | cons t L ih =>
    have e : ∀ φ : Ent3 → Int, esum (t :: L) φ = φ t + esum L φ := fun φ => by simp [esum]
    rw [e, e, ih, Int.add_mul]
theorem esum_mull (L : List Ent3) (φ : Ent3 → Int) (c : Int) : esum L (fun t => c * φ t) = c * esum L φ := by
  rw [Int.mul_comm c, ← esum_mulr]
  congr 1
  funext t
  rw [Int.mul_comm]
theorem esum_same {L : List Ent3} {φ ψ : Ent3 → Int} (h : ∀ t, t ∈ L → φ t = ψ t) : esum L φ = esum L ψ := by
  unfold esum
  rw [List.map_congr_left h]
theorem fev_pairs {A B : List Ent3} {n : Nat} (h : ∀ s t, s ∈ A → t ∈ B → s.1 + t.1 < n ∧ s.2.1 + t.2.1 < n) (x y : Int) : fev (pairs A B) n x y = esum A (etm x y) * esum B (etm x y) := by
  have e : fev (pairs A B) n x y = esum A fun s => fev (fun i j => esum B fun t => con s t i j) n x y := fev_esum A (fun s i j => esum B fun t => con s t i j) n x y
  rw [e, ← esum_mulr]
  refine esum_same fun s hs => ?_
  rw [fev_esum B (fun t => con s t), ← esum_mull]
  exact esum_same fun t ht => fev_con (h s t hs ht).1 (h s t hs ht).2 x y
theorem tg_deg {g : List Row} {t : Ent3} (h : t ∈ tg g g.length) : t.1 < gdx (ww g) ∧ t.2.1 < gdy (ww g) := by
  obtain ⟨_, _, h3, h4⟩ := tg_mem h
  refine Classical.byContradiction fun hn => h4 ?_
  have := gv_zero (G := ww g) hn
  rw [gv_ww, ← h3] at this
  exact this
theorem gev_nil (x y : Int) : gev [] x y = 0 := rfl
theorem gev_zero {G : List (List Int)} (h : gdx G = 0) (x y : Int) : gev G x y = 0 := by
  rw [gev_co (H := []) (fun i j => by rw [gdx_zero.1 h]; simp [gv]) x y, gev_nil]
theorem gev_gmuE (g h : List Row) (x y : Int) : gev (gmuE g h) x y = gev (ww g) x y * gev (ww h) x y := by
  unfold gmuE
  by_cases z1 : gdx (ww g) = 0
  · rw [if_pos (.inl z1), gev_zero z1, gev_nil, Int.zero_mul]
  by_cases z2 : gdx (ww h) = 0
  · rw [if_pos (.inr z2), gev_zero z2, gev_nil, Int.mul_zero]
  rw [if_neg fun e => e.elim z1 z2]
  have y1 := gdy_pos z1
  have y2 := gdy_pos z2
  have hv : ∀ i j, gv (gof (pairs (tg g g.length) (tg h h.length)) (gdx (ww g) + gdx (ww h) - 1) (gdy (ww g) + gdy (ww h) - 1)) i j = pairs (tg g g.length) (tg h h.length) i j := fun i j => by
    rw [gof_gv]
    split
    · rfl
    · rename_i hn
      have e : ∀ s, s ∈ tg g g.length → (esum (tg h h.length) fun t => con s t i j) = 0 := fun s hs => by
        have e2 : (esum (tg h h.length) fun t => con s t i j) = esum (tg h h.length) fun _ => 0 := esum_same fun t ht => by
          have h1 := tg_deg hs
          have h2 := tg_deg ht
          unfold con
          rw [if_neg fun e => hn ⟨by omega, by omega⟩]
        rw [e2, esum_zero]
      show 0 = esum _ _
      rw [esum_same e, esum_zero]
  obtain ⟨n1, b1, b2⟩ := grid_bound (gof (pairs (tg g g.length) (tg h h.length)) (gdx (ww g) + gdx (ww h) - 1) (gdy (ww g) + gdy (ww h) - 1))
  have hb := fun i => Nat.le_trans (b2 i) (Nat.le_add_right n1 (gdx (ww g) + gdx (ww h) + gdy (ww g) + gdy (ww h)))
  rw [gev_sum (n := n1 + (gdx (ww g) + gdx (ww h) + gdy (ww g) + gdy (ww h))) (by omega) hb]
  simp only [hv]
  rw [gev_tg, gev_tg]
  exact fev_pairs (fun s t hs ht => by
    have h1 := tg_deg hs
    have h2 := tg_deg ht
    omega) x y
where
  esum_zero {L : List Ent3} : (esum L fun _ => 0) = 0 := by
    induction L with
    | nil => rfl
    | cons t L ih =>
      have e : ∀ φ : Ent3 → Int, esum (t :: L) φ = φ t + esum L φ := fun φ => by simp [esum]
      rw [e, ih]; rfl
end Go.Proofs.Ytfkeohlpcjpkbaa

namespace Go.Proofs.Ytfkeohlpcjpkbaa
end Go.Proofs.Ytfkeohlpcjpkbaa

namespace Go.Proofs.Ytfkeohlpcjpkbaa
/-- The degree in y, at least 0. -/
def dy (G : List (List Int)) : Nat := (gtu G).length - 1
/-- The resultant in y. -/
def gel (G H : List (List Int)) : List Int :=
  if gtu G = [] ∨ gtu H = [] then [] else pdet (dy G + dy H) (syX (gtu G) (gtu H) (dy G) (dy H))
/-- What is at the highest power of y. -/
def led (G : List (List Int)) : List Int := (gtu G).getD (dy G) []
/-- A grid at x = t. -/
def gax (G : List (List Int)) (t : Int) : List Int := gpy (gtu G) t
def gaf (G : List (List Int)) (t : Int) (j : Nat) : Int := (gax G t).getD j 0
theorem gaf_eq (G : List (List Int)) (t : Int) (j : Nat) : gaf G t j = pev ((gtu G).getD j []) t := gpy_co _ _ _
theorem gel_none {G H : List (List Int)} (h : gtu G = [] ∨ gtu H = []) : gel G H = [] := if_pos h
theorem evm_syX (A B : List (List Int)) (m n : Nat) (t : Int) : evm (syX A B m n) t = S2 m n (fun j => pev (A.getD j []) t) (fun j => pev (B.getD j []) t) := by
  have key : ∀ (F : List (List Int)) (d a y : Nat), pev (syRow F d a y) t = sF (fun j => pev (F.getD j []) t) d a y := fun F d a y => by
    unfold syRow sF
    by_cases h : a ≤ y ∧ y < a + (d + 1)
    · rw [if_pos h, if_pos (by omega), show d - (y - a) = d + a - y by omega]
    · rw [if_neg h, if_neg (by omega)]; rfl
  funext i y
  unfold evm syX S2
  split
  · exact key _ _ _ _
  · exact key _ _ _ _
theorem gel_RS {G H : List (List Int)} (hG : gtu G ≠ []) (hH : gtu H ≠ []) (t : Int) : pev (gel G H) t = RS (dy G) (dy H) (gaf G t) (gaf H t) := by
  unfold gel
  rw [if_neg (fun h => h.elim hG hH), ev_pdet, evm_syX]
  unfold RS
  rw [show gaf G t = fun j => pev ((gtu G).getD j []) t from funext fun j => gaf_eq _ _ _, show gaf H t = fun j => pev ((gtu H).getD j []) t from funext fun j => gaf_eq _ _ _]
theorem dy_len {G : List (List Int)} (h : gtu G ≠ []) : (gtu G).length = dy G + 1 := by
  have := List.length_pos_iff.2 h
  unfold dy; omega
theorem gax_dg {G : List (List Int)} (h : gtu G ≠ []) (t : Int) : dg (gax G t) ≤ dy G + 1 := by
  rw [← dy_len h]; exact Nat.le_trans (dg_le_len _) (gpy_len _ _)
theorem gaf_led (G : List (List Int)) (t : Int) : gaf G t (dy G) = pev (led G) t := gaf_eq _ _ _
theorem gax_full {G : List (List Int)} {t : Int} (h : gtu G ≠ []) (hl : pev (led G) t ≠ 0) : dg (gax G t) = dy G + 1 := by
  have h1 := gax_dg h t
  refine Nat.le_antisymm h1 (Nat.lt_of_not_le fun h2 => hl ?_)
  rw [← gaf_led]
  exact dg_le.1 h2 _ (Nat.le_refl _)
section
variable {C D G H K : List (List Int)}
end
theorem gdy_some {G : List (List Int)} {n : Nat} (h : gdy G = n + 1) : ∃ i, gv G i n ≠ 0 := by
  have key : ∀ m, gdyN G m = n + 1 → ∃ i, gv G i n ≠ 0 := fun m => by
    induction m with
    | zero => intro h; simp [gdyN] at h
    | succ m ih =>
      intro h
      have h' : max (gdyN G m) (dg (G.getD m [])) = n + 1 := h
      by_cases e : gdyN G m = n + 1
      · exact ih e
      · have hd : dg (G.getD m []) = n + 1 := by omega
        have := ld_ne (l := G.getD m []) (by omega)
        unfold ld at this
        rw [hd] at this
        exact ⟨m, this⟩
  exact key _ h
theorem gtu_len (G : List (List Int)) : (gtu G).length = gdy G := by
  have h1 : (gtu G).length ≤ gdy G := by
    unfold gtu gof
    exact Nat.le_trans (gtr_len _) (by simp)
  refine Nat.le_antisymm h1 (Nat.le_of_not_lt fun hlt => ?_)
  obtain ⟨n, hn⟩ : ∃ n, gdy G = n + 1 := ⟨gdy G - 1, by omega⟩
  obtain ⟨i, hi⟩ := gdy_some hn
  rw [← gtu_gv] at hi
  refine hi ?_
  unfold gv
  rw [getD_end (l := gtu G) (by omega)]; rfl
end Go.Proofs.Ytfkeohlpcjpkbaa

namespace Go.Proofs.Ytfkeohlpcjpkbaa
open Go.RowKit
theorem store_px {u : Value} {vs : Nat → Value} {R C : Nat} {x : Px} {os : List Own} {fs : List Fact} {K : Cont} (pos i j : Nat) (h : nthOwn os pos = some (famP vs R C x)) (hi : i < R) (hj : j < C) (w : List Int) (x' : Px)
    (hu : Reads os fs u (vd w)) (hx : ∀ a b, a < R → b < C → x' a b = if a = i ∧ b = j then w else x a b) (k : K undef (setOwn os pos (famP vs R C x')) fs) :
    StoreK Try.prog 28 (eptr (vs i) (j * 1)) u os fs K :=
  store_fam (d := vd w) pos i (famP vs R C x') h hi j hj rfl (by kernel_rfl) hu rfl rfl (fun a ha => ⟨rfl, rfl, fun b hb => by
    show vd (x' a b) = if a = i ∧ b = j then vd w else vd (x a b)
    rw [hx a b ha hb]; split <;> rfl⟩) k
theorem Seals.pxcong {vs vs' : Nat → Value} {R C : Nat} {x x' : Px} {os : List Own} {fs : List Fact} (pos : Nat) (h : nthOwn os pos = some (famP vs R C x)) (s : Nat → Nat) (hs : ∀ i, i < R → s i < R ∧ vs' i = vs (s i) ∧ ∀ k, k < C → x' i k = x (s i) k)
    (hinj : ∀ i j, i < R → j < R → s i = s j → i = j) : Seals os fs (setOwn os pos (famP vs' R C x')) fs :=
  Seals.re (o' := famP vs' R C x') pos h s rfl (fun i hi => ⟨(hs i hi).1, (hs i hi).2.1, rfl, fun k hk => by
    show vd _ = vd _
    rw [(hs i hi).2.2 k hk]⟩) hinj
/-- Rows done: z; the others: y. -/
def pmix (z y : Px) (i k : Nat) : Px := fun a b => if a < i ∨ (a = i ∧ b < k) then z a b else y a b
def nextX (A : Px) (x : Px) (s q : Nat) (rl cl : List Nat) (p : Nat → Nat) : Px := fun i k =>
  if i ≤ s ∨ k ≤ s then x (xc s q i) k else pdet (s + 2) (psu A (p (xc s q i) :: p q :: rl) (k :: s :: cl))
theorem pouter_ex {vs : Nat → Value} {s p i : Nat} (h : p ≠ s) : upd (upd (fun i => .one (vs i)) p (.one (vs s))) s (.one (vs p)) i = .one (vs (xc s p i)) := by
  unfold upd xc
  by_cases h1 : i = s
  · simp [h1]
  · by_cases h2 : i = p
    · subst h2; simp [h]
    · simp [h1, h2]
theorem xc_inj {s p i j : Nat} (h : xc s p i = xc s p j) : i = j := by rw [← xc_xc s p i, h, xc_xc]
theorem xc_same (s i : Nat) : xc s s i = i := by unfold xc; split <;> (try split) <;> omega
/-- Division finds the next entry. -/
theorem PInv.quo {A : Px} {N : Nat} {x : Px} {last : List Int} {odd : Bool} {s : Nat} {rl cl : List Nat} {p : Nat → Nat} (h : PInv A N x last odd s rl cl p) {a b k : Nat} (ha : s ≤ a) (haN : a < N) (hb : s ≤ b) (hbN : b < N) (hs : s < N) (hk : s ≤ k) (hkN : k < N) {t : List Int} {e : Int}
    (hd : DivSpec (psub (pmul (x a s) (x b k)) (pmul (x b s) (x a k))) last t e) : t = pdet (s + 2) (psu A (p b :: p a :: rl) (k :: s :: cl)) := by
  have key := fun t => h.dv ha haN hb hbN hs hk hkN t
  have h1 := (hd.ok h.ne ⟨pdet (s + 2) (psu A (p b :: p a :: rl) (k :: s :: cl)), fun t => by rw [ev_psub, ev_pmul, ev_pmul, ← key]⟩).2
  exact hd.tn.ext (pdet_nm _ _) (cancel h.ne fun z => by rw [← h1 z, ev_psub, ev_pmul, ev_pmul]; exact (key z).symm)
def pdB (k l n : Nat) : Nat := 2 * pdk k n + 2 + (2 * (n * l + 1) + 2) * (pdk k n + 1)
structure PB (k l n : Nat) (A : Px) : Prop where
  z : ∀ i j, szR k (A i j)
  len : ∀ i j, (A i j).length ≤ l
  l30 : n * l + 1 ≤ 268435456
  big : pdB k l n ≤ 137438953472
theorem PB.minor {k l n m : Nat} {A : Px} (h : PB k l n A) (hm : m ≤ n) (h1 : 0 < n) (rl cl : List Nat) : szR (pdk k n) (pdet m (psu A rl cl)) ∧ (pdet m (psu A rl cl)).length ≤ n * l + 1 :=
  have h64 : l < 18446744073709551616 := by
    have := h.l30
    have : 1 * l ≤ n * l := Nat.mul_le_mul_right _ h1
    omega
  ⟨(pdet_sz (n := m) (A := psu A rl cl) (fun i j => h.z _ _) (fun i j => h.len _ _) h64).mono (pdk_mono k hm),
    Nat.le_trans (pdet_len (n := m) (A := psu A rl cl) fun i j => h.len _ _) (Nat.succ_le_succ (Nat.mul_le_mul_right _ hm))⟩
theorem syRow_b {F : List (List Int)} {k l : Nat} (h : ∀ i, szR k (F.getD i []) ∧ (F.getD i []).length ≤ l) (d a y : Nat) : szR k (syRow F d a y) ∧ (syRow F d a y).length ≤ l := by
  unfold syRow; split
  · exact h _
  · exact ⟨fun x hx => by simp at hx, Nat.zero_le _⟩
theorem syX_b {F E : List (List Int)} {k l : Nat} (h : ∀ i, szR k (F.getD i []) ∧ (F.getD i []).length ≤ l) (h' : ∀ i, szR k (E.getD i []) ∧ (E.getD i []).length ≤ l) (m n i y : Nat) : szR k (syX F E m n i y) ∧ (syX F E m n i y).length ≤ l := by
  unfold syX; split
  · exact syRow_b h _ _ _
  · exact syRow_b h' _ _ _
theorem syX_nm (G H : List (List Int)) (m n i y : Nat) : Nm (syX (gtu G) (gtu H) m n i y) := by
  have key : ∀ (G : List (List Int)) d a, Nm (syRow (gtu G) d a y) := fun G d a => by
    unfold syRow; split
    · by_cases hi : d - (y - a) < (gtu G).length
      · exact (gtu_gn G).2 _ (getD_mem [] hi)
      · rw [getD_end (l := gtu G) (by omega)]; exact Nm.nil
    · exact Nm.nil
  unfold syX; split
  · exact key _ _ _
  · exact key _ _ _
end Go.Proofs.Ytfkeohlpcjpkbaa

namespace Go.Proofs.Ytfkeohlpcjpkbaa
open Go.RowKit
structure Es where
  s : Nat
  odd : Bool
  last : List Int
  lv : Value
  x : Px
  vs : Nat → Value
theorem gEliminate_core (v w : Value) (g h : List Row) (k l n : Nat) (hg : Gf k g) (hh : Gf k h) (hk : k ≤ 137438953472) (hb : PB k l n (syX (gtu (ww g)) (gtu (ww h)) (dy (ww g)) (dy (ww h)))) (hn : dy (ww g) + dy (ww h) ≤ n) (h0 : 0 < n) :
    Meets Try.prog 13 [v, w] [(v, W g), (w, W h)] (fun r os fs => os = [] ∧ fs = [(r, vd (gel (ww g) (ww h)))]) := by
  have t1 := gTurn_meets v g ⟨hg.len, fun r hr => ⟨(hg.row r hr).1, (hg.row r hr).2.mono hk⟩⟩
  have t2 := gTurn_meets w h ⟨hh.len, fun r hr => ⟨(hh.row r hr).1, (hh.row r hr).2.mono hk⟩⟩
  have d1 : (gtu (ww g)).length ≤ 1048576 := by rw [gtu_len]; exact hg.dy
  have d2 : (gtu (ww h)).length ≤ 1048576 := by rw [gtu_len]; exact hh.dy
  have hgel : ∀ h1 : ¬ (gtu (ww g) = [] ∨ gtu (ww h) = []), gel (ww g) (ww h) = pdet (dy (ww g) + dy (ww h)) (syX (gtu (ww g)) (gtu (ww h)) (dy (ww g)) (dy (ww h))) := fun h1 => if_neg h1
  have hgn : gtu (ww g) = [] ∨ gtu (ww h) = [] → gel (ww g) (ww h) = [] := gel_none
  have hl1 := fun h1 : gtu (ww g) ≠ [] => dy_len h1
  have hl2 := fun h1 : gtu (ww h) ≠ [] => dy_len h1
  have hnm := syX_nm (ww g) (ww h) (dy (ww g)) (dy (ww h))
  change Meets _ _ _ _ (fun r os fs => os = [] ∧ fs = [(r, wd (gtu (ww g)))]) at t1
  change Meets _ _ _ _ (fun r os fs => os = [] ∧ fs = [(r, wd (gtu (ww h)))]) at t2
  generalize gel (ww g) (ww h) = E at *
  generalize dy (ww g) = m at *
  generalize dy (ww h) = m' at *
  generalize gtu (ww g) = A at *
  generalize gtu (ww h) = B at *
  have hbig := hb.big
  have hl30 := hb.l30
  have hE1 : 0 ≤ pdk k n := Nat.zero_le _
  refine meets_of_vc Try.func13 (by kernel_rfl) rfl (by kernel_rfl) (Nat.le_of_ble_eq_true rfl) ?_
  refine call_fn t1 (Seals.refl _ _) (by repeat (first | exact Sub.nil _ | refine Sub.cons (by repeat (first | exact List.Mem.head _ | apply List.Mem.tail)) ?_)) ?_
  rintro va _ _ ⟨rfl, rfl⟩
  refine call_fn t2 (Seals.refl _ _) (by repeat (first | exact Sub.nil _ | refine Sub.cons (by repeat (first | exact List.Mem.head _ | apply List.Mem.tail)) ?_)) ?_
  rintro vb _ _ ⟨rfl, rfl⟩
  refine len_wd (by repeat (first | exact List.Mem.head _ | apply List.Mem.tail)) ?_
  refine cmp_split _ rfl (fun hA => ?_) (fun hA => ?_)
  · rw [hgn (.inl (List.length_eq_zero_iff.1 (by omega)))]
    exact fin ⟨rfl, rfl⟩ (Seals.cons (Knw.nil 2 _) (Seals.nil _ _))
  refine len_wd (by repeat (first | exact List.Mem.head _ | apply List.Mem.tail)) ?_
  refine cmp_split _ rfl (fun hB => ?_) (fun hB => ?_)
  · rw [hgn (.inr (List.length_eq_zero_iff.1 (by omega)))]
    exact fin ⟨rfl, rfl⟩ (Seals.cons (Knw.nil 2 _) (Seals.nil _ _))
  have hA' : A ≠ [] := fun e => hA (by rw [e]; rfl)
  have hB' : B ≠ [] := fun e => hB (by rw [e]; rfl)
  have hE := hgel fun e => e.elim hA' hB'
  have la := hl1 hA'
  have lb := hl2 hB'
  refine call_fn (zof_meets 1 (by decide) (by decide)) (Seals.refl _ _) (by repeat (first | exact Sub.nil _ | refine Sub.cons (by repeat (first | exact List.Mem.head _ | apply List.Mem.tail)) ?_)) ?_
  rintro u0 _ _ ⟨rfl, rfl⟩
  refine lit_L (size := 2) (f := J) (z := z0) (e := 39) (cn 1) (by decide) (Reads.fact (by repeat (first | exact List.Mem.head _ | apply List.Mem.tail))) rfl fun l0 => ?_
  refine len_wd (by repeat (first | exact List.Mem.head _ | apply List.Mem.tail)) ?_
  refine ar (n := ((m : Nat) : Int)) (by simp only [arZ, Option.some.injEq]; omega) (by first | exact ⟨by omega, by omega⟩ | (simp only [inK]; omega)) ?_
  refine len_wd (by repeat (first | exact List.Mem.head _ | apply List.Mem.tail)) ?_
  refine ar (n := ((m' : Nat) : Int)) (by simp only [arZ, Option.some.injEq]; omega) (by first | exact ⟨by omega, by omega⟩ | (simp only [inK]; omega)) ?_
  refine call_fn (gsylvester_meets va vb A B m m' la lb (by omega) (by omega)) (Seals.refl _ _) (by repeat (first | exact Sub.nil _ | refine Sub.cons (by repeat (first | exact List.Mem.head _ | apply List.Mem.tail)) ?_)) ?_
  rintro v' _ _ ⟨hv', vs0, hvs0, rfl, rfl⟩
  refine len_own 1 rfl hv' fun _ => ?_
  generalize hN : m + m' = N at *
  generalize syX A B m m' = S at *
  have hminor := fun (q : Nat) (hq : q ≤ N) rl cl => hb.minor (m := q) (by omega) h0 rl cl
  refine loop_rule (X := Es) (fun x => ([(7, x.lv), (8, v'), (9, .bool x.odd), (39, .int .i64 (N : Nat)), (40, .int .i64 (x.s : Nat))], [famP x.vs N N x.x, outer v' N x.vs], [(x.lv, vd x.last)]))
    (fun x => (∀ i, i < N → isSl (x.vs i)) ∧ ∃ rl cl p, PInv S N x.x x.last x.odd x.s rl cl p) (fun x => N - x.s) rfl ?_ ?_
  · exact again ⟨0, false, [1], l0, S, vs0⟩ ⟨hvs0, [], [], fun i => i, PInv.start fun i k _ _ => hnm i k⟩ trivial (by repeat (first | exact trivial | refine ⟨rfl, ?_⟩ | refine ⟨i64_eq (by first | omega | (simp only; omega)), ?_⟩ | refine ⟨u64_eq (by first | omega | (simp only; omega)), ?_⟩)) (Seals.sub (by repeat (first | exact Sub.nil _ | refine Sub.cons (by repeat (first | exact List.Mem.head _ | apply List.Mem.tail)) ?_)))
  · rintro ⟨s, odd, last, lv, x, vs⟩ ⟨hvs, rl, cl, p, hP⟩
    simp only at hvs hP ⊢
    have hsle := hP.le
    have hlast : szR (pdk k n) last ∧ last.length ≤ n * l + 1 := by rw [hP.lst]; exact hminor s hsle rl cl
    refine cmp_split _ rfl (fun hs => ?_) (fun hs => ?_)
    rotate_left
    · have hsN : s = N := by omega
      subst hsN
      have hdone := hP.done
      rw [hE]
      cases odd with
      | true =>
        refine call_fn (zof_meets (-1) (by decide) (by decide)) (Seals.refl _ _) (by repeat (first | exact Sub.nil _ | refine Sub.cons (by repeat (first | exact List.Mem.head _ | apply List.Mem.tail)) ?_)) ?_
        rintro c1 _ _ ⟨rfl, rfl⟩
        refine call_fn (pTimesT lv c1 last (-1) (pdk k n) 1 hlast.1 (sz_one _ (by decide)) (by unfold pdB at hbig; omega) (by omega)) (Seals.refl _ _) (by repeat (first | exact Sub.nil _ | refine Sub.cons (by repeat (first | exact List.Mem.head _ | apply List.Mem.tail)) ?_)) ?_
        rintro r _ _ ⟨rfl, rfl⟩
        refine fin ⟨rfl, ?_⟩ (Seals.trans (Seals.drop 0 _ _) (Seals.trans (Seals.drop 0 _ _) (Seals.sub (fs' := [(r, vd (ptim (-1) last))]) (by repeat (first | exact Sub.nil _ | refine Sub.cons (by repeat (first | exact List.Mem.head _ | apply List.Mem.tail)) ?_)))))
        rw [show ptim (-1) last = pdet s S from (ptim_nm _ _).ext (pdet_nm _ _) fun t => by rw [ev_ptim, hdone t, if_pos rfl]; omega]
        rfl
      | false =>
        refine call_fn (pNormT lv last (hlast.1.mono (by unfold pdB at hbig; omega)) (by omega)) (Seals.refl _ _) (by repeat (first | exact Sub.nil _ | refine Sub.cons (by repeat (first | exact List.Mem.head _ | apply List.Mem.tail)) ?_)) ?_
        rintro r _ _ ⟨rfl, rfl⟩
        refine fin ⟨rfl, ?_⟩ (Seals.trans (Seals.drop 0 _ _) (Seals.trans (Seals.drop 0 _ _) (Seals.sub (fs' := [(r, vd (nrm last))]) (by repeat (first | exact Sub.nil _ | refine Sub.cons (by repeat (first | exact List.Mem.head _ | apply List.Mem.tail)) ?_)))))
        rw [show nrm last = pdet s S from (Nm.nrm _).ext (pdet_nm _ _) fun t => by rw [ev_nrm, hdone t]; rfl]
        rfl
    have hsN : s < N := by omega
    refine loop_rule (X := Nat) (fun q => ([(7, lv), (8, v'), (9, .bool odd), (10, .int .i64 (s : Nat)), (11, .int .i64 (q : Nat)), (39, .int .i64 (N : Nat)), (40, .int .i64 (s : Nat))], [famP vs N N x, outer v' N vs], [(lv, vd last)]))
      (fun q => s ≤ q ∧ q ≤ N ∧ ∀ i, s ≤ i → i < q → x i s = []) (fun q => N - q) rfl ?_ ?_
    · exact again s ⟨Nat.le_refl _, hsle, fun i h1 h2 => by omega⟩ trivial (by repeat (first | exact trivial | refine ⟨rfl, ?_⟩ | refine ⟨i64_eq (by first | omega | (simp only; omega)), ?_⟩ | refine ⟨u64_eq (by first | omega | (simp only; omega)), ?_⟩)) (Seals.sub (by repeat (first | exact Sub.nil _ | refine Sub.cons (by repeat (first | exact List.Mem.head _ | apply List.Mem.tail)) ?_)))
    · rintro q ⟨hq1, hq2, hqz⟩
      refine len_own 1 rfl hv' fun _ => ?_
      refine cmp_split _ rfl (fun hq => ?_) (fun hq => ?_)
      rotate_left
      · have hqN : q = N := by omega
        subst hqN
        refine len_own 1 rfl hv' fun _ => ?_
        refine cmp_true rfl rfl ?_
        rw [hE, hP.none hsN hqz]
        exact fin ⟨rfl, rfl⟩ (Seals.trans (Seals.drop 0 _ _) (Seals.trans (Seals.drop 0 _ _) (Seals.cons (Knw.nil 2 _) (Seals.nil _ _))))
      have hqN : q < N := by omega
      refine index_elem 1 rfl hv' q rfl (by omega) ?_
      refine load_one_elem 1 rfl q (by omega) (u := vs q) rfl ?_
      refine index_famP 0 q rfl (by omega) (hvs q (by omega)) s rfl (by omega) ?_
      refine load_famP 0 q s rfl (by omega) (by omega) (x q s) rfl fun u1 => ?_
      refine len_vd (by repeat (first | exact List.Mem.head _ | apply List.Mem.tail)) ?_
      refine cmp_split _ rfl (fun hz => ?_) (fun hz => ?_)
      · refine ar rfl (by first | exact ⟨by omega, by omega⟩ | (simp only [inK]; omega)) ?_
        refine again (q + 1) ⟨by omega, by omega, fun i h1 h2 => ?_⟩ (by simp only; omega) (by repeat (first | exact trivial | refine ⟨rfl, ?_⟩ | refine ⟨i64_eq (by first | omega | (simp only; omega)), ?_⟩ | refine ⟨u64_eq (by first | omega | (simp only; omega)), ?_⟩)) (Seals.sub (by repeat (first | exact Sub.nil _ | refine Sub.cons (by repeat (first | exact List.Mem.head _ | apply List.Mem.tail)) ?_)))
        by_cases e : i = q
        · rw [e]; exact List.length_eq_zero_iff.1 (by omega)
        · exact hqz i h1 (by omega)
      have hz0 : x q s ≠ [] := fun e => hz (by rw [e]; rfl)
      refine len_own 1 rfl hv' fun _ => ?_
      refine cmp_false rfl (by omega) ?_
      have hnext0 := hP.step hq1 hqN hz0 (z := nextX S x s q rl cl p) fun i k' h1 h2 h3 h4 => by unfold nextX; rw [if_neg (by omega)]
      have hquo0 : ∀ i k', s + 1 ≤ i → i < N → s + 1 ≤ k' → k' < N → ∀ {t : List Int} {e : Int}, DivSpec (psub (pmul (x (xc s q s) s) (x (xc s q i) k')) (pmul (x (xc s q i) s) (x (xc s q s) k'))) last t e → t = nextX S x s q rl cl p i k' := fun i k' h1 h2 h3 h4 t e hd => by
        unfold nextX; rw [if_neg (by omega)]
        rw [xc_at] at hd
        exact hP.quo hq1 hqN (xc_ge hq1 (by omega)) (xc_lt hsN hqN h2) hsN (by omega) h4 hd
      have hzy0 : ∀ a b, a ≤ s ∨ b ≤ s → nextX S x s q rl cl p a b = x (xc s q a) b := fun a b e => by unfold nextX; rw [if_pos e]
      have hys0 : ∀ i j, i < N → j < N → s ≤ i → s ≤ j → szR (pdk k n) (x (xc s q i) j) ∧ (x (xc s q i) j).length ≤ n * l + 1 := fun i j hi hj h1 h2 => by
        rw [hP.val _ j (xc_ge hq1 h1) (xc_lt hsN hqN hi) h2 hj]; exact hminor (s + 1) (by omega) _ _
      have hdiv : ∀ m, m ≤ 2 * (n * l + 1) → (pdk k n + pdk k n + 1 + 1) + (m + 1) * (pdk k n + 1) ≤ 137438953472 := fun m hm => by
        have : (m + 1) * (pdk k n + 1) ≤ (2 * (n * l + 1) + 2) * (pdk k n + 1) := Nat.mul_le_mul_right _ (by omega)
        unfold pdB at hbig
        omega
      have hbig2 : 2 * pdk k n + 2 ≤ 137438953472 := by unfold pdB at hbig; omega
      have hyx : ∀ i j, (fun a b => x (xc s q a) b : Px) i j = x (xc s q i) j := fun _ _ => rfl
      have hnext : ∀ od, (if q = s then odd else !odd) = od → (∀ i, i < N → isSl (vs (xc s q i))) ∧ ∃ rl' cl' p', PInv S N (nextX S x s q rl cl p) (x (xc s q s) s) od (s + 1) rl' cl' p' := fun od e => by
        rw [xc_at, ← e]
        exact ⟨fun i hi => hvs _ (xc_lt hsN hqN hi), _, _, _, hnext0⟩
      obtain ⟨y, hy⟩ : ∃ y : Px, ∀ a b, y a b = x (xc s q a) b := ⟨_, fun _ _ => rfl⟩
      obtain ⟨vs', hv's⟩ : ∃ vs' : Nat → Value, ∀ i, vs' i = vs (xc s q i) := ⟨_, fun _ => rfl⟩
      have hvs' : ∀ i, i < N → isSl (vs' i) := fun i hi => by rw [hv's]; exact hvs _ (xc_lt hsN hqN hi)
      simp only [← hy] at hquo0 hzy0 hys0 hnext
      generalize hz' : nextX S x s q rl cl p = z at *
      have hnext : ∀ od, (if q = s then odd else !odd) = od → (∀ i, i < N → isSl (vs' i)) ∧ ∃ rl' cl' p', PInv S N z (y s s) od (s + 1) rl' cl' p' := fun od e => ⟨hvs', (hnext od e).2⟩
      have hzy := hzy0
      have hys := hys0
      have hquo := hquo0
      have hpx : ∀ i, i < N → xc s q i < N ∧ vs' i = vs (xc s q i) ∧ ∀ j, j < N → pmix z y (s + 1) 0 i j = x (xc s q i) j := fun i hi => ⟨xc_lt hsN hqN hi, hv's i, fun j _ => by
        unfold pmix
        split
        · rw [hzy i j (by omega), hy]
        · rw [hy]⟩
      clear hnext0 hqz hz0 hz hminor hzy0 hys0 hquo0 hz'
      refine cmp_split _ rfl (fun hne => ?_) (fun hne => ?_)
      · have hqs : q ≠ s := by omega
        have hnext := hnext (!odd) (if_neg hqs)
        refine draw_rule [0, 1, 2, 3, 4, 5, 6, 7, 8, 9, 10, 11, 12, 13, 14, 15] [0, 1, 4, 5, 6, 7, 8, 9, 10, 11, 12, 13, 2, 3, 14, 15] (by kernel_rfl) (by kernel_rfl) ?_
        refine index_elem 1 rfl hv' s rfl (by omega) ?_
        refine load_one_elem 1 rfl s (by omega) (u := vs s) rfl ?_
        refine index_elem 1 rfl hv' q rfl (by omega) ?_
        refine load_one_elem 1 rfl q (by omega) (u := vs q) rfl ?_
        refine index_elem 1 rfl hv' q rfl (by omega) ?_
        refine store_elem (d := .one (vs s)) 1 rfl q (by omega) rfl (by kernel_rfl) (Reads.one (hvs s (by omega)).one) ?_
        refine index_elem 1 rfl hv' s rfl (by omega) ?_
        refine store_elem (d := .one (vs q)) 1 rfl s (by omega) rfl (by kernel_rfl) (Reads.one (hvs q (by omega)).one) ?_
        refine ar rfl (by first | exact ⟨by omega, by omega⟩ | (simp only [inK]; omega)) ?_
        refine loop_rule (X := Nat) (fun i => ([(7, lv), (8, v'), (9, .bool (!odd)), (10, .int .i64 (s : Nat)), (12, .int .i64 (i : Nat)), (39, .int .i64 (N : Nat)), (40, .int .i64 (s : Nat))], [famP vs' N N (pmix z y i 0), outer v' N vs'], [(lv, vd last)]))
          (fun i => s + 1 ≤ i ∧ i ≤ N) (fun i => N - i) rfl ?_ ?_
        · exact again (s + 1) ⟨Nat.le_refl _, by omega⟩ trivial (by repeat (first | exact trivial | refine ⟨rfl, ?_⟩ | refine ⟨i64_eq (by first | omega | (simp only; omega)), ?_⟩ | refine ⟨u64_eq (by first | omega | (simp only; omega)), ?_⟩)) (Seals.trans (Seals.own_cong (os := [_, _]) 1 (fun i => .one (vs' i)) rfl rfl fun i _ => by rw [pouter_ex hqs, hv's]) (Seals.trans (Seals.pxcong (os := [_, _]) 0 rfl (xc s q) hpx fun _ _ _ _ e => xc_inj e) (Seals.sub (by repeat (first | exact Sub.nil _ | refine Sub.cons (by repeat (first | exact List.Mem.head _ | apply List.Mem.tail)) ?_)))))
        · rintro i ⟨hi1, hi2⟩
          refine len_own 1 rfl hv' fun _ => ?_
          refine cmp_split _ rfl (fun hi => ?_) (fun hi => ?_)
          · have hiR : i < N := by omega
            refine ar rfl (by first | exact ⟨by omega, by omega⟩ | (simp only [inK]; omega)) ?_
            refine loop_rule (X := Nat) (fun k' => ([(7, lv), (8, v'), (9, .bool (!odd)), (10, .int .i64 (s : Nat)), (12, .int .i64 (i : Nat)), (13, .int .i64 (k' : Nat)), (39, .int .i64 (N : Nat)), (40, .int .i64 (s : Nat))], [famP vs' N N (pmix z y i k'), outer v' N vs'], [(lv, vd last)]))
              (fun k' => s + 1 ≤ k' ∧ k' ≤ N) (fun k' => N - k') rfl ?_ ?_
            · refine again (s + 1) ⟨Nat.le_refl _, by omega⟩ trivial (by repeat (first | exact trivial | refine ⟨rfl, ?_⟩ | refine ⟨i64_eq (by first | omega | (simp only; omega)), ?_⟩ | refine ⟨u64_eq (by first | omega | (simp only; omega)), ?_⟩)) (Seals.trans (Seals.pxcong (os := [_, _]) (x' := pmix z y i (s + 1)) 0 rfl (fun i => i) (fun a ha => ⟨ha, rfl, fun b hb => ?_⟩) fun _ _ _ _ e => e) (Seals.sub (by repeat (first | exact Sub.nil _ | refine Sub.cons (by repeat (first | exact List.Mem.head _ | apply List.Mem.tail)) ?_))))
              unfold pmix
              by_cases e : a < i ∨ (a = i ∧ b < 0)
              · rw [if_pos e, if_pos (by omega)]
              · rw [if_neg e]
                split
                · exact hzy _ _ (by omega)
                · rfl
            · rintro k' ⟨hk1, hk2⟩
              refine len_own 1 rfl hv' fun _ => ?_
              refine cmp_split _ rfl (fun hc2 => ?_) (fun hc2 => ?_)
              · have hkC : k' < N := by omega
                have y1 := hys s s hsN hsN (Nat.le_refl _) (Nat.le_refl _)
                have y2 := hys i k' hiR hkC (by omega) (by omega)
                have y3 := hys i s hiR hsN (by omega) (Nat.le_refl _)
                have y4 := hys s k' hsN hkC (Nat.le_refl _) (by omega)
                have m1 := y1.1.pmul y2.1 (by omega)
                have m2 := y3.1.pmul y4.1 (by omega)
                have l1 := pmul_len (y s s) (y i k')
                have l2 := pmul_len (y i s) (y s k')
                have l3 := psub_len (pmul (y s s) (y i k')) (pmul (y i s) (y s k'))
                refine draw_rule [0, 1, 2, 3, 4, 5, 6, 7, 8, 9, 10, 11, 12, 13, 15, 16, 17, 18, 19, 20, 21, 22, 23, 24, 25, 26, 27, 28, 14, 29, 30, 31] [0, 1, 2, 3, 4, 5, 6, 7, 8, 9, 10, 11, 12, 13, 14, 15, 16, 17, 18, 19, 20, 21, 22, 23, 24, 25, 26, 27, 28, 29, 30, 31] (by kernel_rfl) (by kernel_rfl) ?_
                refine index_elem 1 rfl hv' s rfl (by omega) ?_
                refine load_one_elem 1 rfl s (by omega) (u := vs' s) rfl ?_
                refine index_famP 0 s rfl (by omega) (hvs' s (by omega)) s rfl (by omega) ?_
                refine load_famP 0 s s rfl (by omega) (by omega) (y s s) ?_ fun u1 => ?_
                · unfold pmix; rw [if_pos (by omega), hzy _ _ (by omega)]
                refine index_elem 1 rfl hv' i rfl (by omega) ?_
                refine load_one_elem 1 rfl i (by omega) (u := vs' i) rfl ?_
                refine index_famP 0 i rfl (by omega) (hvs' i (by omega)) k' rfl (by omega) ?_
                refine load_famP 0 i k' rfl (by omega) (by omega) (y i k') ?_ fun u2 => ?_
                · unfold pmix; rw [if_neg (by omega)]
                refine index_elem 1 rfl hv' i rfl (by omega) ?_
                refine load_one_elem 1 rfl i (by omega) (u := vs' i) rfl ?_
                refine index_famP 0 i rfl (by omega) (hvs' i (by omega)) s rfl (by omega) ?_
                refine load_famP 0 i s rfl (by omega) (by omega) (y i s) ?_ fun u3 => ?_
                · unfold pmix; rw [if_pos (by omega), hzy _ _ (by omega)]
                refine index_elem 1 rfl hv' s rfl (by omega) ?_
                refine load_one_elem 1 rfl s (by omega) (u := vs' s) rfl ?_
                refine index_famP 0 s rfl (by omega) (hvs' s (by omega)) k' rfl (by omega) ?_
                refine load_famP 0 s k' rfl (by omega) (by omega) (y s k') ?_ fun u4 => ?_
                · unfold pmix; rw [if_pos (by omega), hzy _ _ (by omega)]
                refine call_fn (pMulT u1 u2 _ _ _ _ y1.1 y2.1 (by omega) (by omega) (by omega)) (Seals.refl _ _) (by repeat (first | exact Sub.nil _ | refine Sub.cons (by repeat (first | exact List.Mem.head _ | apply List.Mem.tail)) ?_)) ?_
                rintro w1 _ _ ⟨rfl, rfl⟩
                refine call_fn (pMulT u3 u4 _ _ _ _ y3.1 y4.1 (by omega) (by omega) (by omega)) (Seals.refl _ _) (by repeat (first | exact Sub.nil _ | refine Sub.cons (by repeat (first | exact List.Mem.head _ | apply List.Mem.tail)) ?_)) ?_
                rintro w2 _ _ ⟨rfl, rfl⟩
                refine call_fn (pSubT w1 w2 _ _ _ m1 m2 (by omega) (by omega) (by omega)) (Seals.refl _ _) (by repeat (first | exact Sub.nil _ | refine Sub.cons (by repeat (first | exact List.Mem.head _ | apply List.Mem.tail)) ?_)) ?_
                rintro w3 _ _ ⟨rfl, rfl⟩
                refine draw_rule [0, 1, 2, 3, 4, 5, 6, 7, 8, 9, 10, 11, 12] [0, 1, 2, 3, 4, 5, 6, 7, 8, 9, 11, 12, 10] (by kernel_rfl) (by kernel_rfl) ?_
                refine index_elem 1 rfl hv' i rfl (by omega) ?_
                refine load_one_elem 1 rfl i (by omega) (u := vs' i) rfl ?_
                refine call_fn (pDivideT w3 lv _ _ _ _ (m1.psub m2) hlast.1 (hdiv _ (by omega)) (by omega) (by omega)) (Seals.refl _ _) (by repeat (first | exact Sub.nil _ | refine Sub.cons (by repeat (first | exact List.Mem.head _ | apply List.Mem.tail)) ?_)) ?_
                rintro _ _ _ ⟨rfl, w4, t, e, rfl, hds, _, rfl⟩
                obtain rfl := hquo i k' hi1 hiR hk1 hkC hds
                refine index_famP 0 i rfl (by omega) (hvs' i (by omega)) k' rfl (by omega) ?_
                refine store_px 0 i k' rfl (by omega) (by omega) _ (pmix z y i (k' + 1)) (Reads.fact (by repeat (first | exact List.Mem.head _ | apply List.Mem.tail))) (fun a b ha hb => ?_) ?_
                · unfold pmix
                  by_cases e : a = i ∧ b = k'
                  · rw [if_pos e, e.1, e.2, if_pos (by omega)]
                  · rw [if_neg e]
                    by_cases e1 : a < i ∨ a = i ∧ b < k'
                    · rw [if_pos e1, if_pos (by omega)]
                    · rw [if_neg e1, if_neg (by omega)]
                refine ar rfl (by first | exact ⟨by omega, by omega⟩ | (simp only [inK]; omega)) ?_
                exact again (k' + 1) ⟨by omega, by omega⟩ (by simp only; omega) (by repeat (first | exact trivial | refine ⟨rfl, ?_⟩ | refine ⟨i64_eq (by first | omega | (simp only; omega)), ?_⟩ | refine ⟨u64_eq (by first | omega | (simp only; omega)), ?_⟩)) (Seals.sub (by repeat (first | exact Sub.nil _ | refine Sub.cons (by repeat (first | exact List.Mem.head _ | apply List.Mem.tail)) ?_)))
              · have hkC : k' = N := by omega
                subst hkC
                refine ar rfl (by first | exact ⟨by omega, by omega⟩ | (simp only [inK]; omega)) ?_
                refine again (i + 1) ⟨by omega, by omega⟩ (by simp only; omega) (by repeat (first | exact trivial | refine ⟨rfl, ?_⟩ | refine ⟨i64_eq (by first | omega | (simp only; omega)), ?_⟩ | refine ⟨u64_eq (by first | omega | (simp only; omega)), ?_⟩)) (Seals.trans (Seals.pxcong (os := [_, _]) (x' := pmix z y (i + 1) 0) 0 rfl (fun i => i) (fun a ha => ⟨ha, rfl, fun b hb => ?_⟩) fun _ _ _ _ e => e) (Seals.sub (by repeat (first | exact Sub.nil _ | refine Sub.cons (by repeat (first | exact List.Mem.head _ | apply List.Mem.tail)) ?_))))
                unfold pmix
                by_cases e : a < i ∨ a = i ∧ b < k'
                · rw [if_pos e, if_pos (by omega)]
                · rw [if_neg e, if_neg (by omega)]
          · have hiR : i = N := by omega
            subst hiR
            refine index_elem 1 rfl hv' s rfl (by omega) ?_
            refine load_one_elem 1 rfl s (by omega) (u := vs' s) rfl ?_
            refine index_famP 0 s rfl (by omega) (hvs' s (by omega)) s rfl (by omega) ?_
            refine load_famP 0 s s rfl (by omega) (by omega) (y s s) ?_ fun u1 => ?_
            · unfold pmix; rw [if_pos (by omega), hzy _ _ (by omega)]
            refine ar rfl (by first | exact ⟨by omega, by omega⟩ | (simp only [inK]; omega)) ?_
            refine again ⟨s + 1, (!odd), y s s, u1, z, vs'⟩ hnext (by simp only; omega) (by repeat (first | exact trivial | refine ⟨rfl, ?_⟩ | refine ⟨i64_eq (by first | omega | (simp only; omega)), ?_⟩ | refine ⟨u64_eq (by first | omega | (simp only; omega)), ?_⟩)) (Seals.trans (Seals.pxcong (os := [_, _]) (x' := z) 0 rfl (fun i => i) (fun a ha => ⟨ha, rfl, fun b hb => ?_⟩) fun _ _ _ _ e => e) (Seals.sub (by repeat (first | exact Sub.nil _ | refine Sub.cons (by repeat (first | exact List.Mem.head _ | apply List.Mem.tail)) ?_))))
            unfold pmix; rw [if_pos (by omega)]
      · have hqs : q = s := by omega
        have hnext := hnext odd (if_pos hqs)
        refine ar rfl (by first | exact ⟨by omega, by omega⟩ | (simp only [inK]; omega)) ?_
        refine loop_rule (X := Nat) (fun i => ([(7, lv), (8, v'), (9, .bool (odd)), (10, .int .i64 (s : Nat)), (12, .int .i64 (i : Nat)), (39, .int .i64 (N : Nat)), (40, .int .i64 (s : Nat))], [famP vs' N N (pmix z y i 0), outer v' N vs'], [(lv, vd last)]))
          (fun i => s + 1 ≤ i ∧ i ≤ N) (fun i => N - i) rfl ?_ ?_
        · exact again (s + 1) ⟨Nat.le_refl _, by omega⟩ trivial (by repeat (first | exact trivial | refine ⟨rfl, ?_⟩ | refine ⟨i64_eq (by first | omega | (simp only; omega)), ?_⟩ | refine ⟨u64_eq (by first | omega | (simp only; omega)), ?_⟩)) (Seals.trans (Seals.own_cong (os := [_, _]) 1 (fun i => .one (vs' i)) rfl rfl fun i _ => by rw [hv's, hqs, xc_same]) (Seals.trans (Seals.pxcong (os := [_, _]) 0 rfl (xc s q) hpx fun _ _ _ _ e => xc_inj e) (Seals.sub (by repeat (first | exact Sub.nil _ | refine Sub.cons (by repeat (first | exact List.Mem.head _ | apply List.Mem.tail)) ?_)))))
        · rintro i ⟨hi1, hi2⟩
          refine len_own 1 rfl hv' fun _ => ?_
          refine cmp_split _ rfl (fun hi => ?_) (fun hi => ?_)
          · have hiR : i < N := by omega
            refine ar rfl (by first | exact ⟨by omega, by omega⟩ | (simp only [inK]; omega)) ?_
            refine loop_rule (X := Nat) (fun k' => ([(7, lv), (8, v'), (9, .bool (odd)), (10, .int .i64 (s : Nat)), (12, .int .i64 (i : Nat)), (13, .int .i64 (k' : Nat)), (39, .int .i64 (N : Nat)), (40, .int .i64 (s : Nat))], [famP vs' N N (pmix z y i k'), outer v' N vs'], [(lv, vd last)]))
              (fun k' => s + 1 ≤ k' ∧ k' ≤ N) (fun k' => N - k') rfl ?_ ?_
            · refine again (s + 1) ⟨Nat.le_refl _, by omega⟩ trivial (by repeat (first | exact trivial | refine ⟨rfl, ?_⟩ | refine ⟨i64_eq (by first | omega | (simp only; omega)), ?_⟩ | refine ⟨u64_eq (by first | omega | (simp only; omega)), ?_⟩)) (Seals.trans (Seals.pxcong (os := [_, _]) (x' := pmix z y i (s + 1)) 0 rfl (fun i => i) (fun a ha => ⟨ha, rfl, fun b hb => ?_⟩) fun _ _ _ _ e => e) (Seals.sub (by repeat (first | exact Sub.nil _ | refine Sub.cons (by repeat (first | exact List.Mem.head _ | apply List.Mem.tail)) ?_))))
              unfold pmix
              by_cases e : a < i ∨ (a = i ∧ b < 0)
              · rw [if_pos e, if_pos (by omega)]
              · rw [if_neg e]
                split
                · exact hzy _ _ (by omega)
                · rfl
            · rintro k' ⟨hk1, hk2⟩
              refine len_own 1 rfl hv' fun _ => ?_
              refine cmp_split _ rfl (fun hc2 => ?_) (fun hc2 => ?_)
              · have hkC : k' < N := by omega
                have y1 := hys s s hsN hsN (Nat.le_refl _) (Nat.le_refl _)
                have y2 := hys i k' hiR hkC (by omega) (by omega)
                have y3 := hys i s hiR hsN (by omega) (Nat.le_refl _)
                have y4 := hys s k' hsN hkC (Nat.le_refl _) (by omega)
                have m1 := y1.1.pmul y2.1 (by omega)
                have m2 := y3.1.pmul y4.1 (by omega)
                have l1 := pmul_len (y s s) (y i k')
                have l2 := pmul_len (y i s) (y s k')
                have l3 := psub_len (pmul (y s s) (y i k')) (pmul (y i s) (y s k'))
                refine draw_rule [0, 1, 2, 3, 4, 5, 6, 7, 8, 9, 10, 11, 12, 13, 15, 16, 17, 18, 19, 20, 21, 22, 23, 24, 25, 26, 27, 28, 14, 29, 30, 31] [0, 1, 2, 3, 4, 5, 6, 7, 8, 9, 10, 11, 12, 13, 14, 15, 16, 17, 18, 19, 20, 21, 22, 23, 24, 25, 26, 27, 28, 29, 30, 31] (by kernel_rfl) (by kernel_rfl) ?_
                refine index_elem 1 rfl hv' s rfl (by omega) ?_
                refine load_one_elem 1 rfl s (by omega) (u := vs' s) rfl ?_
                refine index_famP 0 s rfl (by omega) (hvs' s (by omega)) s rfl (by omega) ?_
                refine load_famP 0 s s rfl (by omega) (by omega) (y s s) ?_ fun u1 => ?_
                · unfold pmix; rw [if_pos (by omega), hzy _ _ (by omega)]
                refine index_elem 1 rfl hv' i rfl (by omega) ?_
                refine load_one_elem 1 rfl i (by omega) (u := vs' i) rfl ?_
                refine index_famP 0 i rfl (by omega) (hvs' i (by omega)) k' rfl (by omega) ?_
                refine load_famP 0 i k' rfl (by omega) (by omega) (y i k') ?_ fun u2 => ?_
                · unfold pmix; rw [if_neg (by omega)]
                refine index_elem 1 rfl hv' i rfl (by omega) ?_
                refine load_one_elem 1 rfl i (by omega) (u := vs' i) rfl ?_
                refine index_famP 0 i rfl (by omega) (hvs' i (by omega)) s rfl (by omega) ?_
                refine load_famP 0 i s rfl (by omega) (by omega) (y i s) ?_ fun u3 => ?_
                · unfold pmix; rw [if_pos (by omega), hzy _ _ (by omega)]
                refine index_elem 1 rfl hv' s rfl (by omega) ?_
                refine load_one_elem 1 rfl s (by omega) (u := vs' s) rfl ?_
                refine index_famP 0 s rfl (by omega) (hvs' s (by omega)) k' rfl (by omega) ?_
                refine load_famP 0 s k' rfl (by omega) (by omega) (y s k') ?_ fun u4 => ?_
                · unfold pmix; rw [if_pos (by omega), hzy _ _ (by omega)]
                refine call_fn (pMulT u1 u2 _ _ _ _ y1.1 y2.1 (by omega) (by omega) (by omega)) (Seals.refl _ _) (by repeat (first | exact Sub.nil _ | refine Sub.cons (by repeat (first | exact List.Mem.head _ | apply List.Mem.tail)) ?_)) ?_
                rintro w1 _ _ ⟨rfl, rfl⟩
                refine call_fn (pMulT u3 u4 _ _ _ _ y3.1 y4.1 (by omega) (by omega) (by omega)) (Seals.refl _ _) (by repeat (first | exact Sub.nil _ | refine Sub.cons (by repeat (first | exact List.Mem.head _ | apply List.Mem.tail)) ?_)) ?_
                rintro w2 _ _ ⟨rfl, rfl⟩
                refine call_fn (pSubT w1 w2 _ _ _ m1 m2 (by omega) (by omega) (by omega)) (Seals.refl _ _) (by repeat (first | exact Sub.nil _ | refine Sub.cons (by repeat (first | exact List.Mem.head _ | apply List.Mem.tail)) ?_)) ?_
                rintro w3 _ _ ⟨rfl, rfl⟩
                refine draw_rule [0, 1, 2, 3, 4, 5, 6, 7, 8, 9, 10, 11, 12] [0, 1, 2, 3, 4, 5, 6, 7, 8, 9, 11, 12, 10] (by kernel_rfl) (by kernel_rfl) ?_
                refine index_elem 1 rfl hv' i rfl (by omega) ?_
                refine load_one_elem 1 rfl i (by omega) (u := vs' i) rfl ?_
                refine call_fn (pDivideT w3 lv _ _ _ _ (m1.psub m2) hlast.1 (hdiv _ (by omega)) (by omega) (by omega)) (Seals.refl _ _) (by repeat (first | exact Sub.nil _ | refine Sub.cons (by repeat (first | exact List.Mem.head _ | apply List.Mem.tail)) ?_)) ?_
                rintro _ _ _ ⟨rfl, w4, t, e, rfl, hds, _, rfl⟩
                obtain rfl := hquo i k' hi1 hiR hk1 hkC hds
                refine index_famP 0 i rfl (by omega) (hvs' i (by omega)) k' rfl (by omega) ?_
                refine store_px 0 i k' rfl (by omega) (by omega) _ (pmix z y i (k' + 1)) (Reads.fact (by repeat (first | exact List.Mem.head _ | apply List.Mem.tail))) (fun a b ha hb => ?_) ?_
                · unfold pmix
                  by_cases e : a = i ∧ b = k'
                  · rw [if_pos e, e.1, e.2, if_pos (by omega)]
                  · rw [if_neg e]
                    by_cases e1 : a < i ∨ a = i ∧ b < k'
                    · rw [if_pos e1, if_pos (by omega)]
                    · rw [if_neg e1, if_neg (by omega)]
                refine ar rfl (by first | exact ⟨by omega, by omega⟩ | (simp only [inK]; omega)) ?_
                exact again (k' + 1) ⟨by omega, by omega⟩ (by simp only; omega) (by repeat (first | exact trivial | refine ⟨rfl, ?_⟩ | refine ⟨i64_eq (by first | omega | (simp only; omega)), ?_⟩ | refine ⟨u64_eq (by first | omega | (simp only; omega)), ?_⟩)) (Seals.sub (by repeat (first | exact Sub.nil _ | refine Sub.cons (by repeat (first | exact List.Mem.head _ | apply List.Mem.tail)) ?_)))
              · have hkC : k' = N := by omega
                subst hkC
                refine ar rfl (by first | exact ⟨by omega, by omega⟩ | (simp only [inK]; omega)) ?_
                refine again (i + 1) ⟨by omega, by omega⟩ (by simp only; omega) (by repeat (first | exact trivial | refine ⟨rfl, ?_⟩ | refine ⟨i64_eq (by first | omega | (simp only; omega)), ?_⟩ | refine ⟨u64_eq (by first | omega | (simp only; omega)), ?_⟩)) (Seals.trans (Seals.pxcong (os := [_, _]) (x' := pmix z y (i + 1) 0) 0 rfl (fun i => i) (fun a ha => ⟨ha, rfl, fun b hb => ?_⟩) fun _ _ _ _ e => e) (Seals.sub (by repeat (first | exact Sub.nil _ | refine Sub.cons (by repeat (first | exact List.Mem.head _ | apply List.Mem.tail)) ?_))))
                unfold pmix
                by_cases e : a < i ∨ a = i ∧ b < k'
                · rw [if_pos e, if_pos (by omega)]
                · rw [if_neg e, if_neg (by omega)]
          · have hiR : i = N := by omega
            subst hiR
            refine index_elem 1 rfl hv' s rfl (by omega) ?_
            refine load_one_elem 1 rfl s (by omega) (u := vs' s) rfl ?_
            refine index_famP 0 s rfl (by omega) (hvs' s (by omega)) s rfl (by omega) ?_
            refine load_famP 0 s s rfl (by omega) (by omega) (y s s) ?_ fun u1 => ?_
            · unfold pmix; rw [if_pos (by omega), hzy _ _ (by omega)]
            refine ar rfl (by first | exact ⟨by omega, by omega⟩ | (simp only [inK]; omega)) ?_
            refine again ⟨s + 1, (odd), y s s, u1, z, vs'⟩ hnext (by simp only; omega) (by repeat (first | exact trivial | refine ⟨rfl, ?_⟩ | refine ⟨i64_eq (by first | omega | (simp only; omega)), ?_⟩ | refine ⟨u64_eq (by first | omega | (simp only; omega)), ?_⟩)) (Seals.trans (Seals.pxcong (os := [_, _]) (x' := z) 0 rfl (fun i => i) (fun a ha => ⟨ha, rfl, fun b hb => ?_⟩) fun _ _ _ _ e => e) (Seals.sub (by repeat (first | exact Sub.nil _ | refine Sub.cons (by repeat (first | exact List.Mem.head _ | apply List.Mem.tail)) ?_))))
            unfold pmix; rw [if_pos (by omega)]
end Go.Proofs.Ytfkeohlpcjpkbaa

namespace Go.Proofs.Ytfkeohlpcjpkbaa
open Go.RowKit
theorem gExact_meets (v w : Value) (a b : List Row) :
    Meets Try.prog 49 [v, w] [(v, W a), (w, W b)] (fun r os fs => os = [] ∧ fs = [] ∧ r = .bool (decide (a = b))) := by
  refine meets_of_vc Try.func49 (by kernel_rfl) rfl (by kernel_rfl) (Nat.le_of_ble_eq_true rfl) ?_
  refine len_fact (by repeat (first | exact List.Mem.head _ | apply List.Mem.tail)) fun _ => ?_
  refine len_fact (by repeat (first | exact List.Mem.head _ | apply List.Mem.tail)) fun _ => ?_
  refine cmp_split _ rfl (fun hl => ?_) (fun hl => ?_)
  · exact fin ⟨rfl, rfl, congrArg Value.bool (decide_eq_false (fun e => hl (by rw [e]))).symm⟩ (Seals.nil _ _)
  · have hl' : a.length = b.length := by omega
    refine loop_rule (X := Nat) (fun i => ([(0, v), (1, w), (5, .int .i64 (i : Nat))], [], [(v, W a), (w, W b)]))
      (fun i => i ≤ a.length ∧ ∀ k, k < i → a.getD k [] = b.getD k []) (fun i => a.length - i) rfl ?_ ?_
    · exact again 0 ⟨Nat.zero_le _, fun k hk => absurd hk (Nat.not_lt_zero _)⟩ trivial (by repeat (first | exact trivial | refine ⟨rfl, ?_⟩ | refine ⟨i64_eq (by first | omega | (simp only; omega)), ?_⟩ | refine ⟨u64_eq (by first | omega | (simp only; omega)), ?_⟩)) (Seals.sub (by repeat (first | exact Sub.nil _ | refine Sub.cons (by repeat (first | exact List.Mem.head _ | apply List.Mem.tail)) ?_)))
    · rintro i ⟨h1, h2⟩
      refine len_fact (by repeat (first | exact List.Mem.head _ | apply List.Mem.tail)) fun _ => ?_
      refine cmp_split _ rfl (fun hi => ?_) (fun hi => ?_)
      · refine draw_rule [0, 1, 2, 3, 4, 5, 6, 7, 8, 9] [0, 1, 2, 3, 4, 5, 6, 7, 8, 9] (by kernel_rfl) (by kernel_rfl) ?_
        refine index_fact (by repeat (first | exact List.Mem.head _ | apply List.Mem.tail)) i rfl (by omega) fun a1 => ?_
        refine load_fact (d := V (a.getD i [])) (by repeat (first | exact List.Mem.head _ | apply List.Mem.tail)) (load_V _) fun x1 => ?_
        refine index_fact (by repeat (first | exact List.Mem.head _ | apply List.Mem.tail)) i rfl (by omega) fun a2 => ?_
        refine load_fact (d := V (b.getD i [])) (by repeat (first | exact List.Mem.head _ | apply List.Mem.tail)) (load_V _) fun x2 => ?_
        refine call_fn (exactAll_meets x1 x2 (a.getD i []) (b.getD i [])) (Seals.refl _ _) (by repeat (first | exact Sub.nil _ | refine Sub.cons (by repeat (first | exact List.Mem.head _ | apply List.Mem.tail)) ?_)) ?_
        rintro _ _ _ ⟨rfl, rfl, rfl⟩
        by_cases he : a.getD i [] = b.getD i []
        · rw [decide_eq_true he]
          refine ar rfl (by first | exact ⟨by omega, by omega⟩ | (simp only [inK]; omega)) ?_
          refine again (i + 1) ⟨by omega, fun k hk => ?_⟩ (by simp only; omega) (by repeat (first | exact trivial | refine ⟨rfl, ?_⟩ | refine ⟨i64_eq (by first | omega | (simp only; omega)), ?_⟩ | refine ⟨u64_eq (by first | omega | (simp only; omega)), ?_⟩)) (Seals.sub (by repeat (first | exact Sub.nil _ | refine Sub.cons (by repeat (first | exact List.Mem.head _ | apply List.Mem.tail)) ?_)))
          by_cases hki : k = i
          · subst hki; exact he
          · exact h2 k (by omega)
        · rw [decide_eq_false he]
          exact fin ⟨rfl, rfl, congrArg Value.bool (decide_eq_false (fun e => he (by rw [e]))).symm⟩ (Seals.nil _ _)
      · exact fin ⟨rfl, rfl, congrArg Value.bool (decide_eq_true (row_eq_of_getD [] hl' fun k hk => h2 k (by omega))).symm⟩ (Seals.nil _ _)
theorem gFits_meets (v : Value) (m : List Row) (n k c : Nat) :
    Meets Try.prog 10 [v, .int .i64 (n : Int), .int .i64 (k : Int), .int .i64 (c : Int)] [(v, W m)] (fun r os fs => os = [] ∧ fs = [] ∧ r = .bool (decide (small n k c m))) := by
  refine meets_of_vc Try.func10 (by kernel_rfl) rfl (by kernel_rfl) (Nat.le_of_ble_eq_true rfl) ?_
  refine len_fact (by repeat (first | exact List.Mem.head _ | apply List.Mem.tail)) fun _ => ?_
  refine cmp_split _ rfl (fun hl => ?_) (fun hl => ?_)
  · exact fin ⟨rfl, rfl, congrArg Value.bool (decide_eq_false (fun e => by have := e.1; omega)).symm⟩ (Seals.nil _ _)
  · refine loop_rule (X := Nat) (fun i => ([(0, v), (2, .int .i64 (k : Nat)), (3, .int .i64 (c : Nat)), (9, .int .i64 (i : Nat))], [], [(v, W m)]))
      (fun i => i ≤ m.length ∧ ∀ j, j < i → (m.getD j []).length ≤ k ∧ ∀ x, x ∈ m.getD j [] → x.2.length ≤ c) (fun i => m.length - i) rfl ?_ ?_
    · exact again 0 ⟨Nat.zero_le _, fun k hk => absurd hk (Nat.not_lt_zero _)⟩ trivial (by repeat (first | exact trivial | refine ⟨rfl, ?_⟩ | refine ⟨i64_eq (by first | omega | (simp only; omega)), ?_⟩ | refine ⟨u64_eq (by first | omega | (simp only; omega)), ?_⟩)) (Seals.sub (by repeat (first | exact Sub.nil _ | refine Sub.cons (by repeat (first | exact List.Mem.head _ | apply List.Mem.tail)) ?_)))
    · rintro i ⟨h1, h2⟩
      refine len_fact (by repeat (first | exact List.Mem.head _ | apply List.Mem.tail)) fun _ => ?_
      refine cmp_split _ rfl (fun hi => ?_) (fun hi => ?_)
      · have hlt : i < m.length := by omega
        refine index_fact (by repeat (first | exact List.Mem.head _ | apply List.Mem.tail)) i rfl hlt fun a1 => ?_
        refine load_fact (d := V (m.getD i [])) (by repeat (first | exact List.Mem.head _ | apply List.Mem.tail)) (load_V _) fun x1 => ?_
        refine call_fn (rFits_meets x1 (m.getD i []) k c) (Seals.refl _ _) (by repeat (first | exact Sub.nil _ | refine Sub.cons (by repeat (first | exact List.Mem.head _ | apply List.Mem.tail)) ?_)) ?_
        rintro _ _ _ ⟨rfl, rfl, rfl⟩
        by_cases he : (m.getD i []).length ≤ k ∧ ∀ x, x ∈ m.getD i [] → x.2.length ≤ c
        · rw [decide_eq_true he]
          refine ar rfl (by first | exact ⟨by omega, by omega⟩ | (simp only [inK]; omega)) ?_
          refine again (i + 1) ⟨by omega, fun j hj => ?_⟩ (by simp only; omega) (by repeat (first | exact trivial | refine ⟨rfl, ?_⟩ | refine ⟨i64_eq (by first | omega | (simp only; omega)), ?_⟩ | refine ⟨u64_eq (by first | omega | (simp only; omega)), ?_⟩)) (Seals.sub (by repeat (first | exact Sub.nil _ | refine Sub.cons (by repeat (first | exact List.Mem.head _ | apply List.Mem.tail)) ?_)))
          by_cases hji : j = i
          · subst hji; exact he
          · exact h2 j (by omega)
        · rw [decide_eq_false he]
          exact fin ⟨rfl, rfl, congrArg Value.bool (decide_eq_false (fun e => he (e.2 _ (getD_mem [] hlt)))).symm⟩ (Seals.nil _ _)
      · exact fin ⟨rfl, rfl, congrArg Value.bool (decide_eq_true (⟨by omega, fun r hr => by obtain ⟨j, hj, rfl⟩ := mem_getD [] hr; exact h2 j (by omega)⟩ : small n k c m)).symm⟩ (Seals.nil _ _)
theorem grow12_meets (v : Value) (l : List Int) (hl : l.length ≤ 1000) (hz : ∀ x, x ∈ l → -9223372036854775808 ≤ x ∧ x < 9223372036854775808) :
    Meets Try.prog 33 [v] [(v, IL l)] (fun r os fs => os = [] ∧ fs = [(r, vd l)]) := by
  have hfin : lst l.length (fun i => l.getD i 0) = l := by
    have := lst_map l fun x => x
    rw [List.map_id'] at this
    exact this
  have hg : ∀ i, i < l.length → -9223372036854775808 ≤ l.getD i 0 ∧ l.getD i 0 < 9223372036854775808 := fun i hi => hz _ (getD_mem 0 hi)
  refine meets_of_vc Try.func33 (by kernel_rfl) rfl (by kernel_rfl) (Nat.le_of_ble_eq_true rfl) ?_
  refine empty_L (size := 2) (e := 39) J z0 (by decide) fun v0 hv0 => ?_
  refine loop_rule (X := Value × Nat) (fun x => ([(0, v), (3, x.1), (4, .int .i64 (x.2 : Nat))], [ownL 2 J z0 x.1 ((lst x.2 fun i => l.getD i 0).map cn)], [(v, IL l)])) (fun x => isSl x.1 ∧ x.2 ≤ l.length) (fun x => l.length - x.2) rfl ?_ ?_
  · exact again (v0, 0) ⟨hv0, Nat.zero_le _⟩ trivial (by repeat (first | exact trivial | refine ⟨rfl, ?_⟩ | refine ⟨i64_eq (by first | omega | (simp only; omega)), ?_⟩ | refine ⟨u64_eq (by first | omega | (simp only; omega)), ?_⟩)) (Seals.sub (by repeat (first | exact Sub.nil _ | refine Sub.cons (by repeat (first | exact List.Mem.head _ | apply List.Mem.tail)) ?_)))
  · rintro ⟨vo, i⟩ ⟨hvo, h2⟩
    simp only at hvo h2 ⊢
    refine len_fact (by repeat (first | exact List.Mem.head _ | apply List.Mem.tail)) fun _ => ?_
    refine cmp_split _ rfl (fun hlt => ?_) (fun hlt => ?_)
    · have hin : i < l.length := by omega
      have hll : (lst i fun i => l.getD i 0).length = i := lst_len _ _
      refine index_fact (by repeat (first | exact List.Mem.head _ | apply List.Mem.tail)) i rfl hin fun a1 => ?_
      refine load_one (by repeat (first | exact List.Mem.head _ | apply List.Mem.tail)) ?_
      refine call_fn (rOf_meets (l.getD i 0) (hg i hin).1 (hg i hin).2) (Seals.refl _ _) (by repeat (first | exact Sub.nil _ | refine Sub.cons (by repeat (first | exact List.Mem.head _ | apply List.Mem.tail)) ?_)) ?_
      rintro y _ _ ⟨rfl, rfl⟩
      refine lit_L (size := 2) (f := J) (z := z0) (e := 39) (cn (l.getD i 0)) (by decide) (Reads.fact (by repeat (first | exact List.Mem.head _ | apply List.Mem.tail))) rfl fun y4 => ?_
      refine append_L (size := 2) (e := 39) (f := J) (z := z0) (l := (lst i fun i => l.getD i 0).map cn) (m := [cn (l.getD i 0)]) 0 rfl hvo (Knw.fact (by repeat (first | exact List.Mem.head _ | apply List.Mem.tail))) (by simp only [List.length_map, hll, List.length_cons, List.length_nil]; omega) (by simp only [List.length_map, hll, List.length_cons, List.length_nil]; omega) fun vn hvn => ?_
      refine ar rfl (by first | exact ⟨by omega, by omega⟩ | (simp only [inK]; omega)) ?_
      refine again (vn, i + 1) ⟨hvn, by simp only; omega⟩ (by simp only; omega) (by repeat (first | exact trivial | refine ⟨rfl, ?_⟩ | refine ⟨i64_eq (by first | omega | (simp only; omega)), ?_⟩ | refine ⟨u64_eq (by first | omega | (simp only; omega)), ?_⟩)) ?_
      rw [show (lst i fun i => l.getD i 0).map cn ++ [cn (l.getD i 0)] = (lst (i + 1) fun i => l.getD i 0).map cn by rw [lst_snoc, List.map_append]; rfl]
      exact Seals.sub (by repeat (first | exact Sub.nil _ | refine Sub.cons (by repeat (first | exact List.Mem.head _ | apply List.Mem.tail)) ?_))
    · have hii : i = l.length := by omega
      subst hii
      refine fin ⟨rfl, rfl⟩ (Seals.trans (Seals.toldL hvo) ?_)
      rw [hfin]
      exact Seals.sub (by repeat (first | exact Sub.nil _ | refine Sub.cons (by repeat (first | exact List.Mem.head _ | apply List.Mem.tail)) ?_))
theorem gsame_meets (v w : Value) (a b : List Row) :
    Meets Try.prog 15 [v, w] [(v, W a), (w, W b)] (fun r os fs => os = [] ∧ fs = [] ∧ r = .bool (decide (a = b))) := by
  refine meets_of_vc Try.func15 (by kernel_rfl) rfl (by kernel_rfl) (Nat.le_of_ble_eq_true rfl) ?_
  refine call_fn (gExact_meets v w a b) (Seals.refl _ _) (by repeat (first | exact Sub.nil _ | refine Sub.cons (by repeat (first | exact List.Mem.head _ | apply List.Mem.tail)) ?_)) ?_
  rintro _ _ _ ⟨rfl, rfl, rfl⟩
  exact fin ⟨rfl, rfl, rfl⟩ (Seals.nil _ _)
/-- Two told grids that are the same. -/
theorem gsameT (v w : Value) (x y : List (List Int)) (h : x = y) :
    Meets Try.prog 15 [v, w] [(v, wd x), (w, wd y)] (fun r os fs => os = [] ∧ fs = [] ∧ r = .bool true) := by
  have := gsame_meets v w (x.map (·.map cn)) (y.map (·.map cn))
  rw [decide_eq_true (by rw [h])] at this
  exact this
theorem glittle_meets (v : Value) (m : List Row) :
    Meets Try.prog 19 [v] [(v, W m)] (fun r os fs => os = [] ∧ fs = [] ∧ r = .bool (decide (small 4 4 1 m))) := by
  refine meets_of_vc Try.func19 (by kernel_rfl) rfl (by kernel_rfl) (Nat.le_of_ble_eq_true rfl) ?_
  refine call_fn (gFits_meets v m 4 4 1) (Seals.refl _ _) (by repeat (first | exact Sub.nil _ | refine Sub.cons (by repeat (first | exact List.Mem.head _ | apply List.Mem.tail)) ?_)) ?_
  rintro _ _ _ ⟨rfl, rfl, rfl⟩
  exact fin ⟨rfl, rfl, rfl⟩ (Seals.nil _ _)
end Go.Proofs.Ytfkeohlpcjpkbaa

namespace Go.Proofs.Ytfkeohlpcjpkbaa
open Go.RowKit
abbrev toW (G : List (List Int)) : List Row := G.map (·.map cn)
theorem ww_toW (G : List (List Int)) : ww (toW G) = G := by
  unfold ww
  rw [List.map_map]
  conv => rhs; rw [← List.map_id G]
  exact List.map_congr_left fun r _ => vv_cn r
theorem gmuE_gn (g h : List Row) : Gn (gmuE g h) := by
  unfold gmuE; split
  · exact ⟨rfl, fun r hr => by simp at hr⟩
  · exact gof_gn _ _ _
/-- The product. -/
def gmu (G H : List (List Int)) : List (List Int) := gmuE (toW G) (toW H)
theorem gmu_gn (G H : List (List Int)) : Gn (gmu G H) := gmuE_gn _ _
theorem gev_gmu (G H : List (List Int)) (x y : Int) : gev (gmu G H) x y = gev G x y * gev H x y := by
  rw [gmu, gev_gmuE, ww_toW, ww_toW]
theorem gmuE_eq (g h : List Row) : gmuE g h = gmu (ww g) (ww h) := (gmuE_gn _ _).ev_ext (gmu_gn _ _) fun x y => by rw [gev_gmuE, gev_gmu]
/-- A grid's rows, what they stand for, limbs and lengths. -/
structure Lg (A : List Row) (G : List (List Int)) (k n : Nat) : Prop where
  val : ww A = G
  len : A.length ≤ n
  row : ∀ r, r ∈ A → r.length ≤ n ∧ Fit k r
theorem Lg.raw {n k : Nat} {m : List Row} (h : small n n k m) (hl : limM m) : Lg m (ww m) k n := ⟨rfl, h.1, fun r hr => ⟨(h.2 r hr).1, fun x hx => ⟨hl r hr x hx, (h.2 r hr).2 x hx⟩⟩⟩
theorem Lg.told {G : List (List Int)} {k n : Nat} (h : G.length ≤ n) (hr : ∀ r, r ∈ G → r.length ≤ n ∧ szR k r) : Lg (toW G) G k n :=
  ⟨ww_toW G, by rw [List.length_map]; exact h, fun r hr' => by
    obtain ⟨l, hl, rfl⟩ := List.mem_map.1 hr'
    exact ⟨by rw [List.length_map]; exact (hr l hl).1, (hr l hl).2.fit⟩⟩
section
variable {A B : List Row} {G H : List (List Int)} {k j n n' : Nat}
theorem Lg.mono (h : Lg A G k n) (hk : k ≤ j) (hn : n ≤ n') : Lg A G j n' := ⟨h.val, Nat.le_trans h.len hn, fun r hr => ⟨Nat.le_trans (h.row r hr).1 hn, (h.row r hr).2.mono hk⟩⟩
theorem Lg.gf (h : Lg A G k n) (hk : k ≤ j) (hn : n ≤ 1048576) : Gf j A := ⟨Nat.le_trans h.len hn, fun r hr => ⟨Nat.le_trans (h.row r hr).1 hn, (h.row r hr).2.mono hk⟩⟩
theorem Lg.gs (h : Lg A G k n) (hn : n ≤ 1024) : Gs k A := ⟨Nat.le_trans h.len hn, fun r hr => ⟨Nat.le_trans (h.row r hr).1 hn, (h.row r hr).2⟩⟩
theorem Lg.ll (h : Lg A G k n) : G.length ≤ n := by rw [← h.val, ww_len]; exact h.len
theorem Lg.g (h : Lg A G k n) (i : Nat) : szR k (G.getD i []) ∧ (G.getD i []).length ≤ n := by
  rw [← h.val, ww_get]
  by_cases hi : i < A.length
  · have := h.row _ (getD_mem [] hi)
    exact ⟨this.2.szR, by rw [vv_len]; exact this.1⟩
  · rw [getD_end (l := A) (by omega)]
    exact ⟨fun x hx => by simp [vv] at hx, Nat.zero_le _⟩
theorem Lg.gv (h : Lg A G k n) (i j : Nat) : sz (Go.Proofs.Ytfkeohlpcjpkbaa.gv G i j) k := (h.g i).1.get j
theorem Lg.dx (h : Lg A G k n) : gdx G ≤ n := Nat.le_trans (gdxN_le _ _) h.ll
theorem Lg.dy (h : Lg A G k n) : gdy G ≤ n := gdyN_le (fun i => Nat.le_trans (dg_le_len _) (h.g i).2) _
theorem Lg.of_gtr {E : List (List Int)} (h : E.length ≤ n) (hr : ∀ r, r ∈ E → r.length ≤ n ∧ szR k r) : Lg (toW (gtr E)) (gtr E) k n :=
  Lg.told (Nat.le_trans (gtr_len _) h) fun r hr' => hr r (gtr_mem hr')
theorem Lg.gof {F : Nat → Nat → Int} {a c : Nat} (hF : ∀ i j, sz (F i j) k) (ha : a ≤ n) (hc : c ≤ n) : Lg (toW (gof F a c)) (Go.Proofs.Ytfkeohlpcjpkbaa.gof F a c) k n :=
  Lg.of_gtr (by simpa using ha) fun r hr => by
    obtain ⟨i, _, rfl⟩ := List.mem_map.1 hr
    exact ⟨Nat.le_trans (nrm_length_le _) (by rw [lst_len]; exact hc), szR.nrm (szR.lst fun j _ => hF i j)⟩
theorem Lg.gn (h : Lg A G k n) : Lg (toW (gn G)) (Go.Proofs.Ytfkeohlpcjpkbaa.gn G) k n := Lg.of_gtr (by rw [List.length_map]; exact h.ll) fun r hr => by
  obtain ⟨p, hp, rfl⟩ := List.mem_map.1 hr
  obtain ⟨i, hi, rfl⟩ := mem_getD [] hp
  exact ⟨Nat.le_trans (nrm_length_le _) (h.g i).2, (h.g i).1.nrm⟩
theorem Lg.zr {f : List Int → List Int → List Int} (h : Lg A G k n) (h' : Lg B H k n) (hf : ∀ l m, szR k l → szR k m → l.length ≤ n → m.length ≤ n → szR j (f l m) ∧ (f l m).length ≤ n) :
    Lg (toW (Go.Proofs.Ytfkeohlpcjpkbaa.gn (zrow f G H (max G.length H.length)))) (Go.Proofs.Ytfkeohlpcjpkbaa.gn (zrow f G H (max G.length H.length))) j n := Lg.of_gtr (by rw [List.length_map, zrow_len]; exact Nat.max_le.2 ⟨h.ll, h'.ll⟩) fun r hr => by
  obtain ⟨p, hp, rfl⟩ := List.mem_map.1 hr
  obtain ⟨i, _, rfl⟩ := List.mem_map.1 hp
  have := hf _ _ (h.g i).1 (h'.g i).1 (h.g i).2 (h'.g i).2
  exact ⟨Nat.le_trans (nrm_length_le _) this.2, this.1.nrm⟩
theorem Lg.add (h : Lg A G k n) (h' : Lg B H k n) : Lg (toW (gadd G H)) (gadd G H) (k + 1) n := h.zr h' fun _ _ a b c d => ⟨a.padd b, Nat.le_trans (padd_len _ _) (Nat.max_le.2 ⟨c, d⟩)⟩
theorem Lg.sub (h : Lg A G k n) (h' : Lg B H k n) : Lg (toW (gsub G H)) (gsub G H) (k + 1) n := h.zr h' fun _ _ a b c d => ⟨a.psub b, Nat.le_trans (psub_len _ _) (Nat.max_le.2 ⟨c, d⟩)⟩
theorem Lg.tu (h : Lg A G k n) : Lg (toW (gtu G)) (gtu G) k n := Lg.gof (fun i j => h.gv j i) h.dy h.dx
theorem Lg.toW (h : Lg A G k n) : Lg (Go.Proofs.Ytfkeohlpcjpkbaa.toW G) G k n := Lg.told h.ll fun r hr => by
  obtain ⟨i, hi, rfl⟩ := mem_getD [] hr
  exact ⟨(h.g i).2, (h.g i).1⟩
theorem Lg.mul (h : Lg A G k n) (h' : Lg B H j n') (hn : n ≤ 1024) (hn' : n' ≤ 1024) : Lg (Go.Proofs.Ytfkeohlpcjpkbaa.toW (gmu G H)) (gmu G H) (k + j + 1) (n + n') := by
  have g1 := h.toW.gs hn
  have g2 := h'.toW.gs hn'
  unfold gmu gmuE
  rw [ww_toW, ww_toW]
  split
  · exact Lg.told (Nat.zero_le _) fun r hr => by simp at hr
  · refine Lg.gof (fun i j' => ?_) (by have := h.dx; have := h'.dx; omega) (by have := h.dy; have := h'.dy; omega)
    have e : pairs (tg (Go.Proofs.Ytfkeohlpcjpkbaa.toW G) (Go.Proofs.Ytfkeohlpcjpkbaa.toW G).length) (tg (Go.Proofs.Ytfkeohlpcjpkbaa.toW H) (Go.Proofs.Ytfkeohlpcjpkbaa.toW H).length) i j' + some2 (0, 0, z0) [] i j' = pairs (tg (Go.Proofs.Ytfkeohlpcjpkbaa.toW G) (Go.Proofs.Ytfkeohlpcjpkbaa.toW G).length) (tg (Go.Proofs.Ytfkeohlpcjpkbaa.toW H) (Go.Proofs.Ytfkeohlpcjpkbaa.toW H).length) i j' := by simp [some2, esum]
    rw [← e]
    exact sum_sz (fun t ht => sz_jv (g1.tin t ht).2.2.1 (g1.tin t ht).2.2.2) (by rw [jv_z0]; exact sz_zero _) (fun t ht => sz_jv (g2.tin t ht).2.2.1 (g2.tin t ht).2.2.2) (fun t ht => by simp at ht) g1.tlen g2.tlen (Nat.zero_le _) i j'
theorem Lg.py {y : Int} (h : Lg A G k n) (hy : sz y j) : Lk ((gpy G y).map cn) (gpy G y) (k + n * (j + 1)) n := Lk.told (szR.nrm fun x hx => by
    obtain ⟨r, hr, rfl⟩ := List.mem_map.1 hx
    obtain ⟨i, hi, rfl⟩ := mem_getD [] hr
    exact (ev_sz (h.g i).1 hy).mono (Nat.add_le_add_left (Nat.mul_le_mul_right _ (h.g i).2) _)) (Nat.le_trans (gpy_len _ _) h.ll)
theorem Lg.px {x : Int} (h : Lg A G k n) (hx : sz x j) : Lk ((gax G x).map cn) (gax G x) (k + n * (j + 1)) n := h.tu.py hx
theorem Lg.ev {x y : Int} (h : Lg A G k n) (hx : sz x j) (hy : sz y j) : sz (gev G x y) (k + n * (j + 1) + n * (j + 1)) := ev_szn (h.py hy) hx
theorem xgDegrees (v : Value) (h : Lg A G k n) (hk : k ≤ 137438953472 := by decide) (hn : n ≤ 1024 := by decide) :
    Meets Try.prog 18 [v] [(v, W A)] (fun r os fs => os = [] ∧ fs = [] ∧ r = .tuple #[.int .i64 ((gdx G : Nat) - 1 : Int), .int .i64 ((gdy G : Nat) - 1 : Int)]) := by
  have hf := h.gf hk (Nat.le_trans hn (by decide))
  have := gDegrees_meets v A (fun r hr => (hf.row r hr).2) hf.len (fun r hr => (hf.row r hr).1)
  rw [h.val] at this; exact this
theorem xgMul (v w : Value) (h : Lg A G k n) (h' : Lg B H j n') (hk : k + j + 1 ≤ 1073741824 := by decide) (hn : n ≤ 1024 := by decide) (hn' : n' ≤ 1024 := by decide) :
    Meets Try.prog 16 [v, w] [(v, W A), (w, W B)] (fun r os fs => os = [] ∧ fs = [(r, wd (gmu G H))]) := by
  have := gMul_meets v w A B k j (h.gs hn) (h'.gs hn') hk
  rw [gmuE_eq, h.val, h'.val] at this; exact this
theorem xgTurn (v : Value) (h : Lg A G k n) (hk : k ≤ 137438953472 := by decide) (hn : n ≤ 1024 := by decide) :
    Meets Try.prog 28 [v] [(v, W A)] (fun r os fs => os = [] ∧ fs = [(r, wd (gtu G))]) := by
  have := gTurn_meets v A (h.gf hk (by omega))
  rw [h.val] at this; exact this
theorem xgPutX (v w : Value) {x : Bool × List Nat} (h : Lg A G k n) (hx : Lim x.2) (ha : x.2.length ≤ j) (hk : k + 1048577 * (j + 1) ≤ 137438953472 := by decide) (hn : n ≤ 1024 := by decide) :
    Meets Try.prog 26 [v, w] [(v, W A), (w, J x)] (fun r os fs => os = [] ∧ fs = [(r, vd (gax G (jv x)))]) := by
  have := gPutXJ v w A x k j (h.gf (Nat.le_refl _) (by omega)) hx ha hk
  rw [h.val] at this; exact this
theorem Lg.pb (h : Lg A G k n) (h' : Lg B H k n) (hn : 2 * n * n + 1 ≤ 268435456) (hb : pdB k n (2 * n) ≤ 137438953472) :
    PB k n (2 * n) (syX (gtu (ww A)) (gtu (ww B)) (Go.Proofs.Ytfkeohlpcjpkbaa.dy (ww A)) (Go.Proofs.Ytfkeohlpcjpkbaa.dy (ww B))) := by
  have key := fun i j => syX_b (F := gtu (ww A)) (E := gtu (ww B)) (k := k) (l := n) (fun i => by rw [h.val]; exact h.tu.g i) (fun i => by rw [h'.val]; exact h'.tu.g i) (Go.Proofs.Ytfkeohlpcjpkbaa.dy (ww A)) (Go.Proofs.Ytfkeohlpcjpkbaa.dy (ww B)) i j
  exact ⟨fun i j => (key i j).1, fun i j => (key i j).2, hn, hb⟩
theorem Lg.dy' (h : Lg A G k n) : Go.Proofs.Ytfkeohlpcjpkbaa.dy G ≤ n := by
  unfold Go.Proofs.Ytfkeohlpcjpkbaa.dy; rw [gtu_len]; have := h.dy; omega
theorem xgElim (v w : Value) (h : Lg A G k n) (h' : Lg B H k n) (hk : k ≤ 137438953472 := by decide) (hn0 : 0 < n := by decide) (hn : n ≤ 1024 := by decide) (hn2 : 2 * n * n + 1 ≤ 268435456 := by decide) (hb : pdB k n (2 * n) ≤ 137438953472 := by decide) :
    Meets Try.prog 13 [v, w] [(v, W A), (w, W B)] (fun r os fs => os = [] ∧ fs = [(r, vd (gel G H))]) := by
  have d1 : Go.Proofs.Ytfkeohlpcjpkbaa.dy (ww A) ≤ n := by rw [h.val]; exact h.dy'
  have d2 : Go.Proofs.Ytfkeohlpcjpkbaa.dy (ww B) ≤ n := by rw [h'.val]; exact h'.dy'
  have := gEliminate_core v w A B k n (2 * n) (h.gf (Nat.le_refl _) (by omega)) (h'.gf (Nat.le_refl _) (by omega)) hk (h.pb h' hn2 hb) (by omega) (by omega)
  rw [h.val, h'.val] at this; exact this
theorem Lg.el (h : Lg A G k n) (h' : Lg B H k n) (hn : n < 18446744073709551616) : Lk ((gel G H).map cn) (gel G H) (pdk k (2 * n)) (2 * n * n + 1) := by
  have d1 := h.dy'
  have d2 := h'.dy'
  unfold gel
  split
  · exact Lk.told (fun x hx => by simp at hx) (Nat.zero_le _)
  · have key := fun i j => syX_b (k := k) (l := n) h.tu.g h'.tu.g (Go.Proofs.Ytfkeohlpcjpkbaa.dy G) (Go.Proofs.Ytfkeohlpcjpkbaa.dy H) i j
    exact Lk.told ((pdet_sz (fun i j => (key i j).1) (fun i j => (key i j).2) hn).mono (pdk_mono k (by omega))) (Nat.le_trans (pdet_len fun i j => (key i j).2) (Nat.succ_le_succ (Nat.mul_le_mul_right _ (by omega))))
end
end Go.Proofs.Ytfkeohlpcjpkbaa

namespace Go.Proofs.Ytfkeohlpcjpkbaa
open Go.RowKit
instance (l : List Int) : Decidable (Nm l) := inferInstanceAs (Decidable (_ = _))
theorem sz_small (x : Int) (h : x.natAbs < 18446744073709551616) : sz x 1 := by
  unfold sz; simpa using h
theorem small_szR {l : List Int} (h : ∀ x, x ∈ l → x.natAbs < 18446744073709551616) : szR 1 l := fun x hx => by
  have := h x hx
  unfold sz; simpa using this
end Go.Proofs.Ytfkeohlpcjpkbaa

namespace Go.Proofs.Ytfkeohlpcjpkbaa
open Go.RowKit
theorem lit3_L {α : Type} {P : Program} {t e : TypeId} {size bytes : Nat} {os : List Own} {fs : List Fact} {K : Cont} [ht : TSl P t e size] [he : TEl P e size bytes] {x y z' : Value} (f : α → Dat) (z : α) (a b c : α) (hsz : size ≤ 16) (hx : Reads os fs x (f a)) (hy : Reads os fs y (f b)) (hz : Reads os fs z' (f c)) (hc : (f a).cells = size) (hc' : (f b).cells = size) (hc'' : (f c).cells = size)
    (k : ∀ v, K v os ((v, LD size f z [a, b, c]) :: fs)) : BuildSliceK P t 3 [(0, x), (1, y), (2, z')] os fs K := by
  have h1 := buildSlice_fact (P := P) (t := t) (os := os) (fs := fs) (K := fun u os' fs' => ∃ os'' fs'', Seals os' fs' os'' fs'' ∧ K u os'' fs'') (n := 3) [x, y, z'] [f a, f b, f c] rfl rfl (by decide) hsz ⟨hx, hc, hy, hc', hz, hc'', trivial⟩
  refine ⟨Grw.sealed (h1 fun v => ⟨_, _, ?_, k v⟩).out⟩
  exact Seals.knw_cong rfl fun i hi => by
    have : i = 0 ∨ i = 1 ∨ i = 2 := by omega
    rcases this with rfl | rfl | rfl <;> rfl
theorem Lg.lit (G : List (List Int)) {n : Nat} (h : G.length ≤ n) (hr : ∀ r, r ∈ G → r.length ≤ n ∧ ∀ x, x ∈ r → x.natAbs < 18446744073709551616) : Lg (Go.Proofs.Ytfkeohlpcjpkbaa.toW G) G 1 n :=
  Lg.told h fun r hr' => ⟨(hr r hr').1, small_szR (hr r hr').2⟩
theorem gev_lit (G : List (List Int)) (x y : Int) : gev G x y = pev (G.map fun r => pev r y) x := ev_nrm _ _
instance (G : List (List Int)) : Decidable (Gn G) := inferInstanceAs (Decidable (_ ∧ _))
theorem shown_mu : gmu [[0, 1], [1]] [[0, -1], [1]] = [[0, 0, -1], [], [1]] :=
  (gmu_gn _ _).ev_ext (by decide) fun x y => by
    rw [gev_gmu, gev_lit, gev_lit, gev_lit]; simp only [List.map, pev]; grind
theorem shown_el1 : gel [[0, 0, 1], [-1]] [[-2, 1]] = [4, -1] := by decide +kernel
theorem shown_el2 : gel [[0, 1], [1]] [[0, -1], [1]] = [0, 2] := by decide +kernel
theorem shown_ax : gax [[0, 0, -1], [], [1]] 3 = [9, 0, -1] := by decide +kernel
theorem shown_dx : gdx [[0, 0, -1], [], [1]] = 3 := by decide +kernel
theorem shown_dy : gdy [[0, 0, -1], [], [1]] = 3 := by decide +kernel
theorem exactT (v w : Value) (x y : List Int) (h : x = y) :
    Meets Try.prog 14 [v, w] [(v, vd x), (w, vd y)] (fun r os fs => os = [] ∧ fs = [] ∧ r = .bool true) := by
  have := exactAll_meets v w (x.map cn) (y.map cn)
  rw [decide_eq_true (by rw [h])] at this
  exact this
theorem shownG_meets : Meets Try.prog 9 [] [] (fun r os fs => os = [] ∧ fs = [] ∧ r = .bool true) := by
  have k1 := Lg.lit [[0, 1], [1]] (n := 4) (by decide) (by decide)
  have k2 := Lg.lit [[0, -1], [1]] (n := 4) (by decide) (by decide)
  have k3 := Lg.lit [[0, 0, 1], [-1]] (n := 4) (by decide) (by decide)
  have k4 := Lg.lit [[-2, 1]] (n := 4) (by decide) (by decide)
  have k5 := Lg.lit [[0, 0, -1], [], [1]] (n := 4) (by decide) (by decide)
  have c1 := fun v w => xgMul v w k1 k2
  have c2 := fun v w => xgElim v w k3 k4
  have c3 := fun v w => xgElim v w k1 k2
  have c4 := fun v => xgDegrees v k5
  have c5 := fun v w => xgPutX (j := 1) v w (x := cn 3) k5 (Lim_lims _) (sz_small 3 (by decide)).len
  rw [shown_mu] at c1
  rw [shown_el1] at c2
  rw [shown_el2] at c3
  rw [shown_dx, shown_dy] at c4
  rw [show jv (cn 3) = 3 from jv_cn 3, shown_ax] at c5
  refine meets_of_vc Try.func9 (by kernel_rfl) rfl (by kernel_rfl) (Nat.le_of_ble_eq_true rfl) ?_
  refine lit_IL [0, 1] rfl rfl (by decide) fun s1 => ?_
  refine call_fn (grow12_meets s1 [0, 1] (by decide) (by decide)) (Seals.refl _ _) (by repeat (first | exact Sub.nil _ | refine Sub.cons (by repeat (first | exact List.Mem.head _ | apply List.Mem.tail)) ?_)) ?_
  rintro y1 _ _ ⟨rfl, rfl⟩
  refine lit_IL [1] rfl rfl (by decide) fun s2 => ?_
  refine call_fn (grow12_meets s2 [1] (by decide) (by decide)) (Seals.refl _ _) (by repeat (first | exact Sub.nil _ | refine Sub.cons (by repeat (first | exact List.Mem.head _ | apply List.Mem.tail)) ?_)) ?_
  rintro y2 _ _ ⟨rfl, rfl⟩
  refine lit2_L (size := 1) (e := 27) V [] (([0, 1] : List Int).map cn) (([1] : List Int).map cn) (by decide) (Reads.fact (d := vd [0, 1]) (by repeat (first | exact List.Mem.head _ | apply List.Mem.tail))) (Reads.fact (d := vd [1]) (by repeat (first | exact List.Mem.head _ | apply List.Mem.tail))) rfl rfl fun g1 => ?_
  refine lit_IL [0, -1] rfl rfl (by decide) fun s3 => ?_
  refine call_fn (grow12_meets s3 [0, -1] (by decide) (by decide)) (Seals.refl _ _) (by repeat (first | exact Sub.nil _ | refine Sub.cons (by repeat (first | exact List.Mem.head _ | apply List.Mem.tail)) ?_)) ?_
  rintro y3 _ _ ⟨rfl, rfl⟩
  refine lit_IL [1] rfl rfl (by decide) fun s4 => ?_
  refine call_fn (grow12_meets s4 [1] (by decide) (by decide)) (Seals.refl _ _) (by repeat (first | exact Sub.nil _ | refine Sub.cons (by repeat (first | exact List.Mem.head _ | apply List.Mem.tail)) ?_)) ?_
  rintro y4 _ _ ⟨rfl, rfl⟩
  refine lit2_L (size := 1) (e := 27) V [] (([0, -1] : List Int).map cn) (([1] : List Int).map cn) (by decide) (Reads.fact (d := vd [0, -1]) (by repeat (first | exact List.Mem.head _ | apply List.Mem.tail))) (Reads.fact (d := vd [1]) (by repeat (first | exact List.Mem.head _ | apply List.Mem.tail))) rfl rfl fun g2 => ?_
  refine call_fn (c1 g1 g2) (Seals.refl _ _) (by repeat (first | exact Sub.nil _ | refine Sub.cons (by repeat (first | exact List.Mem.head _ | apply List.Mem.tail)) ?_)) ?_
  rintro m _ _ ⟨rfl, rfl⟩
  refine lit_IL [0, 0, 1] rfl rfl (by decide) fun s5 => ?_
  refine call_fn (grow12_meets s5 [0, 0, 1] (by decide) (by decide)) (Seals.refl _ _) (by repeat (first | exact Sub.nil _ | refine Sub.cons (by repeat (first | exact List.Mem.head _ | apply List.Mem.tail)) ?_)) ?_
  rintro y5 _ _ ⟨rfl, rfl⟩
  refine lit_IL [-1] rfl rfl (by decide) fun s6 => ?_
  refine call_fn (grow12_meets s6 [-1] (by decide) (by decide)) (Seals.refl _ _) (by repeat (first | exact Sub.nil _ | refine Sub.cons (by repeat (first | exact List.Mem.head _ | apply List.Mem.tail)) ?_)) ?_
  rintro y6 _ _ ⟨rfl, rfl⟩
  refine lit2_L (size := 1) (e := 27) V [] (([0, 0, 1] : List Int).map cn) (([-1] : List Int).map cn) (by decide) (Reads.fact (d := vd [0, 0, 1]) (by repeat (first | exact List.Mem.head _ | apply List.Mem.tail))) (Reads.fact (d := vd [-1]) (by repeat (first | exact List.Mem.head _ | apply List.Mem.tail))) rfl rfl fun g3 => ?_
  refine lit_IL [-2, 1] rfl rfl (by decide) fun s7 => ?_
  refine call_fn (grow12_meets s7 [-2, 1] (by decide) (by decide)) (Seals.refl _ _) (by repeat (first | exact Sub.nil _ | refine Sub.cons (by repeat (first | exact List.Mem.head _ | apply List.Mem.tail)) ?_)) ?_
  rintro y7 _ _ ⟨rfl, rfl⟩
  refine lit_L (size := 1) (e := 27) V [] (([-2, 1] : List Int).map cn) (by decide) (Reads.fact (d := vd [-2, 1]) (by repeat (first | exact List.Mem.head _ | apply List.Mem.tail))) rfl fun g4 => ?_
  refine call_fn (c2 g3 g4) (Seals.refl _ _) (by repeat (first | exact Sub.nil _ | refine Sub.cons (by repeat (first | exact List.Mem.head _ | apply List.Mem.tail)) ?_)) ?_
  rintro p _ _ ⟨rfl, rfl⟩
  refine call_fn (c4 m) (Seals.refl _ _) (by repeat (first | exact Sub.nil _ | refine Sub.cons (by repeat (first | exact List.Mem.head _ | apply List.Mem.tail)) ?_)) ?_
  rintro _ _ _ ⟨rfl, rfl, rfl⟩
  refine lit_IL [0, 0, -1] rfl rfl (by decide) fun s8 => ?_
  refine call_fn (grow12_meets s8 [0, 0, -1] (by decide) (by decide)) (Seals.refl _ _) (by repeat (first | exact Sub.nil _ | refine Sub.cons (by repeat (first | exact List.Mem.head _ | apply List.Mem.tail)) ?_)) ?_
  rintro y8 _ _ ⟨rfl, rfl⟩
  refine call_fn (grow12_meets (.slice none 0 0) [] (by decide) (by decide)) (Seals.cons (Knw.nil 1 _) (Seals.refl _ _)) (by repeat (first | exact Sub.nil _ | refine Sub.cons (by repeat (first | exact List.Mem.head _ | apply List.Mem.tail)) ?_)) ?_
  rintro y9 _ _ ⟨rfl, rfl⟩
  refine lit_IL [1] rfl rfl (by decide) fun s10 => ?_
  refine call_fn (grow12_meets s10 [1] (by decide) (by decide)) (Seals.refl _ _) (by repeat (first | exact Sub.nil _ | refine Sub.cons (by repeat (first | exact List.Mem.head _ | apply List.Mem.tail)) ?_)) ?_
  rintro y10 _ _ ⟨rfl, rfl⟩
  refine lit3_L (size := 1) (e := 27) V [] (([0, 0, -1] : List Int).map cn) (([] : List Int).map cn) (([1] : List Int).map cn) (by decide) (Reads.fact (d := vd [0, 0, -1]) (by repeat (first | exact List.Mem.head _ | apply List.Mem.tail))) (Reads.fact (d := vd []) (by repeat (first | exact List.Mem.head _ | apply List.Mem.tail))) (Reads.fact (d := vd [1]) (by repeat (first | exact List.Mem.head _ | apply List.Mem.tail))) rfl rfl rfl fun g5 => ?_
  refine call_fn (gsameT m g5 _ _ rfl) (Seals.refl _ _) (by repeat (first | exact Sub.nil _ | refine Sub.cons (by repeat (first | exact List.Mem.head _ | apply List.Mem.tail)) ?_)) ?_
  rintro _ _ _ ⟨rfl, rfl, rfl⟩
  refine cmp_true rfl (by decide) ?_
  refine cmp_true rfl (by decide) ?_
  refine call_fn (rOf_meets 3 (by decide) (by decide)) (Seals.refl _ _) (by repeat (first | exact Sub.nil _ | refine Sub.cons (by repeat (first | exact List.Mem.head _ | apply List.Mem.tail)) ?_)) ?_
  rintro y11 _ _ ⟨rfl, rfl⟩
  refine call_fn (c5 m y11) (Seals.refl _ _) (by repeat (first | exact Sub.nil _ | refine Sub.cons (by repeat (first | exact List.Mem.head _ | apply List.Mem.tail)) ?_)) ?_
  rintro y12 _ _ ⟨rfl, rfl⟩
  refine lit_IL [9, 0, -1] rfl rfl (by decide) fun s13 => ?_
  refine call_fn (grow12_meets s13 [9, 0, -1] (by decide) (by decide)) (Seals.refl _ _) (by repeat (first | exact Sub.nil _ | refine Sub.cons (by repeat (first | exact List.Mem.head _ | apply List.Mem.tail)) ?_)) ?_
  rintro y13 _ _ ⟨rfl, rfl⟩
  refine call_fn (exactT y12 y13 _ _ rfl) (Seals.refl _ _) (by repeat (first | exact Sub.nil _ | refine Sub.cons (by repeat (first | exact List.Mem.head _ | apply List.Mem.tail)) ?_)) ?_
  rintro _ _ _ ⟨rfl, rfl, rfl⟩
  refine call_fn (c3 g1 g2) (Seals.refl _ _) (by repeat (first | exact Sub.nil _ | refine Sub.cons (by repeat (first | exact List.Mem.head _ | apply List.Mem.tail)) ?_)) ?_
  rintro y14 _ _ ⟨rfl, rfl⟩
  refine lit_IL [0, 2] rfl rfl (by decide) fun s15 => ?_
  refine call_fn (grow12_meets s15 [0, 2] (by decide) (by decide)) (Seals.refl _ _) (by repeat (first | exact Sub.nil _ | refine Sub.cons (by repeat (first | exact List.Mem.head _ | apply List.Mem.tail)) ?_)) ?_
  rintro y15 _ _ ⟨rfl, rfl⟩
  refine call_fn (exactT y14 y15 _ _ rfl) (Seals.refl _ _) (by repeat (first | exact Sub.nil _ | refine Sub.cons (by repeat (first | exact List.Mem.head _ | apply List.Mem.tail)) ?_)) ?_
  rintro _ _ _ ⟨rfl, rfl, rfl⟩
  refine lit_IL [4, -1] rfl rfl (by decide) fun s16 => ?_
  refine call_fn (grow12_meets s16 [4, -1] (by decide) (by decide)) (Seals.refl _ _) (by repeat (first | exact Sub.nil _ | refine Sub.cons (by repeat (first | exact List.Mem.head _ | apply List.Mem.tail)) ?_)) ?_
  rintro y16 _ _ ⟨rfl, rfl⟩
  refine call_fn (exactT p y16 _ _ rfl) (Seals.refl _ _) (by repeat (first | exact Sub.nil _ | refine Sub.cons (by repeat (first | exact List.Mem.head _ | apply List.Mem.tail)) ?_)) ?_
  rintro _ _ _ ⟨rfl, rfl, rfl⟩
  exact fin ⟨rfl, rfl, rfl⟩ (Seals.nil _ _)
end Go.Proofs.Ytfkeohlpcjpkbaa

namespace Go.Proofs.Ytfkeohlpcjpkbaa
open Go.ChangeShapes Go.WideShapes Go.ChangeAt Go.RowKit
section
variable {H : Type} {enc : TypeId × Value → H} {w : World} {base : Nat} {spare : Nat → Bool} {held : Bool}
theorem rd_grid {fuel : Nat} {cs : List Value} {x : DataW H × List MemPlace} (h : DataW.trod enc Try.prog w base spare held fuel 23 cs = some x) : ∃ m : List Row, limM m ∧ RdC (fun b => b < w.heap.size) w (W m) cs := by
  obtain ⟨l, h1, h2⟩ := rd_slice (size := 1) V [] (fun r => ∀ y, y ∈ r → Lim y.2) Try.underlying23 (by kernel_rfl) (by decide) (fun n cs x _ h => rd_row h) h
  exact ⟨l, h1, h2⟩
end
end Go.Proofs.Ytfkeohlpcjpkbaa

namespace Go.Proofs.Ytfkeohlpcjpkbaa
open Go.RowKit
end Go.Proofs.Ytfkeohlpcjpkbaa

namespace Go.Proofs.Ytfkeohlpcjpkbaa
open Go.RowKit
theorem exactE (v w : Value) (x y : Int) (h : x = y) : Meets Try.prog 21 [v, w] [(v, zd x), (w, zd y)] (fun r os fs => os = [] ∧ fs = [] ∧ r = .bool true) := by
  have := exactW v w x y
  rw [decide_eq_true h] at this
  exact this
end Go.Proofs.Ytfkeohlpcjpkbaa

namespace Go.Proofs.Ytfkeohlpcjpkbaa
open Go.RowKit
end Go.Proofs.Ytfkeohlpcjpkbaa

namespace Go.Proofs.Ytfkeohlpcjpkbaa
open Go.RowKit
end Go.Proofs.Ytfkeohlpcjpkbaa

namespace Go.Proofs.Ytfkeohlpcjpkbaa
open Go.RowKit
end Go.Proofs.Ytfkeohlpcjpkbaa

namespace Go.Proofs.Ytfkeohlpcjpkbaa
open Go.RowKit
end Go.Proofs.Ytfkeohlpcjpkbaa

namespace Go.Proofs.Ytfkeohlpcjpkbaa
open Go.RowKit
theorem deg_dgM (l : List Int) : deg l = (dg l : Int) - 1 := by
  have h1 := degTo_le l l.length (dg l) (dg_le_len l) fun j h _ => dg_le.1 (Nat.le_refl _) j h
  unfold deg
  rw [h1]
  by_cases h0 : dg l = 0
  · rw [h0]; rfl
  · have h2 := ld_ne (l := l) (by omega)
    unfold ld at h2
    obtain ⟨m, hm⟩ : ∃ m, dg l = m + 1 := ⟨dg l - 1, by omega⟩
    rw [hm] at h2 ⊢
    simp only [degTo, Nat.add_sub_cancel] at h2 ⊢
    rw [if_neg h2]; omega
theorem sylAt_sF (p : List Int) (d i j : Nat) : sylAt p d i j = sF (fun t => p.getD t 0) d i j := by
  unfold sylAt sF
  by_cases h : i ≤ j ∧ j ≤ i + d
  · rw [if_pos h, if_pos (by omega)]
    simp only
    rw [if_neg (by omega)]
    congr 1; omega
  · rw [if_neg h, if_neg (by omega)]
theorem sylRows_len (p : List Int) (n c : Nat) : (sylRows p n c).length = n := by unfold sylRows; simp
theorem sylRows_at {p : List Int} {n c i j : Nat} (hi : i < n) (hj : j < c) : ((sylRows p n c).getD i []).getD j 0 = sylAt p (deg p) i j := by
  unfold sylRows
  simp [List.getD_eq_getElem?_getD, hi, hj]
theorem mres_RS {p q : List Int} {m n : Nat} (hp : dg p = m + 1) (hq : dg q = n + 1) : mres p q = RS m n (fun t => p.getD t 0) (fun t => q.getD t 0) := by
  have dp : deg p = (m : Nat) := by rw [deg_dgM, hp]; omega
  have dq : deg q = (n : Nat) := by rw [deg_dgM, hq]; omega
  unfold mres
  rw [if_neg (by omega)]
  by_cases hb : bare p q
  · have h0 : m = 0 ∧ n = 0 := by
      unfold bare at hb; omega
    obtain ⟨rfl, rfl⟩ := h0
    rw [if_pos hb]
    rfl
  · rw [if_neg hb]
    have hs : syl p q = sylRows p n (m + n) ++ sylRows q m (m + n) := by
      unfold syl
      rw [dp, dq, Int.toNat_natCast, Int.toNat_natCast, show ((m : Int) + (n : Int)).toNat = m + n by omega]
    have hl : (syl p q).length = m + n := by rw [hs, List.length_append, sylRows_len, sylRows_len, Nat.add_comm]
    rw [hl]
    refine det_congr fun i j hi hj => ?_
    unfold mx
    rw [hs]
    by_cases h : i < n
    · have e : (sylRows p n (m + n) ++ sylRows q m (m + n)).getD i [] = (sylRows p n (m + n)).getD i [] := by
        simp only [List.getD_eq_getElem?_getD]
        rw [List.getElem?_append_left (by rw [sylRows_len]; exact h)]
      rw [e, sylRows_at h hj, dp, sylAt_sF, S2_top h]
    · have e : (sylRows p n (m + n) ++ sylRows q m (m + n)).getD i [] = (sylRows q m (m + n)).getD (i - n) [] := by
        simp only [List.getD_eq_getElem?_getD]
        rw [List.getElem?_append_right (by rw [sylRows_len]; omega), sylRows_len]
      rw [e, sylRows_at (by omega) hj, dq, sylAt_sF, S2_low (by omega)]
/-- All that the law says, of what the code reckons. -/
structure ResLaw (l m n : List Int) (a : Int) : Prop where
  turn : 0 < dg l → 0 < dg m → mres m l = (if (dg l - 1) % 2 = 1 ∧ (dg m - 1) % 2 = 1 then - mres l m else mres l m)
  common : ∀ g, 0 < dg l → 0 < dg m → Gc g l m → (mres l m = 0 ↔ 2 ≤ dg g)
  mul : 0 < dg l → 0 < dg m → 0 < dg n → mres (pmul l n) m = mres l m * mres n m
  line : 0 < dg m → mres [-a, 1] m = pev m a
end Go.Proofs.Ytfkeohlpcjpkbaa

namespace Go.Proofs.Ytfkeohlpcjpkbaa
open Go.RowKit
theorem gfirst_meets (v : Value) {p : List Row} {G : List (List Int)} (P : Lg p G 1 4) :
    Meets Try.prog 36 [v] [(v, W p)] (fun r os fs => os = [] ∧ fs = [(r, vd (led G))]) := by
  refine meets_of_vc Try.func36 (by kernel_rfl) rfl (by kernel_rfl) (Nat.le_of_ble_eq_true rfl) ?_
  refine call_fn (xgTurn v P) (Seals.refl _ _) (by repeat (first | exact Sub.nil _ | refine Sub.cons (by repeat (first | exact List.Mem.head _ | apply List.Mem.tail)) ?_)) ?_
  rintro t _ _ ⟨rfl, rfl⟩
  refine len_wd (by repeat (first | exact List.Mem.head _ | apply List.Mem.tail)) ?_
  have hlen : (gtu G).length ≤ 4 := P.tu.ll
  have hdy : dy G ≤ 4 := P.dy'
  refine cmp_split _ rfl (fun h => ?_) (fun h => ?_)
  · have h0 : gtu G = [] := List.length_eq_zero_iff.1 (by omega)
    have : led G = [] := by unfold led; rw [h0]; rfl
    rw [this]
    exact fin ⟨rfl, rfl⟩ (Seals.cons (Knw.nil 2 _) (Seals.nil _ _))
  · refine len_wd (by repeat (first | exact List.Mem.head _ | apply List.Mem.tail)) ?_
    refine ar (n := ((dy G : Nat) : Int)) (by unfold dy; simp only [arZ, Option.some.injEq]; omega) (by first | exact ⟨by omega, by omega⟩ | (simp only [inK]; omega)) ?_
    refine index_wd (by repeat (first | exact List.Mem.head _ | apply List.Mem.tail)) (dy G) rfl (by unfold dy; omega) fun b1 => ?_
    refine load_fact (d := vd (led G)) (by repeat (first | exact List.Mem.head _ | apply List.Mem.tail)) (load_V _) fun y1 => ?_
    exact fin ⟨rfl, rfl⟩ (Seals.sub (by repeat (first | exact Sub.nil _ | refine Sub.cons (by repeat (first | exact List.Mem.head _ | apply List.Mem.tail)) ?_)))
theorem gPoints_meets (u v w : Value) (p q : List Row) (x : Bool × List Nat) (hp : limM p) (hq : limM q) (hx : Lim x.2) :
    Meets Try.prog 8 [u, v, w] [(u, W p), (v, W q), (w, J x)] (fun r os fs => os = [] ∧ fs = [] ∧ r = .bool true) := by
  refine meets_of_vc Try.func8 (by kernel_rfl) rfl (by kernel_rfl) (Nat.le_of_ble_eq_true rfl) ?_
  refine box_fact (Reads.fact (d := J x) (by repeat (first | exact List.Mem.head _ | apply List.Mem.tail))) fun px => ?_
  refine call_fn shownG_meets (Seals.refl _ _) (by repeat (first | exact Sub.nil _ | refine Sub.cons (by repeat (first | exact List.Mem.head _ | apply List.Mem.tail)) ?_)) ?_
  rintro _ _ _ ⟨rfl, rfl, rfl⟩
  refine call_fn (glittle_meets u p) (Seals.refl _ _) (by repeat (first | exact Sub.nil _ | refine Sub.cons (by repeat (first | exact List.Mem.head _ | apply List.Mem.tail)) ?_)) ?_
  rintro _ _ _ ⟨rfl, rfl, rfl⟩
  by_cases sp : small 4 4 1 p
  case neg =>
    rw [decide_eq_false sp]
    exact fin ⟨rfl, rfl, rfl⟩ (Seals.nil _ _)
  rw [decide_eq_true sp]
  refine call_fn (glittle_meets v q) (Seals.refl _ _) (by repeat (first | exact Sub.nil _ | refine Sub.cons (by repeat (first | exact List.Mem.head _ | apply List.Mem.tail)) ?_)) ?_
  rintro _ _ _ ⟨rfl, rfl, rfl⟩
  by_cases sq : small 4 4 1 q
  case neg =>
    rw [decide_eq_false sq]
    exact fin ⟨rfl, rfl, rfl⟩ (Seals.nil _ _)
  rw [decide_eq_true sq]
  refine field_fact (off := 1) (d := J x) (d' := U (x).2) (by repeat (first | exact List.Mem.head _ | apply List.Mem.tail)) (Part.right (Part.refl _)) fun _ => ?_
  refine load_fact (d := U (x).2) (by repeat (first | exact List.Mem.head _ | apply List.Mem.tail)) (load_L _) fun _ => ?_
  refine len_fact (by repeat (first | exact List.Mem.head _ | apply List.Mem.tail)) fun _ => ?_
  refine cmp_split _ rfl (fun hxl => ?_) (fun hxl => ?_)
  · exact fin ⟨rfl, rfl, rfl⟩ (Seals.nil _ _)
  have hxl : (x).2.length ≤ 1 := by omega
  obtain ⟨G, P⟩ : ∃ l, Lg p l 1 4 := ⟨_, Lg.raw sp hp⟩
  obtain ⟨H, Q⟩ : ∃ l, Lg q l 1 4 := ⟨_, Lg.raw sq hq⟩
  have hjx : sz (jv x) 1 := sz_jv hx hxl
  have p1 : Lk ((led G).map cn) (led G) 1 4 := Lk.told (P.tu.g _).1 (P.tu.g _).2
  have p2 : Lk ((led H).map cn) (led H) 1 4 := Lk.told (Q.tu.g _).1 (Q.tu.g _).2
  have v1 := fun t z1 => xValueJ (j := 1) t z1 p1 hx hxl
  have v2 := fun t z1 => xValueJ (j := 1) t z1 p2 hx hxl
  have sA : sz (pev (led G) (jv x)) 9 := (ev_szn p1 hjx).mono (by decide)
  have sB : sz (pev (led H) (jv x)) 9 := (ev_szn p2 hjx).mono (by decide)
  have hgo : pev (led G) (jv x) ≠ 0 → pev (led H) (jv x) ≠ 0 → pev (gel G H) (jv x) = mres (gax G (jv x)) (gax H (jv x)) := fun h1 h2 => by
    have g0 : gtu G ≠ [] := fun e => h1 (by unfold led; rw [e]; rfl)
    have h0 : gtu H ≠ [] := fun e => h2 (by unfold led; rw [e]; rfl)
    rw [gel_RS g0 h0, mres_RS (gax_full g0 h1) (gax_full h0 h2)]
    rfl
  have l1 := P.px hjx
  have l2 := Q.px hjx
  have l3 := P.el Q (by decide)
  have v3 := fun t z1 => xValueJ (j := 1) t z1 l3 hx hxl
  have v4 := fun t z1 (hgo : mres (gax G (jv x)) (gax H (jv x)) = pev (gel G H) (jv x)) => resW t z1 (gax G (jv x)) (gax H (jv x)) 9 _ hgo (l1.sz.mono (by decide)) (l2.sz.mono (by decide)) (Nat.le_trans l1.ll (by decide)) (Nat.le_trans l2.ll (by decide)) (Nat.le_trans (Eb_mono 9 (show _ ≤ 8 from Nat.add_le_add l1.ll l2.ll)) (by simp only [Eb]; omega))
  generalize hA : pev (led G) (jv x) = a at *
  generalize hB : pev (led H) (jv x) = b at *
  refine draw_join (X := Value × Value) (fun z => ([(0, u), (1, v), (5, px), (7, .bool true), (8, z.1), (9, z.2)], [], [(u, W p), (v, W q), (px, .ptr (J x)), (z.1, .ptr (zd a)), (z.2, .ptr (zd b))])) (fun _ => True) ?_ ?_
  ·
    refine draw_ord [0, 1, 2, 3, 4, 5, 6, 7, 8, 9, 10, 11] (by kernel_rfl) ?_
    refine ord_split 1 8 (by kernel_rfl) (by kernel_rfl) (by kernel_rfl) ?_ ?_
    · refine ord_split 1 9 (by kernel_rfl) (by kernel_rfl) (by kernel_rfl) ?_ ?_
      · refine ord_split 3 8 (by kernel_rfl) (by kernel_rfl) (by kernel_rfl) ?_ ?_
        · refine ord_split 3 9 (by kernel_rfl) (by kernel_rfl) (by kernel_rfl) ?_ ?_
          · refine ord_split 5 8 (by kernel_rfl) (by kernel_rfl) (by kernel_rfl) ?_ ?_
            · refine ord_split 5 9 (by kernel_rfl) (by kernel_rfl) (by kernel_rfl) ?_ ?_
              · refine ord_split 7 8 (by kernel_rfl) (by kernel_rfl) (by kernel_rfl) ?_ ?_
                · refine ord_split 7 9 (by kernel_rfl) (by kernel_rfl) (by kernel_rfl) ?_ ?_
                  · refine ord_split 8 9 (by kernel_rfl) (by kernel_rfl) (by kernel_rfl) ?_ ?_
                    · refine ord_go [0, 2, 4, 6, 1, 3, 5, 7, 8, 9, 10, 11] (by kernel_rfl) (by kernel_rfl) ?_
                      refine load_fact (d := J x) (by repeat (first | exact List.Mem.head _ | apply List.Mem.tail)) (load_J _) fun z1 => ?_
                      refine load_fact (d := J x) (by repeat (first | exact List.Mem.head _ | apply List.Mem.tail)) (load_J _) fun z2 => ?_
                      refine call_fn (gfirst_meets u P) (Seals.refl _ _) (by repeat (first | exact Sub.nil _ | refine Sub.cons (by repeat (first | exact List.Mem.head _ | apply List.Mem.tail)) ?_)) ?_
                      rintro f1 _ _ ⟨rfl, rfl⟩
                      refine call_fn (v1 f1 z1) (Seals.refl _ _) (by repeat (first | exact Sub.nil _ | refine Sub.cons (by repeat (first | exact List.Mem.head _ | apply List.Mem.tail)) ?_)) ?_
                      rintro y1 _ _ ⟨rfl, rfl⟩
                      refine call_fn (gfirst_meets v Q) (Seals.refl _ _) (by repeat (first | exact Sub.nil _ | refine Sub.cons (by repeat (first | exact List.Mem.head _ | apply List.Mem.tail)) ?_)) ?_
                      rintro f2 _ _ ⟨rfl, rfl⟩
                      refine call_fn (v2 f2 z2) (Seals.refl _ _) (by repeat (first | exact Sub.nil _ | refine Sub.cons (by repeat (first | exact List.Mem.head _ | apply List.Mem.tail)) ?_)) ?_
                      rintro y2 _ _ ⟨rfl, rfl⟩
                      refine alloc_rule (d := I false []) fun b1 h1 => ?_
                      refine alloc_rule (d := I false []) fun b2 h2 => ?_
                      refine store_box (d := zd a) 1 rfl h1 rfl (by kernel_rfl) (Reads.fact (by repeat (first | exact List.Mem.head _ | apply List.Mem.tail))) ?_
                      refine store_box (d := zd b) 0 rfl h2 rfl (by kernel_rfl) (Reads.fact (by repeat (first | exact List.Mem.head _ | apply List.Mem.tail))) ?_
                      exact again (b1, b2) trivial trivial (by repeat (first | exact trivial | refine ⟨rfl, ?_⟩ | refine ⟨i64_eq (by first | omega | (simp only; omega)), ?_⟩ | refine ⟨u64_eq (by first | omega | (simp only; omega)), ?_⟩)) (Seals.trans (Seals.box (d := zd b) 0 rfl h2 rfl) (Seals.trans (Seals.box (d := zd a) 0 rfl h1 rfl) (Seals.sub (by repeat (first | exact Sub.nil _ | refine Sub.cons (by repeat (first | exact List.Mem.head _ | apply List.Mem.tail)) ?_)))))
                    · refine ord_go [0, 2, 4, 6, 1, 3, 5, 7, 9, 8, 10, 11] (by kernel_rfl) (by kernel_rfl) ?_
                      refine load_fact (d := J x) (by repeat (first | exact List.Mem.head _ | apply List.Mem.tail)) (load_J _) fun z1 => ?_
                      refine load_fact (d := J x) (by repeat (first | exact List.Mem.head _ | apply List.Mem.tail)) (load_J _) fun z2 => ?_
                      refine call_fn (gfirst_meets u P) (Seals.refl _ _) (by repeat (first | exact Sub.nil _ | refine Sub.cons (by repeat (first | exact List.Mem.head _ | apply List.Mem.tail)) ?_)) ?_
                      rintro f1 _ _ ⟨rfl, rfl⟩
                      refine call_fn (v1 f1 z1) (Seals.refl _ _) (by repeat (first | exact Sub.nil _ | refine Sub.cons (by repeat (first | exact List.Mem.head _ | apply List.Mem.tail)) ?_)) ?_
                      rintro y1 _ _ ⟨rfl, rfl⟩
                      refine call_fn (gfirst_meets v Q) (Seals.refl _ _) (by repeat (first | exact Sub.nil _ | refine Sub.cons (by repeat (first | exact List.Mem.head _ | apply List.Mem.tail)) ?_)) ?_
                      rintro f2 _ _ ⟨rfl, rfl⟩
                      refine call_fn (v2 f2 z2) (Seals.refl _ _) (by repeat (first | exact Sub.nil _ | refine Sub.cons (by repeat (first | exact List.Mem.head _ | apply List.Mem.tail)) ?_)) ?_
                      rintro y2 _ _ ⟨rfl, rfl⟩
                      refine alloc_rule (d := I false []) fun b2 h2 => ?_
                      refine alloc_rule (d := I false []) fun b1 h1 => ?_
                      refine store_box (d := zd a) 0 rfl h1 rfl (by kernel_rfl) (Reads.fact (by repeat (first | exact List.Mem.head _ | apply List.Mem.tail))) ?_
                      refine store_box (d := zd b) 1 rfl h2 rfl (by kernel_rfl) (Reads.fact (by repeat (first | exact List.Mem.head _ | apply List.Mem.tail))) ?_
                      exact again (b1, b2) trivial trivial (by repeat (first | exact trivial | refine ⟨rfl, ?_⟩ | refine ⟨i64_eq (by first | omega | (simp only; omega)), ?_⟩ | refine ⟨u64_eq (by first | omega | (simp only; omega)), ?_⟩)) (Seals.trans (Seals.box (d := zd a) 0 rfl h1 rfl) (Seals.trans (Seals.box (d := zd b) 0 rfl h2 rfl) (Seals.sub (by repeat (first | exact Sub.nil _ | refine Sub.cons (by repeat (first | exact List.Mem.head _ | apply List.Mem.tail)) ?_)))))
                  · refine ord_go [0, 2, 4, 6, 1, 3, 5, 9, 7, 8, 10, 11] (by kernel_rfl) (by kernel_rfl) ?_
                    refine load_fact (d := J x) (by repeat (first | exact List.Mem.head _ | apply List.Mem.tail)) (load_J _) fun z1 => ?_
                    refine load_fact (d := J x) (by repeat (first | exact List.Mem.head _ | apply List.Mem.tail)) (load_J _) fun z2 => ?_
                    refine call_fn (gfirst_meets u P) (Seals.refl _ _) (by repeat (first | exact Sub.nil _ | refine Sub.cons (by repeat (first | exact List.Mem.head _ | apply List.Mem.tail)) ?_)) ?_
                    rintro f1 _ _ ⟨rfl, rfl⟩
                    refine call_fn (v1 f1 z1) (Seals.refl _ _) (by repeat (first | exact Sub.nil _ | refine Sub.cons (by repeat (first | exact List.Mem.head _ | apply List.Mem.tail)) ?_)) ?_
                    rintro y1 _ _ ⟨rfl, rfl⟩
                    refine call_fn (gfirst_meets v Q) (Seals.refl _ _) (by repeat (first | exact Sub.nil _ | refine Sub.cons (by repeat (first | exact List.Mem.head _ | apply List.Mem.tail)) ?_)) ?_
                    rintro f2 _ _ ⟨rfl, rfl⟩
                    refine alloc_rule (d := I false []) fun b2 h2 => ?_
                    refine call_fn (v2 f2 z2) (Seals.refl _ _) (by repeat (first | exact Sub.nil _ | refine Sub.cons (by repeat (first | exact List.Mem.head _ | apply List.Mem.tail)) ?_)) ?_
                    rintro y2 _ _ ⟨rfl, rfl⟩
                    refine alloc_rule (d := I false []) fun b1 h1 => ?_
                    refine store_box (d := zd a) 0 rfl h1 rfl (by kernel_rfl) (Reads.fact (by repeat (first | exact List.Mem.head _ | apply List.Mem.tail))) ?_
                    refine store_box (d := zd b) 1 rfl h2 rfl (by kernel_rfl) (Reads.fact (by repeat (first | exact List.Mem.head _ | apply List.Mem.tail))) ?_
                    exact again (b1, b2) trivial trivial (by repeat (first | exact trivial | refine ⟨rfl, ?_⟩ | refine ⟨i64_eq (by first | omega | (simp only; omega)), ?_⟩ | refine ⟨u64_eq (by first | omega | (simp only; omega)), ?_⟩)) (Seals.trans (Seals.box (d := zd a) 0 rfl h1 rfl) (Seals.trans (Seals.box (d := zd b) 0 rfl h2 rfl) (Seals.sub (by repeat (first | exact Sub.nil _ | refine Sub.cons (by repeat (first | exact List.Mem.head _ | apply List.Mem.tail)) ?_)))))
                · refine ord_split 7 9 (by kernel_rfl) (by kernel_rfl) (by kernel_rfl) ?_ ?_
                  · refine ord_go [0, 2, 4, 6, 1, 3, 5, 8, 7, 9, 10, 11] (by kernel_rfl) (by kernel_rfl) ?_
                    refine load_fact (d := J x) (by repeat (first | exact List.Mem.head _ | apply List.Mem.tail)) (load_J _) fun z1 => ?_
                    refine load_fact (d := J x) (by repeat (first | exact List.Mem.head _ | apply List.Mem.tail)) (load_J _) fun z2 => ?_
                    refine call_fn (gfirst_meets u P) (Seals.refl _ _) (by repeat (first | exact Sub.nil _ | refine Sub.cons (by repeat (first | exact List.Mem.head _ | apply List.Mem.tail)) ?_)) ?_
                    rintro f1 _ _ ⟨rfl, rfl⟩
                    refine call_fn (v1 f1 z1) (Seals.refl _ _) (by repeat (first | exact Sub.nil _ | refine Sub.cons (by repeat (first | exact List.Mem.head _ | apply List.Mem.tail)) ?_)) ?_
                    rintro y1 _ _ ⟨rfl, rfl⟩
                    refine call_fn (gfirst_meets v Q) (Seals.refl _ _) (by repeat (first | exact Sub.nil _ | refine Sub.cons (by repeat (first | exact List.Mem.head _ | apply List.Mem.tail)) ?_)) ?_
                    rintro f2 _ _ ⟨rfl, rfl⟩
                    refine alloc_rule (d := I false []) fun b1 h1 => ?_
                    refine call_fn (v2 f2 z2) (Seals.refl _ _) (by repeat (first | exact Sub.nil _ | refine Sub.cons (by repeat (first | exact List.Mem.head _ | apply List.Mem.tail)) ?_)) ?_
                    rintro y2 _ _ ⟨rfl, rfl⟩
                    refine alloc_rule (d := I false []) fun b2 h2 => ?_
                    refine store_box (d := zd a) 1 rfl h1 rfl (by kernel_rfl) (Reads.fact (by repeat (first | exact List.Mem.head _ | apply List.Mem.tail))) ?_
                    refine store_box (d := zd b) 0 rfl h2 rfl (by kernel_rfl) (Reads.fact (by repeat (first | exact List.Mem.head _ | apply List.Mem.tail))) ?_
                    exact again (b1, b2) trivial trivial (by repeat (first | exact trivial | refine ⟨rfl, ?_⟩ | refine ⟨i64_eq (by first | omega | (simp only; omega)), ?_⟩ | refine ⟨u64_eq (by first | omega | (simp only; omega)), ?_⟩)) (Seals.trans (Seals.box (d := zd b) 0 rfl h2 rfl) (Seals.trans (Seals.box (d := zd a) 0 rfl h1 rfl) (Seals.sub (by repeat (first | exact Sub.nil _ | refine Sub.cons (by repeat (first | exact List.Mem.head _ | apply List.Mem.tail)) ?_)))))
                  · refine ord_split 8 9 (by kernel_rfl) (by kernel_rfl) (by kernel_rfl) ?_ ?_
                    · refine ord_go [0, 2, 4, 6, 1, 3, 5, 8, 9, 7, 10, 11] (by kernel_rfl) (by kernel_rfl) ?_
                      refine load_fact (d := J x) (by repeat (first | exact List.Mem.head _ | apply List.Mem.tail)) (load_J _) fun z1 => ?_
                      refine load_fact (d := J x) (by repeat (first | exact List.Mem.head _ | apply List.Mem.tail)) (load_J _) fun z2 => ?_
                      refine call_fn (gfirst_meets u P) (Seals.refl _ _) (by repeat (first | exact Sub.nil _ | refine Sub.cons (by repeat (first | exact List.Mem.head _ | apply List.Mem.tail)) ?_)) ?_
                      rintro f1 _ _ ⟨rfl, rfl⟩
                      refine call_fn (v1 f1 z1) (Seals.refl _ _) (by repeat (first | exact Sub.nil _ | refine Sub.cons (by repeat (first | exact List.Mem.head _ | apply List.Mem.tail)) ?_)) ?_
                      rintro y1 _ _ ⟨rfl, rfl⟩
                      refine call_fn (gfirst_meets v Q) (Seals.refl _ _) (by repeat (first | exact Sub.nil _ | refine Sub.cons (by repeat (first | exact List.Mem.head _ | apply List.Mem.tail)) ?_)) ?_
                      rintro f2 _ _ ⟨rfl, rfl⟩
                      refine alloc_rule (d := I false []) fun b1 h1 => ?_
                      refine alloc_rule (d := I false []) fun b2 h2 => ?_
                      refine call_fn (v2 f2 z2) (Seals.refl _ _) (by repeat (first | exact Sub.nil _ | refine Sub.cons (by repeat (first | exact List.Mem.head _ | apply List.Mem.tail)) ?_)) ?_
                      rintro y2 _ _ ⟨rfl, rfl⟩
                      refine store_box (d := zd a) 1 rfl h1 rfl (by kernel_rfl) (Reads.fact (by repeat (first | exact List.Mem.head _ | apply List.Mem.tail))) ?_
                      refine store_box (d := zd b) 0 rfl h2 rfl (by kernel_rfl) (Reads.fact (by repeat (first | exact List.Mem.head _ | apply List.Mem.tail))) ?_
                      exact again (b1, b2) trivial trivial (by repeat (first | exact trivial | refine ⟨rfl, ?_⟩ | refine ⟨i64_eq (by first | omega | (simp only; omega)), ?_⟩ | refine ⟨u64_eq (by first | omega | (simp only; omega)), ?_⟩)) (Seals.trans (Seals.box (d := zd b) 0 rfl h2 rfl) (Seals.trans (Seals.box (d := zd a) 0 rfl h1 rfl) (Seals.sub (by repeat (first | exact Sub.nil _ | refine Sub.cons (by repeat (first | exact List.Mem.head _ | apply List.Mem.tail)) ?_)))))
                    · refine ord_go [0, 2, 4, 6, 1, 3, 5, 9, 8, 7, 10, 11] (by kernel_rfl) (by kernel_rfl) ?_
                      refine load_fact (d := J x) (by repeat (first | exact List.Mem.head _ | apply List.Mem.tail)) (load_J _) fun z1 => ?_
                      refine load_fact (d := J x) (by repeat (first | exact List.Mem.head _ | apply List.Mem.tail)) (load_J _) fun z2 => ?_
                      refine call_fn (gfirst_meets u P) (Seals.refl _ _) (by repeat (first | exact Sub.nil _ | refine Sub.cons (by repeat (first | exact List.Mem.head _ | apply List.Mem.tail)) ?_)) ?_
                      rintro f1 _ _ ⟨rfl, rfl⟩
                      refine call_fn (v1 f1 z1) (Seals.refl _ _) (by repeat (first | exact Sub.nil _ | refine Sub.cons (by repeat (first | exact List.Mem.head _ | apply List.Mem.tail)) ?_)) ?_
                      rintro y1 _ _ ⟨rfl, rfl⟩
                      refine call_fn (gfirst_meets v Q) (Seals.refl _ _) (by repeat (first | exact Sub.nil _ | refine Sub.cons (by repeat (first | exact List.Mem.head _ | apply List.Mem.tail)) ?_)) ?_
                      rintro f2 _ _ ⟨rfl, rfl⟩
                      refine alloc_rule (d := I false []) fun b2 h2 => ?_
                      refine alloc_rule (d := I false []) fun b1 h1 => ?_
                      refine call_fn (v2 f2 z2) (Seals.refl _ _) (by repeat (first | exact Sub.nil _ | refine Sub.cons (by repeat (first | exact List.Mem.head _ | apply List.Mem.tail)) ?_)) ?_
                      rintro y2 _ _ ⟨rfl, rfl⟩
                      refine store_box (d := zd a) 0 rfl h1 rfl (by kernel_rfl) (Reads.fact (by repeat (first | exact List.Mem.head _ | apply List.Mem.tail))) ?_
                      refine store_box (d := zd b) 1 rfl h2 rfl (by kernel_rfl) (Reads.fact (by repeat (first | exact List.Mem.head _ | apply List.Mem.tail))) ?_
                      exact again (b1, b2) trivial trivial (by repeat (first | exact trivial | refine ⟨rfl, ?_⟩ | refine ⟨i64_eq (by first | omega | (simp only; omega)), ?_⟩ | refine ⟨u64_eq (by first | omega | (simp only; omega)), ?_⟩)) (Seals.trans (Seals.box (d := zd a) 0 rfl h1 rfl) (Seals.trans (Seals.box (d := zd b) 0 rfl h2 rfl) (Seals.sub (by repeat (first | exact Sub.nil _ | refine Sub.cons (by repeat (first | exact List.Mem.head _ | apply List.Mem.tail)) ?_)))))
              · refine ord_split 7 8 (by kernel_rfl) (by kernel_rfl) (by kernel_rfl) ?_ ?_
                · refine ord_go [0, 2, 4, 6, 1, 3, 9, 5, 7, 8, 10, 11] (by kernel_rfl) (by kernel_rfl) ?_
                  refine load_fact (d := J x) (by repeat (first | exact List.Mem.head _ | apply List.Mem.tail)) (load_J _) fun z1 => ?_
                  refine load_fact (d := J x) (by repeat (first | exact List.Mem.head _ | apply List.Mem.tail)) (load_J _) fun z2 => ?_
                  refine call_fn (gfirst_meets u P) (Seals.refl _ _) (by repeat (first | exact Sub.nil _ | refine Sub.cons (by repeat (first | exact List.Mem.head _ | apply List.Mem.tail)) ?_)) ?_
                  rintro f1 _ _ ⟨rfl, rfl⟩
                  refine call_fn (v1 f1 z1) (Seals.refl _ _) (by repeat (first | exact Sub.nil _ | refine Sub.cons (by repeat (first | exact List.Mem.head _ | apply List.Mem.tail)) ?_)) ?_
                  rintro y1 _ _ ⟨rfl, rfl⟩
                  refine alloc_rule (d := I false []) fun b2 h2 => ?_
                  refine call_fn (gfirst_meets v Q) (Seals.refl _ _) (by repeat (first | exact Sub.nil _ | refine Sub.cons (by repeat (first | exact List.Mem.head _ | apply List.Mem.tail)) ?_)) ?_
                  rintro f2 _ _ ⟨rfl, rfl⟩
                  refine call_fn (v2 f2 z2) (Seals.refl _ _) (by repeat (first | exact Sub.nil _ | refine Sub.cons (by repeat (first | exact List.Mem.head _ | apply List.Mem.tail)) ?_)) ?_
                  rintro y2 _ _ ⟨rfl, rfl⟩
                  refine alloc_rule (d := I false []) fun b1 h1 => ?_
                  refine store_box (d := zd a) 0 rfl h1 rfl (by kernel_rfl) (Reads.fact (by repeat (first | exact List.Mem.head _ | apply List.Mem.tail))) ?_
                  refine store_box (d := zd b) 1 rfl h2 rfl (by kernel_rfl) (Reads.fact (by repeat (first | exact List.Mem.head _ | apply List.Mem.tail))) ?_
                  exact again (b1, b2) trivial trivial (by repeat (first | exact trivial | refine ⟨rfl, ?_⟩ | refine ⟨i64_eq (by first | omega | (simp only; omega)), ?_⟩ | refine ⟨u64_eq (by first | omega | (simp only; omega)), ?_⟩)) (Seals.trans (Seals.box (d := zd a) 0 rfl h1 rfl) (Seals.trans (Seals.box (d := zd b) 0 rfl h2 rfl) (Seals.sub (by repeat (first | exact Sub.nil _ | refine Sub.cons (by repeat (first | exact List.Mem.head _ | apply List.Mem.tail)) ?_)))))
                · refine ord_go [0, 2, 4, 6, 1, 3, 9, 5, 8, 7, 10, 11] (by kernel_rfl) (by kernel_rfl) ?_
                  refine load_fact (d := J x) (by repeat (first | exact List.Mem.head _ | apply List.Mem.tail)) (load_J _) fun z1 => ?_
                  refine load_fact (d := J x) (by repeat (first | exact List.Mem.head _ | apply List.Mem.tail)) (load_J _) fun z2 => ?_
                  refine call_fn (gfirst_meets u P) (Seals.refl _ _) (by repeat (first | exact Sub.nil _ | refine Sub.cons (by repeat (first | exact List.Mem.head _ | apply List.Mem.tail)) ?_)) ?_
                  rintro f1 _ _ ⟨rfl, rfl⟩
                  refine call_fn (v1 f1 z1) (Seals.refl _ _) (by repeat (first | exact Sub.nil _ | refine Sub.cons (by repeat (first | exact List.Mem.head _ | apply List.Mem.tail)) ?_)) ?_
                  rintro y1 _ _ ⟨rfl, rfl⟩
                  refine alloc_rule (d := I false []) fun b2 h2 => ?_
                  refine call_fn (gfirst_meets v Q) (Seals.refl _ _) (by repeat (first | exact Sub.nil _ | refine Sub.cons (by repeat (first | exact List.Mem.head _ | apply List.Mem.tail)) ?_)) ?_
                  rintro f2 _ _ ⟨rfl, rfl⟩
                  refine alloc_rule (d := I false []) fun b1 h1 => ?_
                  refine call_fn (v2 f2 z2) (Seals.refl _ _) (by repeat (first | exact Sub.nil _ | refine Sub.cons (by repeat (first | exact List.Mem.head _ | apply List.Mem.tail)) ?_)) ?_
                  rintro y2 _ _ ⟨rfl, rfl⟩
                  refine store_box (d := zd a) 0 rfl h1 rfl (by kernel_rfl) (Reads.fact (by repeat (first | exact List.Mem.head _ | apply List.Mem.tail))) ?_
                  refine store_box (d := zd b) 1 rfl h2 rfl (by kernel_rfl) (Reads.fact (by repeat (first | exact List.Mem.head _ | apply List.Mem.tail))) ?_
                  exact again (b1, b2) trivial trivial (by repeat (first | exact trivial | refine ⟨rfl, ?_⟩ | refine ⟨i64_eq (by first | omega | (simp only; omega)), ?_⟩ | refine ⟨u64_eq (by first | omega | (simp only; omega)), ?_⟩)) (Seals.trans (Seals.box (d := zd a) 0 rfl h1 rfl) (Seals.trans (Seals.box (d := zd b) 0 rfl h2 rfl) (Seals.sub (by repeat (first | exact Sub.nil _ | refine Sub.cons (by repeat (first | exact List.Mem.head _ | apply List.Mem.tail)) ?_)))))
            · refine ord_split 5 9 (by kernel_rfl) (by kernel_rfl) (by kernel_rfl) ?_ ?_
              · refine ord_split 7 9 (by kernel_rfl) (by kernel_rfl) (by kernel_rfl) ?_ ?_
                · refine ord_go [0, 2, 4, 6, 1, 3, 8, 5, 7, 9, 10, 11] (by kernel_rfl) (by kernel_rfl) ?_
                  refine load_fact (d := J x) (by repeat (first | exact List.Mem.head _ | apply List.Mem.tail)) (load_J _) fun z1 => ?_
                  refine load_fact (d := J x) (by repeat (first | exact List.Mem.head _ | apply List.Mem.tail)) (load_J _) fun z2 => ?_
                  refine call_fn (gfirst_meets u P) (Seals.refl _ _) (by repeat (first | exact Sub.nil _ | refine Sub.cons (by repeat (first | exact List.Mem.head _ | apply List.Mem.tail)) ?_)) ?_
                  rintro f1 _ _ ⟨rfl, rfl⟩
                  refine call_fn (v1 f1 z1) (Seals.refl _ _) (by repeat (first | exact Sub.nil _ | refine Sub.cons (by repeat (first | exact List.Mem.head _ | apply List.Mem.tail)) ?_)) ?_
                  rintro y1 _ _ ⟨rfl, rfl⟩
                  refine alloc_rule (d := I false []) fun b1 h1 => ?_
                  refine call_fn (gfirst_meets v Q) (Seals.refl _ _) (by repeat (first | exact Sub.nil _ | refine Sub.cons (by repeat (first | exact List.Mem.head _ | apply List.Mem.tail)) ?_)) ?_
                  rintro f2 _ _ ⟨rfl, rfl⟩
                  refine call_fn (v2 f2 z2) (Seals.refl _ _) (by repeat (first | exact Sub.nil _ | refine Sub.cons (by repeat (first | exact List.Mem.head _ | apply List.Mem.tail)) ?_)) ?_
                  rintro y2 _ _ ⟨rfl, rfl⟩
                  refine alloc_rule (d := I false []) fun b2 h2 => ?_
                  refine store_box (d := zd a) 1 rfl h1 rfl (by kernel_rfl) (Reads.fact (by repeat (first | exact List.Mem.head _ | apply List.Mem.tail))) ?_
                  refine store_box (d := zd b) 0 rfl h2 rfl (by kernel_rfl) (Reads.fact (by repeat (first | exact List.Mem.head _ | apply List.Mem.tail))) ?_
                  exact again (b1, b2) trivial trivial (by repeat (first | exact trivial | refine ⟨rfl, ?_⟩ | refine ⟨i64_eq (by first | omega | (simp only; omega)), ?_⟩ | refine ⟨u64_eq (by first | omega | (simp only; omega)), ?_⟩)) (Seals.trans (Seals.box (d := zd b) 0 rfl h2 rfl) (Seals.trans (Seals.box (d := zd a) 0 rfl h1 rfl) (Seals.sub (by repeat (first | exact Sub.nil _ | refine Sub.cons (by repeat (first | exact List.Mem.head _ | apply List.Mem.tail)) ?_)))))
                · refine ord_go [0, 2, 4, 6, 1, 3, 8, 5, 9, 7, 10, 11] (by kernel_rfl) (by kernel_rfl) ?_
                  refine load_fact (d := J x) (by repeat (first | exact List.Mem.head _ | apply List.Mem.tail)) (load_J _) fun z1 => ?_
                  refine load_fact (d := J x) (by repeat (first | exact List.Mem.head _ | apply List.Mem.tail)) (load_J _) fun z2 => ?_
                  refine call_fn (gfirst_meets u P) (Seals.refl _ _) (by repeat (first | exact Sub.nil _ | refine Sub.cons (by repeat (first | exact List.Mem.head _ | apply List.Mem.tail)) ?_)) ?_
                  rintro f1 _ _ ⟨rfl, rfl⟩
                  refine call_fn (v1 f1 z1) (Seals.refl _ _) (by repeat (first | exact Sub.nil _ | refine Sub.cons (by repeat (first | exact List.Mem.head _ | apply List.Mem.tail)) ?_)) ?_
                  rintro y1 _ _ ⟨rfl, rfl⟩
                  refine alloc_rule (d := I false []) fun b1 h1 => ?_
                  refine call_fn (gfirst_meets v Q) (Seals.refl _ _) (by repeat (first | exact Sub.nil _ | refine Sub.cons (by repeat (first | exact List.Mem.head _ | apply List.Mem.tail)) ?_)) ?_
                  rintro f2 _ _ ⟨rfl, rfl⟩
                  refine alloc_rule (d := I false []) fun b2 h2 => ?_
                  refine call_fn (v2 f2 z2) (Seals.refl _ _) (by repeat (first | exact Sub.nil _ | refine Sub.cons (by repeat (first | exact List.Mem.head _ | apply List.Mem.tail)) ?_)) ?_
                  rintro y2 _ _ ⟨rfl, rfl⟩
                  refine store_box (d := zd a) 1 rfl h1 rfl (by kernel_rfl) (Reads.fact (by repeat (first | exact List.Mem.head _ | apply List.Mem.tail))) ?_
                  refine store_box (d := zd b) 0 rfl h2 rfl (by kernel_rfl) (Reads.fact (by repeat (first | exact List.Mem.head _ | apply List.Mem.tail))) ?_
                  exact again (b1, b2) trivial trivial (by repeat (first | exact trivial | refine ⟨rfl, ?_⟩ | refine ⟨i64_eq (by first | omega | (simp only; omega)), ?_⟩ | refine ⟨u64_eq (by first | omega | (simp only; omega)), ?_⟩)) (Seals.trans (Seals.box (d := zd b) 0 rfl h2 rfl) (Seals.trans (Seals.box (d := zd a) 0 rfl h1 rfl) (Seals.sub (by repeat (first | exact Sub.nil _ | refine Sub.cons (by repeat (first | exact List.Mem.head _ | apply List.Mem.tail)) ?_)))))
              · refine ord_split 8 9 (by kernel_rfl) (by kernel_rfl) (by kernel_rfl) ?_ ?_
                · refine ord_go [0, 2, 4, 6, 1, 3, 8, 9, 5, 7, 10, 11] (by kernel_rfl) (by kernel_rfl) ?_
                  refine load_fact (d := J x) (by repeat (first | exact List.Mem.head _ | apply List.Mem.tail)) (load_J _) fun z1 => ?_
                  refine load_fact (d := J x) (by repeat (first | exact List.Mem.head _ | apply List.Mem.tail)) (load_J _) fun z2 => ?_
                  refine call_fn (gfirst_meets u P) (Seals.refl _ _) (by repeat (first | exact Sub.nil _ | refine Sub.cons (by repeat (first | exact List.Mem.head _ | apply List.Mem.tail)) ?_)) ?_
                  rintro f1 _ _ ⟨rfl, rfl⟩
                  refine call_fn (v1 f1 z1) (Seals.refl _ _) (by repeat (first | exact Sub.nil _ | refine Sub.cons (by repeat (first | exact List.Mem.head _ | apply List.Mem.tail)) ?_)) ?_
                  rintro y1 _ _ ⟨rfl, rfl⟩
                  refine alloc_rule (d := I false []) fun b1 h1 => ?_
                  refine alloc_rule (d := I false []) fun b2 h2 => ?_
                  refine call_fn (gfirst_meets v Q) (Seals.refl _ _) (by repeat (first | exact Sub.nil _ | refine Sub.cons (by repeat (first | exact List.Mem.head _ | apply List.Mem.tail)) ?_)) ?_
                  rintro f2 _ _ ⟨rfl, rfl⟩
                  refine call_fn (v2 f2 z2) (Seals.refl _ _) (by repeat (first | exact Sub.nil _ | refine Sub.cons (by repeat (first | exact List.Mem.head _ | apply List.Mem.tail)) ?_)) ?_
                  rintro y2 _ _ ⟨rfl, rfl⟩
                  refine store_box (d := zd a) 1 rfl h1 rfl (by kernel_rfl) (Reads.fact (by repeat (first | exact List.Mem.head _ | apply List.Mem.tail))) ?_
                  refine store_box (d := zd b) 0 rfl h2 rfl (by kernel_rfl) (Reads.fact (by repeat (first | exact List.Mem.head _ | apply List.Mem.tail))) ?_
                  exact again (b1, b2) trivial trivial (by repeat (first | exact trivial | refine ⟨rfl, ?_⟩ | refine ⟨i64_eq (by first | omega | (simp only; omega)), ?_⟩ | refine ⟨u64_eq (by first | omega | (simp only; omega)), ?_⟩)) (Seals.trans (Seals.box (d := zd b) 0 rfl h2 rfl) (Seals.trans (Seals.box (d := zd a) 0 rfl h1 rfl) (Seals.sub (by repeat (first | exact Sub.nil _ | refine Sub.cons (by repeat (first | exact List.Mem.head _ | apply List.Mem.tail)) ?_)))))
                · refine ord_go [0, 2, 4, 6, 1, 3, 9, 8, 5, 7, 10, 11] (by kernel_rfl) (by kernel_rfl) ?_
                  refine load_fact (d := J x) (by repeat (first | exact List.Mem.head _ | apply List.Mem.tail)) (load_J _) fun z1 => ?_
                  refine load_fact (d := J x) (by repeat (first | exact List.Mem.head _ | apply List.Mem.tail)) (load_J _) fun z2 => ?_
                  refine call_fn (gfirst_meets u P) (Seals.refl _ _) (by repeat (first | exact Sub.nil _ | refine Sub.cons (by repeat (first | exact List.Mem.head _ | apply List.Mem.tail)) ?_)) ?_
                  rintro f1 _ _ ⟨rfl, rfl⟩
                  refine call_fn (v1 f1 z1) (Seals.refl _ _) (by repeat (first | exact Sub.nil _ | refine Sub.cons (by repeat (first | exact List.Mem.head _ | apply List.Mem.tail)) ?_)) ?_
                  rintro y1 _ _ ⟨rfl, rfl⟩
                  refine alloc_rule (d := I false []) fun b2 h2 => ?_
                  refine alloc_rule (d := I false []) fun b1 h1 => ?_
                  refine call_fn (gfirst_meets v Q) (Seals.refl _ _) (by repeat (first | exact Sub.nil _ | refine Sub.cons (by repeat (first | exact List.Mem.head _ | apply List.Mem.tail)) ?_)) ?_
                  rintro f2 _ _ ⟨rfl, rfl⟩
                  refine call_fn (v2 f2 z2) (Seals.refl _ _) (by repeat (first | exact Sub.nil _ | refine Sub.cons (by repeat (first | exact List.Mem.head _ | apply List.Mem.tail)) ?_)) ?_
                  rintro y2 _ _ ⟨rfl, rfl⟩
                  refine store_box (d := zd a) 0 rfl h1 rfl (by kernel_rfl) (Reads.fact (by repeat (first | exact List.Mem.head _ | apply List.Mem.tail))) ?_
                  refine store_box (d := zd b) 1 rfl h2 rfl (by kernel_rfl) (Reads.fact (by repeat (first | exact List.Mem.head _ | apply List.Mem.tail))) ?_
                  exact again (b1, b2) trivial trivial (by repeat (first | exact trivial | refine ⟨rfl, ?_⟩ | refine ⟨i64_eq (by first | omega | (simp only; omega)), ?_⟩ | refine ⟨u64_eq (by first | omega | (simp only; omega)), ?_⟩)) (Seals.trans (Seals.box (d := zd a) 0 rfl h1 rfl) (Seals.trans (Seals.box (d := zd b) 0 rfl h2 rfl) (Seals.sub (by repeat (first | exact Sub.nil _ | refine Sub.cons (by repeat (first | exact List.Mem.head _ | apply List.Mem.tail)) ?_)))))
          · refine ord_split 5 8 (by kernel_rfl) (by kernel_rfl) (by kernel_rfl) ?_ ?_
            · refine ord_split 7 8 (by kernel_rfl) (by kernel_rfl) (by kernel_rfl) ?_ ?_
              · refine ord_go [0, 2, 4, 6, 1, 9, 3, 5, 7, 8, 10, 11] (by kernel_rfl) (by kernel_rfl) ?_
                refine load_fact (d := J x) (by repeat (first | exact List.Mem.head _ | apply List.Mem.tail)) (load_J _) fun z1 => ?_
                refine load_fact (d := J x) (by repeat (first | exact List.Mem.head _ | apply List.Mem.tail)) (load_J _) fun z2 => ?_
                refine call_fn (gfirst_meets u P) (Seals.refl _ _) (by repeat (first | exact Sub.nil _ | refine Sub.cons (by repeat (first | exact List.Mem.head _ | apply List.Mem.tail)) ?_)) ?_
                rintro f1 _ _ ⟨rfl, rfl⟩
                refine alloc_rule (d := I false []) fun b2 h2 => ?_
                refine call_fn (v1 f1 z1) (Seals.refl _ _) (by repeat (first | exact Sub.nil _ | refine Sub.cons (by repeat (first | exact List.Mem.head _ | apply List.Mem.tail)) ?_)) ?_
                rintro y1 _ _ ⟨rfl, rfl⟩
                refine call_fn (gfirst_meets v Q) (Seals.refl _ _) (by repeat (first | exact Sub.nil _ | refine Sub.cons (by repeat (first | exact List.Mem.head _ | apply List.Mem.tail)) ?_)) ?_
                rintro f2 _ _ ⟨rfl, rfl⟩
                refine call_fn (v2 f2 z2) (Seals.refl _ _) (by repeat (first | exact Sub.nil _ | refine Sub.cons (by repeat (first | exact List.Mem.head _ | apply List.Mem.tail)) ?_)) ?_
                rintro y2 _ _ ⟨rfl, rfl⟩
                refine alloc_rule (d := I false []) fun b1 h1 => ?_
                refine store_box (d := zd a) 0 rfl h1 rfl (by kernel_rfl) (Reads.fact (by repeat (first | exact List.Mem.head _ | apply List.Mem.tail))) ?_
                refine store_box (d := zd b) 1 rfl h2 rfl (by kernel_rfl) (Reads.fact (by repeat (first | exact List.Mem.head _ | apply List.Mem.tail))) ?_
                exact again (b1, b2) trivial trivial (by repeat (first | exact trivial | refine ⟨rfl, ?_⟩ | refine ⟨i64_eq (by first | omega | (simp only; omega)), ?_⟩ | refine ⟨u64_eq (by first | omega | (simp only; omega)), ?_⟩)) (Seals.trans (Seals.box (d := zd a) 0 rfl h1 rfl) (Seals.trans (Seals.box (d := zd b) 0 rfl h2 rfl) (Seals.sub (by repeat (first | exact Sub.nil _ | refine Sub.cons (by repeat (first | exact List.Mem.head _ | apply List.Mem.tail)) ?_)))))
              · refine ord_go [0, 2, 4, 6, 1, 9, 3, 5, 8, 7, 10, 11] (by kernel_rfl) (by kernel_rfl) ?_
                refine load_fact (d := J x) (by repeat (first | exact List.Mem.head _ | apply List.Mem.tail)) (load_J _) fun z1 => ?_
                refine load_fact (d := J x) (by repeat (first | exact List.Mem.head _ | apply List.Mem.tail)) (load_J _) fun z2 => ?_
                refine call_fn (gfirst_meets u P) (Seals.refl _ _) (by repeat (first | exact Sub.nil _ | refine Sub.cons (by repeat (first | exact List.Mem.head _ | apply List.Mem.tail)) ?_)) ?_
                rintro f1 _ _ ⟨rfl, rfl⟩
                refine alloc_rule (d := I false []) fun b2 h2 => ?_
                refine call_fn (v1 f1 z1) (Seals.refl _ _) (by repeat (first | exact Sub.nil _ | refine Sub.cons (by repeat (first | exact List.Mem.head _ | apply List.Mem.tail)) ?_)) ?_
                rintro y1 _ _ ⟨rfl, rfl⟩
                refine call_fn (gfirst_meets v Q) (Seals.refl _ _) (by repeat (first | exact Sub.nil _ | refine Sub.cons (by repeat (first | exact List.Mem.head _ | apply List.Mem.tail)) ?_)) ?_
                rintro f2 _ _ ⟨rfl, rfl⟩
                refine alloc_rule (d := I false []) fun b1 h1 => ?_
                refine call_fn (v2 f2 z2) (Seals.refl _ _) (by repeat (first | exact Sub.nil _ | refine Sub.cons (by repeat (first | exact List.Mem.head _ | apply List.Mem.tail)) ?_)) ?_
                rintro y2 _ _ ⟨rfl, rfl⟩
                refine store_box (d := zd a) 0 rfl h1 rfl (by kernel_rfl) (Reads.fact (by repeat (first | exact List.Mem.head _ | apply List.Mem.tail))) ?_
                refine store_box (d := zd b) 1 rfl h2 rfl (by kernel_rfl) (Reads.fact (by repeat (first | exact List.Mem.head _ | apply List.Mem.tail))) ?_
                exact again (b1, b2) trivial trivial (by repeat (first | exact trivial | refine ⟨rfl, ?_⟩ | refine ⟨i64_eq (by first | omega | (simp only; omega)), ?_⟩ | refine ⟨u64_eq (by first | omega | (simp only; omega)), ?_⟩)) (Seals.trans (Seals.box (d := zd a) 0 rfl h1 rfl) (Seals.trans (Seals.box (d := zd b) 0 rfl h2 rfl) (Seals.sub (by repeat (first | exact Sub.nil _ | refine Sub.cons (by repeat (first | exact List.Mem.head _ | apply List.Mem.tail)) ?_)))))
            · refine ord_go [0, 2, 4, 6, 1, 9, 3, 8, 5, 7, 10, 11] (by kernel_rfl) (by kernel_rfl) ?_
              refine load_fact (d := J x) (by repeat (first | exact List.Mem.head _ | apply List.Mem.tail)) (load_J _) fun z1 => ?_
              refine load_fact (d := J x) (by repeat (first | exact List.Mem.head _ | apply List.Mem.tail)) (load_J _) fun z2 => ?_
              refine call_fn (gfirst_meets u P) (Seals.refl _ _) (by repeat (first | exact Sub.nil _ | refine Sub.cons (by repeat (first | exact List.Mem.head _ | apply List.Mem.tail)) ?_)) ?_
              rintro f1 _ _ ⟨rfl, rfl⟩
              refine alloc_rule (d := I false []) fun b2 h2 => ?_
              refine call_fn (v1 f1 z1) (Seals.refl _ _) (by repeat (first | exact Sub.nil _ | refine Sub.cons (by repeat (first | exact List.Mem.head _ | apply List.Mem.tail)) ?_)) ?_
              rintro y1 _ _ ⟨rfl, rfl⟩
              refine alloc_rule (d := I false []) fun b1 h1 => ?_
              refine call_fn (gfirst_meets v Q) (Seals.refl _ _) (by repeat (first | exact Sub.nil _ | refine Sub.cons (by repeat (first | exact List.Mem.head _ | apply List.Mem.tail)) ?_)) ?_
              rintro f2 _ _ ⟨rfl, rfl⟩
              refine call_fn (v2 f2 z2) (Seals.refl _ _) (by repeat (first | exact Sub.nil _ | refine Sub.cons (by repeat (first | exact List.Mem.head _ | apply List.Mem.tail)) ?_)) ?_
              rintro y2 _ _ ⟨rfl, rfl⟩
              refine store_box (d := zd a) 0 rfl h1 rfl (by kernel_rfl) (Reads.fact (by repeat (first | exact List.Mem.head _ | apply List.Mem.tail))) ?_
              refine store_box (d := zd b) 1 rfl h2 rfl (by kernel_rfl) (Reads.fact (by repeat (first | exact List.Mem.head _ | apply List.Mem.tail))) ?_
              exact again (b1, b2) trivial trivial (by repeat (first | exact trivial | refine ⟨rfl, ?_⟩ | refine ⟨i64_eq (by first | omega | (simp only; omega)), ?_⟩ | refine ⟨u64_eq (by first | omega | (simp only; omega)), ?_⟩)) (Seals.trans (Seals.box (d := zd a) 0 rfl h1 rfl) (Seals.trans (Seals.box (d := zd b) 0 rfl h2 rfl) (Seals.sub (by repeat (first | exact Sub.nil _ | refine Sub.cons (by repeat (first | exact List.Mem.head _ | apply List.Mem.tail)) ?_)))))
        · refine ord_split 3 9 (by kernel_rfl) (by kernel_rfl) (by kernel_rfl) ?_ ?_
          · refine ord_split 5 9 (by kernel_rfl) (by kernel_rfl) (by kernel_rfl) ?_ ?_
            · refine ord_split 7 9 (by kernel_rfl) (by kernel_rfl) (by kernel_rfl) ?_ ?_
              · refine ord_go [0, 2, 4, 6, 1, 8, 3, 5, 7, 9, 10, 11] (by kernel_rfl) (by kernel_rfl) ?_
                refine load_fact (d := J x) (by repeat (first | exact List.Mem.head _ | apply List.Mem.tail)) (load_J _) fun z1 => ?_
                refine load_fact (d := J x) (by repeat (first | exact List.Mem.head _ | apply List.Mem.tail)) (load_J _) fun z2 => ?_
                refine call_fn (gfirst_meets u P) (Seals.refl _ _) (by repeat (first | exact Sub.nil _ | refine Sub.cons (by repeat (first | exact List.Mem.head _ | apply List.Mem.tail)) ?_)) ?_
                rintro f1 _ _ ⟨rfl, rfl⟩
                refine alloc_rule (d := I false []) fun b1 h1 => ?_
                refine call_fn (v1 f1 z1) (Seals.refl _ _) (by repeat (first | exact Sub.nil _ | refine Sub.cons (by repeat (first | exact List.Mem.head _ | apply List.Mem.tail)) ?_)) ?_
                rintro y1 _ _ ⟨rfl, rfl⟩
                refine call_fn (gfirst_meets v Q) (Seals.refl _ _) (by repeat (first | exact Sub.nil _ | refine Sub.cons (by repeat (first | exact List.Mem.head _ | apply List.Mem.tail)) ?_)) ?_
                rintro f2 _ _ ⟨rfl, rfl⟩
                refine call_fn (v2 f2 z2) (Seals.refl _ _) (by repeat (first | exact Sub.nil _ | refine Sub.cons (by repeat (first | exact List.Mem.head _ | apply List.Mem.tail)) ?_)) ?_
                rintro y2 _ _ ⟨rfl, rfl⟩
                refine alloc_rule (d := I false []) fun b2 h2 => ?_
                refine store_box (d := zd a) 1 rfl h1 rfl (by kernel_rfl) (Reads.fact (by repeat (first | exact List.Mem.head _ | apply List.Mem.tail))) ?_
                refine store_box (d := zd b) 0 rfl h2 rfl (by kernel_rfl) (Reads.fact (by repeat (first | exact List.Mem.head _ | apply List.Mem.tail))) ?_
                exact again (b1, b2) trivial trivial (by repeat (first | exact trivial | refine ⟨rfl, ?_⟩ | refine ⟨i64_eq (by first | omega | (simp only; omega)), ?_⟩ | refine ⟨u64_eq (by first | omega | (simp only; omega)), ?_⟩)) (Seals.trans (Seals.box (d := zd b) 0 rfl h2 rfl) (Seals.trans (Seals.box (d := zd a) 0 rfl h1 rfl) (Seals.sub (by repeat (first | exact Sub.nil _ | refine Sub.cons (by repeat (first | exact List.Mem.head _ | apply List.Mem.tail)) ?_)))))
              · refine ord_go [0, 2, 4, 6, 1, 8, 3, 5, 9, 7, 10, 11] (by kernel_rfl) (by kernel_rfl) ?_
                refine load_fact (d := J x) (by repeat (first | exact List.Mem.head _ | apply List.Mem.tail)) (load_J _) fun z1 => ?_
                refine load_fact (d := J x) (by repeat (first | exact List.Mem.head _ | apply List.Mem.tail)) (load_J _) fun z2 => ?_
                refine call_fn (gfirst_meets u P) (Seals.refl _ _) (by repeat (first | exact Sub.nil _ | refine Sub.cons (by repeat (first | exact List.Mem.head _ | apply List.Mem.tail)) ?_)) ?_
                rintro f1 _ _ ⟨rfl, rfl⟩
                refine alloc_rule (d := I false []) fun b1 h1 => ?_
                refine call_fn (v1 f1 z1) (Seals.refl _ _) (by repeat (first | exact Sub.nil _ | refine Sub.cons (by repeat (first | exact List.Mem.head _ | apply List.Mem.tail)) ?_)) ?_
                rintro y1 _ _ ⟨rfl, rfl⟩
                refine call_fn (gfirst_meets v Q) (Seals.refl _ _) (by repeat (first | exact Sub.nil _ | refine Sub.cons (by repeat (first | exact List.Mem.head _ | apply List.Mem.tail)) ?_)) ?_
                rintro f2 _ _ ⟨rfl, rfl⟩
                refine alloc_rule (d := I false []) fun b2 h2 => ?_
                refine call_fn (v2 f2 z2) (Seals.refl _ _) (by repeat (first | exact Sub.nil _ | refine Sub.cons (by repeat (first | exact List.Mem.head _ | apply List.Mem.tail)) ?_)) ?_
                rintro y2 _ _ ⟨rfl, rfl⟩
                refine store_box (d := zd a) 1 rfl h1 rfl (by kernel_rfl) (Reads.fact (by repeat (first | exact List.Mem.head _ | apply List.Mem.tail))) ?_
                refine store_box (d := zd b) 0 rfl h2 rfl (by kernel_rfl) (Reads.fact (by repeat (first | exact List.Mem.head _ | apply List.Mem.tail))) ?_
                exact again (b1, b2) trivial trivial (by repeat (first | exact trivial | refine ⟨rfl, ?_⟩ | refine ⟨i64_eq (by first | omega | (simp only; omega)), ?_⟩ | refine ⟨u64_eq (by first | omega | (simp only; omega)), ?_⟩)) (Seals.trans (Seals.box (d := zd b) 0 rfl h2 rfl) (Seals.trans (Seals.box (d := zd a) 0 rfl h1 rfl) (Seals.sub (by repeat (first | exact Sub.nil _ | refine Sub.cons (by repeat (first | exact List.Mem.head _ | apply List.Mem.tail)) ?_)))))
            · refine ord_go [0, 2, 4, 6, 1, 8, 3, 9, 5, 7, 10, 11] (by kernel_rfl) (by kernel_rfl) ?_
              refine load_fact (d := J x) (by repeat (first | exact List.Mem.head _ | apply List.Mem.tail)) (load_J _) fun z1 => ?_
              refine load_fact (d := J x) (by repeat (first | exact List.Mem.head _ | apply List.Mem.tail)) (load_J _) fun z2 => ?_
              refine call_fn (gfirst_meets u P) (Seals.refl _ _) (by repeat (first | exact Sub.nil _ | refine Sub.cons (by repeat (first | exact List.Mem.head _ | apply List.Mem.tail)) ?_)) ?_
              rintro f1 _ _ ⟨rfl, rfl⟩
              refine alloc_rule (d := I false []) fun b1 h1 => ?_
              refine call_fn (v1 f1 z1) (Seals.refl _ _) (by repeat (first | exact Sub.nil _ | refine Sub.cons (by repeat (first | exact List.Mem.head _ | apply List.Mem.tail)) ?_)) ?_
              rintro y1 _ _ ⟨rfl, rfl⟩
              refine alloc_rule (d := I false []) fun b2 h2 => ?_
              refine call_fn (gfirst_meets v Q) (Seals.refl _ _) (by repeat (first | exact Sub.nil _ | refine Sub.cons (by repeat (first | exact List.Mem.head _ | apply List.Mem.tail)) ?_)) ?_
              rintro f2 _ _ ⟨rfl, rfl⟩
              refine call_fn (v2 f2 z2) (Seals.refl _ _) (by repeat (first | exact Sub.nil _ | refine Sub.cons (by repeat (first | exact List.Mem.head _ | apply List.Mem.tail)) ?_)) ?_
              rintro y2 _ _ ⟨rfl, rfl⟩
              refine store_box (d := zd a) 1 rfl h1 rfl (by kernel_rfl) (Reads.fact (by repeat (first | exact List.Mem.head _ | apply List.Mem.tail))) ?_
              refine store_box (d := zd b) 0 rfl h2 rfl (by kernel_rfl) (Reads.fact (by repeat (first | exact List.Mem.head _ | apply List.Mem.tail))) ?_
              exact again (b1, b2) trivial trivial (by repeat (first | exact trivial | refine ⟨rfl, ?_⟩ | refine ⟨i64_eq (by first | omega | (simp only; omega)), ?_⟩ | refine ⟨u64_eq (by first | omega | (simp only; omega)), ?_⟩)) (Seals.trans (Seals.box (d := zd b) 0 rfl h2 rfl) (Seals.trans (Seals.box (d := zd a) 0 rfl h1 rfl) (Seals.sub (by repeat (first | exact Sub.nil _ | refine Sub.cons (by repeat (first | exact List.Mem.head _ | apply List.Mem.tail)) ?_)))))
          · refine ord_split 8 9 (by kernel_rfl) (by kernel_rfl) (by kernel_rfl) ?_ ?_
            · refine ord_go [0, 2, 4, 6, 1, 8, 9, 3, 5, 7, 10, 11] (by kernel_rfl) (by kernel_rfl) ?_
              refine load_fact (d := J x) (by repeat (first | exact List.Mem.head _ | apply List.Mem.tail)) (load_J _) fun z1 => ?_
              refine load_fact (d := J x) (by repeat (first | exact List.Mem.head _ | apply List.Mem.tail)) (load_J _) fun z2 => ?_
              refine call_fn (gfirst_meets u P) (Seals.refl _ _) (by repeat (first | exact Sub.nil _ | refine Sub.cons (by repeat (first | exact List.Mem.head _ | apply List.Mem.tail)) ?_)) ?_
              rintro f1 _ _ ⟨rfl, rfl⟩
              refine alloc_rule (d := I false []) fun b1 h1 => ?_
              refine alloc_rule (d := I false []) fun b2 h2 => ?_
              refine call_fn (v1 f1 z1) (Seals.refl _ _) (by repeat (first | exact Sub.nil _ | refine Sub.cons (by repeat (first | exact List.Mem.head _ | apply List.Mem.tail)) ?_)) ?_
              rintro y1 _ _ ⟨rfl, rfl⟩
              refine call_fn (gfirst_meets v Q) (Seals.refl _ _) (by repeat (first | exact Sub.nil _ | refine Sub.cons (by repeat (first | exact List.Mem.head _ | apply List.Mem.tail)) ?_)) ?_
              rintro f2 _ _ ⟨rfl, rfl⟩
              refine call_fn (v2 f2 z2) (Seals.refl _ _) (by repeat (first | exact Sub.nil _ | refine Sub.cons (by repeat (first | exact List.Mem.head _ | apply List.Mem.tail)) ?_)) ?_
              rintro y2 _ _ ⟨rfl, rfl⟩
              refine store_box (d := zd a) 1 rfl h1 rfl (by kernel_rfl) (Reads.fact (by repeat (first | exact List.Mem.head _ | apply List.Mem.tail))) ?_
              refine store_box (d := zd b) 0 rfl h2 rfl (by kernel_rfl) (Reads.fact (by repeat (first | exact List.Mem.head _ | apply List.Mem.tail))) ?_
              exact again (b1, b2) trivial trivial (by repeat (first | exact trivial | refine ⟨rfl, ?_⟩ | refine ⟨i64_eq (by first | omega | (simp only; omega)), ?_⟩ | refine ⟨u64_eq (by first | omega | (simp only; omega)), ?_⟩)) (Seals.trans (Seals.box (d := zd b) 0 rfl h2 rfl) (Seals.trans (Seals.box (d := zd a) 0 rfl h1 rfl) (Seals.sub (by repeat (first | exact Sub.nil _ | refine Sub.cons (by repeat (first | exact List.Mem.head _ | apply List.Mem.tail)) ?_)))))
            · refine ord_go [0, 2, 4, 6, 1, 9, 8, 3, 5, 7, 10, 11] (by kernel_rfl) (by kernel_rfl) ?_
              refine load_fact (d := J x) (by repeat (first | exact List.Mem.head _ | apply List.Mem.tail)) (load_J _) fun z1 => ?_
              refine load_fact (d := J x) (by repeat (first | exact List.Mem.head _ | apply List.Mem.tail)) (load_J _) fun z2 => ?_
              refine call_fn (gfirst_meets u P) (Seals.refl _ _) (by repeat (first | exact Sub.nil _ | refine Sub.cons (by repeat (first | exact List.Mem.head _ | apply List.Mem.tail)) ?_)) ?_
              rintro f1 _ _ ⟨rfl, rfl⟩
              refine alloc_rule (d := I false []) fun b2 h2 => ?_
              refine alloc_rule (d := I false []) fun b1 h1 => ?_
              refine call_fn (v1 f1 z1) (Seals.refl _ _) (by repeat (first | exact Sub.nil _ | refine Sub.cons (by repeat (first | exact List.Mem.head _ | apply List.Mem.tail)) ?_)) ?_
              rintro y1 _ _ ⟨rfl, rfl⟩
              refine call_fn (gfirst_meets v Q) (Seals.refl _ _) (by repeat (first | exact Sub.nil _ | refine Sub.cons (by repeat (first | exact List.Mem.head _ | apply List.Mem.tail)) ?_)) ?_
              rintro f2 _ _ ⟨rfl, rfl⟩
              refine call_fn (v2 f2 z2) (Seals.refl _ _) (by repeat (first | exact Sub.nil _ | refine Sub.cons (by repeat (first | exact List.Mem.head _ | apply List.Mem.tail)) ?_)) ?_
              rintro y2 _ _ ⟨rfl, rfl⟩
              refine store_box (d := zd a) 0 rfl h1 rfl (by kernel_rfl) (Reads.fact (by repeat (first | exact List.Mem.head _ | apply List.Mem.tail))) ?_
              refine store_box (d := zd b) 1 rfl h2 rfl (by kernel_rfl) (Reads.fact (by repeat (first | exact List.Mem.head _ | apply List.Mem.tail))) ?_
              exact again (b1, b2) trivial trivial (by repeat (first | exact trivial | refine ⟨rfl, ?_⟩ | refine ⟨i64_eq (by first | omega | (simp only; omega)), ?_⟩ | refine ⟨u64_eq (by first | omega | (simp only; omega)), ?_⟩)) (Seals.trans (Seals.box (d := zd a) 0 rfl h1 rfl) (Seals.trans (Seals.box (d := zd b) 0 rfl h2 rfl) (Seals.sub (by repeat (first | exact Sub.nil _ | refine Sub.cons (by repeat (first | exact List.Mem.head _ | apply List.Mem.tail)) ?_)))))
      · refine ord_split 3 8 (by kernel_rfl) (by kernel_rfl) (by kernel_rfl) ?_ ?_
        · refine ord_split 5 8 (by kernel_rfl) (by kernel_rfl) (by kernel_rfl) ?_ ?_
          · refine ord_split 7 8 (by kernel_rfl) (by kernel_rfl) (by kernel_rfl) ?_ ?_
            · refine ord_go [0, 2, 4, 6, 9, 1, 3, 5, 7, 8, 10, 11] (by kernel_rfl) (by kernel_rfl) ?_
              refine load_fact (d := J x) (by repeat (first | exact List.Mem.head _ | apply List.Mem.tail)) (load_J _) fun z1 => ?_
              refine load_fact (d := J x) (by repeat (first | exact List.Mem.head _ | apply List.Mem.tail)) (load_J _) fun z2 => ?_
              refine alloc_rule (d := I false []) fun b2 h2 => ?_
              refine call_fn (gfirst_meets u P) (Seals.refl _ _) (by repeat (first | exact Sub.nil _ | refine Sub.cons (by repeat (first | exact List.Mem.head _ | apply List.Mem.tail)) ?_)) ?_
              rintro f1 _ _ ⟨rfl, rfl⟩
              refine call_fn (v1 f1 z1) (Seals.refl _ _) (by repeat (first | exact Sub.nil _ | refine Sub.cons (by repeat (first | exact List.Mem.head _ | apply List.Mem.tail)) ?_)) ?_
              rintro y1 _ _ ⟨rfl, rfl⟩
              refine call_fn (gfirst_meets v Q) (Seals.refl _ _) (by repeat (first | exact Sub.nil _ | refine Sub.cons (by repeat (first | exact List.Mem.head _ | apply List.Mem.tail)) ?_)) ?_
              rintro f2 _ _ ⟨rfl, rfl⟩
              refine call_fn (v2 f2 z2) (Seals.refl _ _) (by repeat (first | exact Sub.nil _ | refine Sub.cons (by repeat (first | exact List.Mem.head _ | apply List.Mem.tail)) ?_)) ?_
              rintro y2 _ _ ⟨rfl, rfl⟩
              refine alloc_rule (d := I false []) fun b1 h1 => ?_
              refine store_box (d := zd a) 0 rfl h1 rfl (by kernel_rfl) (Reads.fact (by repeat (first | exact List.Mem.head _ | apply List.Mem.tail))) ?_
              refine store_box (d := zd b) 1 rfl h2 rfl (by kernel_rfl) (Reads.fact (by repeat (first | exact List.Mem.head _ | apply List.Mem.tail))) ?_
              exact again (b1, b2) trivial trivial (by repeat (first | exact trivial | refine ⟨rfl, ?_⟩ | refine ⟨i64_eq (by first | omega | (simp only; omega)), ?_⟩ | refine ⟨u64_eq (by first | omega | (simp only; omega)), ?_⟩)) (Seals.trans (Seals.box (d := zd a) 0 rfl h1 rfl) (Seals.trans (Seals.box (d := zd b) 0 rfl h2 rfl) (Seals.sub (by repeat (first | exact Sub.nil _ | refine Sub.cons (by repeat (first | exact List.Mem.head _ | apply List.Mem.tail)) ?_)))))
            · refine ord_go [0, 2, 4, 6, 9, 1, 3, 5, 8, 7, 10, 11] (by kernel_rfl) (by kernel_rfl) ?_
              refine load_fact (d := J x) (by repeat (first | exact List.Mem.head _ | apply List.Mem.tail)) (load_J _) fun z1 => ?_
              refine load_fact (d := J x) (by repeat (first | exact List.Mem.head _ | apply List.Mem.tail)) (load_J _) fun z2 => ?_
              refine alloc_rule (d := I false []) fun b2 h2 => ?_
              refine call_fn (gfirst_meets u P) (Seals.refl _ _) (by repeat (first | exact Sub.nil _ | refine Sub.cons (by repeat (first | exact List.Mem.head _ | apply List.Mem.tail)) ?_)) ?_
              rintro f1 _ _ ⟨rfl, rfl⟩
              refine call_fn (v1 f1 z1) (Seals.refl _ _) (by repeat (first | exact Sub.nil _ | refine Sub.cons (by repeat (first | exact List.Mem.head _ | apply List.Mem.tail)) ?_)) ?_
              rintro y1 _ _ ⟨rfl, rfl⟩
              refine call_fn (gfirst_meets v Q) (Seals.refl _ _) (by repeat (first | exact Sub.nil _ | refine Sub.cons (by repeat (first | exact List.Mem.head _ | apply List.Mem.tail)) ?_)) ?_
              rintro f2 _ _ ⟨rfl, rfl⟩
              refine alloc_rule (d := I false []) fun b1 h1 => ?_
              refine call_fn (v2 f2 z2) (Seals.refl _ _) (by repeat (first | exact Sub.nil _ | refine Sub.cons (by repeat (first | exact List.Mem.head _ | apply List.Mem.tail)) ?_)) ?_
              rintro y2 _ _ ⟨rfl, rfl⟩
              refine store_box (d := zd a) 0 rfl h1 rfl (by kernel_rfl) (Reads.fact (by repeat (first | exact List.Mem.head _ | apply List.Mem.tail))) ?_
              refine store_box (d := zd b) 1 rfl h2 rfl (by kernel_rfl) (Reads.fact (by repeat (first | exact List.Mem.head _ | apply List.Mem.tail))) ?_
              exact again (b1, b2) trivial trivial (by repeat (first | exact trivial | refine ⟨rfl, ?_⟩ | refine ⟨i64_eq (by first | omega | (simp only; omega)), ?_⟩ | refine ⟨u64_eq (by first | omega | (simp only; omega)), ?_⟩)) (Seals.trans (Seals.box (d := zd a) 0 rfl h1 rfl) (Seals.trans (Seals.box (d := zd b) 0 rfl h2 rfl) (Seals.sub (by repeat (first | exact Sub.nil _ | refine Sub.cons (by repeat (first | exact List.Mem.head _ | apply List.Mem.tail)) ?_)))))
          · refine ord_go [0, 2, 4, 6, 9, 1, 3, 8, 5, 7, 10, 11] (by kernel_rfl) (by kernel_rfl) ?_
            refine load_fact (d := J x) (by repeat (first | exact List.Mem.head _ | apply List.Mem.tail)) (load_J _) fun z1 => ?_
            refine load_fact (d := J x) (by repeat (first | exact List.Mem.head _ | apply List.Mem.tail)) (load_J _) fun z2 => ?_
            refine alloc_rule (d := I false []) fun b2 h2 => ?_
            refine call_fn (gfirst_meets u P) (Seals.refl _ _) (by repeat (first | exact Sub.nil _ | refine Sub.cons (by repeat (first | exact List.Mem.head _ | apply List.Mem.tail)) ?_)) ?_
            rintro f1 _ _ ⟨rfl, rfl⟩
            refine call_fn (v1 f1 z1) (Seals.refl _ _) (by repeat (first | exact Sub.nil _ | refine Sub.cons (by repeat (first | exact List.Mem.head _ | apply List.Mem.tail)) ?_)) ?_
            rintro y1 _ _ ⟨rfl, rfl⟩
            refine alloc_rule (d := I false []) fun b1 h1 => ?_
            refine call_fn (gfirst_meets v Q) (Seals.refl _ _) (by repeat (first | exact Sub.nil _ | refine Sub.cons (by repeat (first | exact List.Mem.head _ | apply List.Mem.tail)) ?_)) ?_
            rintro f2 _ _ ⟨rfl, rfl⟩
            refine call_fn (v2 f2 z2) (Seals.refl _ _) (by repeat (first | exact Sub.nil _ | refine Sub.cons (by repeat (first | exact List.Mem.head _ | apply List.Mem.tail)) ?_)) ?_
            rintro y2 _ _ ⟨rfl, rfl⟩
            refine store_box (d := zd a) 0 rfl h1 rfl (by kernel_rfl) (Reads.fact (by repeat (first | exact List.Mem.head _ | apply List.Mem.tail))) ?_
            refine store_box (d := zd b) 1 rfl h2 rfl (by kernel_rfl) (Reads.fact (by repeat (first | exact List.Mem.head _ | apply List.Mem.tail))) ?_
            exact again (b1, b2) trivial trivial (by repeat (first | exact trivial | refine ⟨rfl, ?_⟩ | refine ⟨i64_eq (by first | omega | (simp only; omega)), ?_⟩ | refine ⟨u64_eq (by first | omega | (simp only; omega)), ?_⟩)) (Seals.trans (Seals.box (d := zd a) 0 rfl h1 rfl) (Seals.trans (Seals.box (d := zd b) 0 rfl h2 rfl) (Seals.sub (by repeat (first | exact Sub.nil _ | refine Sub.cons (by repeat (first | exact List.Mem.head _ | apply List.Mem.tail)) ?_)))))
        · refine ord_go [0, 2, 4, 6, 9, 1, 8, 3, 5, 7, 10, 11] (by kernel_rfl) (by kernel_rfl) ?_
          refine load_fact (d := J x) (by repeat (first | exact List.Mem.head _ | apply List.Mem.tail)) (load_J _) fun z1 => ?_
          refine load_fact (d := J x) (by repeat (first | exact List.Mem.head _ | apply List.Mem.tail)) (load_J _) fun z2 => ?_
          refine alloc_rule (d := I false []) fun b2 h2 => ?_
          refine call_fn (gfirst_meets u P) (Seals.refl _ _) (by repeat (first | exact Sub.nil _ | refine Sub.cons (by repeat (first | exact List.Mem.head _ | apply List.Mem.tail)) ?_)) ?_
          rintro f1 _ _ ⟨rfl, rfl⟩
          refine alloc_rule (d := I false []) fun b1 h1 => ?_
          refine call_fn (v1 f1 z1) (Seals.refl _ _) (by repeat (first | exact Sub.nil _ | refine Sub.cons (by repeat (first | exact List.Mem.head _ | apply List.Mem.tail)) ?_)) ?_
          rintro y1 _ _ ⟨rfl, rfl⟩
          refine call_fn (gfirst_meets v Q) (Seals.refl _ _) (by repeat (first | exact Sub.nil _ | refine Sub.cons (by repeat (first | exact List.Mem.head _ | apply List.Mem.tail)) ?_)) ?_
          rintro f2 _ _ ⟨rfl, rfl⟩
          refine call_fn (v2 f2 z2) (Seals.refl _ _) (by repeat (first | exact Sub.nil _ | refine Sub.cons (by repeat (first | exact List.Mem.head _ | apply List.Mem.tail)) ?_)) ?_
          rintro y2 _ _ ⟨rfl, rfl⟩
          refine store_box (d := zd a) 0 rfl h1 rfl (by kernel_rfl) (Reads.fact (by repeat (first | exact List.Mem.head _ | apply List.Mem.tail))) ?_
          refine store_box (d := zd b) 1 rfl h2 rfl (by kernel_rfl) (Reads.fact (by repeat (first | exact List.Mem.head _ | apply List.Mem.tail))) ?_
          exact again (b1, b2) trivial trivial (by repeat (first | exact trivial | refine ⟨rfl, ?_⟩ | refine ⟨i64_eq (by first | omega | (simp only; omega)), ?_⟩ | refine ⟨u64_eq (by first | omega | (simp only; omega)), ?_⟩)) (Seals.trans (Seals.box (d := zd a) 0 rfl h1 rfl) (Seals.trans (Seals.box (d := zd b) 0 rfl h2 rfl) (Seals.sub (by repeat (first | exact Sub.nil _ | refine Sub.cons (by repeat (first | exact List.Mem.head _ | apply List.Mem.tail)) ?_)))))
    · refine ord_split 1 9 (by kernel_rfl) (by kernel_rfl) (by kernel_rfl) ?_ ?_
      · refine ord_split 3 9 (by kernel_rfl) (by kernel_rfl) (by kernel_rfl) ?_ ?_
        · refine ord_split 5 9 (by kernel_rfl) (by kernel_rfl) (by kernel_rfl) ?_ ?_
          · refine ord_split 7 9 (by kernel_rfl) (by kernel_rfl) (by kernel_rfl) ?_ ?_
            · refine ord_go [0, 2, 4, 6, 8, 1, 3, 5, 7, 9, 10, 11] (by kernel_rfl) (by kernel_rfl) ?_
              refine load_fact (d := J x) (by repeat (first | exact List.Mem.head _ | apply List.Mem.tail)) (load_J _) fun z1 => ?_
              refine load_fact (d := J x) (by repeat (first | exact List.Mem.head _ | apply List.Mem.tail)) (load_J _) fun z2 => ?_
              refine alloc_rule (d := I false []) fun b1 h1 => ?_
              refine call_fn (gfirst_meets u P) (Seals.refl _ _) (by repeat (first | exact Sub.nil _ | refine Sub.cons (by repeat (first | exact List.Mem.head _ | apply List.Mem.tail)) ?_)) ?_
              rintro f1 _ _ ⟨rfl, rfl⟩
              refine call_fn (v1 f1 z1) (Seals.refl _ _) (by repeat (first | exact Sub.nil _ | refine Sub.cons (by repeat (first | exact List.Mem.head _ | apply List.Mem.tail)) ?_)) ?_
              rintro y1 _ _ ⟨rfl, rfl⟩
              refine call_fn (gfirst_meets v Q) (Seals.refl _ _) (by repeat (first | exact Sub.nil _ | refine Sub.cons (by repeat (first | exact List.Mem.head _ | apply List.Mem.tail)) ?_)) ?_
              rintro f2 _ _ ⟨rfl, rfl⟩
              refine call_fn (v2 f2 z2) (Seals.refl _ _) (by repeat (first | exact Sub.nil _ | refine Sub.cons (by repeat (first | exact List.Mem.head _ | apply List.Mem.tail)) ?_)) ?_
              rintro y2 _ _ ⟨rfl, rfl⟩
              refine alloc_rule (d := I false []) fun b2 h2 => ?_
              refine store_box (d := zd a) 1 rfl h1 rfl (by kernel_rfl) (Reads.fact (by repeat (first | exact List.Mem.head _ | apply List.Mem.tail))) ?_
              refine store_box (d := zd b) 0 rfl h2 rfl (by kernel_rfl) (Reads.fact (by repeat (first | exact List.Mem.head _ | apply List.Mem.tail))) ?_
              exact again (b1, b2) trivial trivial (by repeat (first | exact trivial | refine ⟨rfl, ?_⟩ | refine ⟨i64_eq (by first | omega | (simp only; omega)), ?_⟩ | refine ⟨u64_eq (by first | omega | (simp only; omega)), ?_⟩)) (Seals.trans (Seals.box (d := zd b) 0 rfl h2 rfl) (Seals.trans (Seals.box (d := zd a) 0 rfl h1 rfl) (Seals.sub (by repeat (first | exact Sub.nil _ | refine Sub.cons (by repeat (first | exact List.Mem.head _ | apply List.Mem.tail)) ?_)))))
            · refine ord_go [0, 2, 4, 6, 8, 1, 3, 5, 9, 7, 10, 11] (by kernel_rfl) (by kernel_rfl) ?_
              refine load_fact (d := J x) (by repeat (first | exact List.Mem.head _ | apply List.Mem.tail)) (load_J _) fun z1 => ?_
              refine load_fact (d := J x) (by repeat (first | exact List.Mem.head _ | apply List.Mem.tail)) (load_J _) fun z2 => ?_
              refine alloc_rule (d := I false []) fun b1 h1 => ?_
              refine call_fn (gfirst_meets u P) (Seals.refl _ _) (by repeat (first | exact Sub.nil _ | refine Sub.cons (by repeat (first | exact List.Mem.head _ | apply List.Mem.tail)) ?_)) ?_
              rintro f1 _ _ ⟨rfl, rfl⟩
              refine call_fn (v1 f1 z1) (Seals.refl _ _) (by repeat (first | exact Sub.nil _ | refine Sub.cons (by repeat (first | exact List.Mem.head _ | apply List.Mem.tail)) ?_)) ?_
              rintro y1 _ _ ⟨rfl, rfl⟩
              refine call_fn (gfirst_meets v Q) (Seals.refl _ _) (by repeat (first | exact Sub.nil _ | refine Sub.cons (by repeat (first | exact List.Mem.head _ | apply List.Mem.tail)) ?_)) ?_
              rintro f2 _ _ ⟨rfl, rfl⟩
              refine alloc_rule (d := I false []) fun b2 h2 => ?_
              refine call_fn (v2 f2 z2) (Seals.refl _ _) (by repeat (first | exact Sub.nil _ | refine Sub.cons (by repeat (first | exact List.Mem.head _ | apply List.Mem.tail)) ?_)) ?_
              rintro y2 _ _ ⟨rfl, rfl⟩
              refine store_box (d := zd a) 1 rfl h1 rfl (by kernel_rfl) (Reads.fact (by repeat (first | exact List.Mem.head _ | apply List.Mem.tail))) ?_
              refine store_box (d := zd b) 0 rfl h2 rfl (by kernel_rfl) (Reads.fact (by repeat (first | exact List.Mem.head _ | apply List.Mem.tail))) ?_
              exact again (b1, b2) trivial trivial (by repeat (first | exact trivial | refine ⟨rfl, ?_⟩ | refine ⟨i64_eq (by first | omega | (simp only; omega)), ?_⟩ | refine ⟨u64_eq (by first | omega | (simp only; omega)), ?_⟩)) (Seals.trans (Seals.box (d := zd b) 0 rfl h2 rfl) (Seals.trans (Seals.box (d := zd a) 0 rfl h1 rfl) (Seals.sub (by repeat (first | exact Sub.nil _ | refine Sub.cons (by repeat (first | exact List.Mem.head _ | apply List.Mem.tail)) ?_)))))
          · refine ord_go [0, 2, 4, 6, 8, 1, 3, 9, 5, 7, 10, 11] (by kernel_rfl) (by kernel_rfl) ?_
            refine load_fact (d := J x) (by repeat (first | exact List.Mem.head _ | apply List.Mem.tail)) (load_J _) fun z1 => ?_
            refine load_fact (d := J x) (by repeat (first | exact List.Mem.head _ | apply List.Mem.tail)) (load_J _) fun z2 => ?_
            refine alloc_rule (d := I false []) fun b1 h1 => ?_
            refine call_fn (gfirst_meets u P) (Seals.refl _ _) (by repeat (first | exact Sub.nil _ | refine Sub.cons (by repeat (first | exact List.Mem.head _ | apply List.Mem.tail)) ?_)) ?_
            rintro f1 _ _ ⟨rfl, rfl⟩
            refine call_fn (v1 f1 z1) (Seals.refl _ _) (by repeat (first | exact Sub.nil _ | refine Sub.cons (by repeat (first | exact List.Mem.head _ | apply List.Mem.tail)) ?_)) ?_
            rintro y1 _ _ ⟨rfl, rfl⟩
            refine alloc_rule (d := I false []) fun b2 h2 => ?_
            refine call_fn (gfirst_meets v Q) (Seals.refl _ _) (by repeat (first | exact Sub.nil _ | refine Sub.cons (by repeat (first | exact List.Mem.head _ | apply List.Mem.tail)) ?_)) ?_
            rintro f2 _ _ ⟨rfl, rfl⟩
            refine call_fn (v2 f2 z2) (Seals.refl _ _) (by repeat (first | exact Sub.nil _ | refine Sub.cons (by repeat (first | exact List.Mem.head _ | apply List.Mem.tail)) ?_)) ?_
            rintro y2 _ _ ⟨rfl, rfl⟩
            refine store_box (d := zd a) 1 rfl h1 rfl (by kernel_rfl) (Reads.fact (by repeat (first | exact List.Mem.head _ | apply List.Mem.tail))) ?_
            refine store_box (d := zd b) 0 rfl h2 rfl (by kernel_rfl) (Reads.fact (by repeat (first | exact List.Mem.head _ | apply List.Mem.tail))) ?_
            exact again (b1, b2) trivial trivial (by repeat (first | exact trivial | refine ⟨rfl, ?_⟩ | refine ⟨i64_eq (by first | omega | (simp only; omega)), ?_⟩ | refine ⟨u64_eq (by first | omega | (simp only; omega)), ?_⟩)) (Seals.trans (Seals.box (d := zd b) 0 rfl h2 rfl) (Seals.trans (Seals.box (d := zd a) 0 rfl h1 rfl) (Seals.sub (by repeat (first | exact Sub.nil _ | refine Sub.cons (by repeat (first | exact List.Mem.head _ | apply List.Mem.tail)) ?_)))))
        · refine ord_go [0, 2, 4, 6, 8, 1, 9, 3, 5, 7, 10, 11] (by kernel_rfl) (by kernel_rfl) ?_
          refine load_fact (d := J x) (by repeat (first | exact List.Mem.head _ | apply List.Mem.tail)) (load_J _) fun z1 => ?_
          refine load_fact (d := J x) (by repeat (first | exact List.Mem.head _ | apply List.Mem.tail)) (load_J _) fun z2 => ?_
          refine alloc_rule (d := I false []) fun b1 h1 => ?_
          refine call_fn (gfirst_meets u P) (Seals.refl _ _) (by repeat (first | exact Sub.nil _ | refine Sub.cons (by repeat (first | exact List.Mem.head _ | apply List.Mem.tail)) ?_)) ?_
          rintro f1 _ _ ⟨rfl, rfl⟩
          refine alloc_rule (d := I false []) fun b2 h2 => ?_
          refine call_fn (v1 f1 z1) (Seals.refl _ _) (by repeat (first | exact Sub.nil _ | refine Sub.cons (by repeat (first | exact List.Mem.head _ | apply List.Mem.tail)) ?_)) ?_
          rintro y1 _ _ ⟨rfl, rfl⟩
          refine call_fn (gfirst_meets v Q) (Seals.refl _ _) (by repeat (first | exact Sub.nil _ | refine Sub.cons (by repeat (first | exact List.Mem.head _ | apply List.Mem.tail)) ?_)) ?_
          rintro f2 _ _ ⟨rfl, rfl⟩
          refine call_fn (v2 f2 z2) (Seals.refl _ _) (by repeat (first | exact Sub.nil _ | refine Sub.cons (by repeat (first | exact List.Mem.head _ | apply List.Mem.tail)) ?_)) ?_
          rintro y2 _ _ ⟨rfl, rfl⟩
          refine store_box (d := zd a) 1 rfl h1 rfl (by kernel_rfl) (Reads.fact (by repeat (first | exact List.Mem.head _ | apply List.Mem.tail))) ?_
          refine store_box (d := zd b) 0 rfl h2 rfl (by kernel_rfl) (Reads.fact (by repeat (first | exact List.Mem.head _ | apply List.Mem.tail))) ?_
          exact again (b1, b2) trivial trivial (by repeat (first | exact trivial | refine ⟨rfl, ?_⟩ | refine ⟨i64_eq (by first | omega | (simp only; omega)), ?_⟩ | refine ⟨u64_eq (by first | omega | (simp only; omega)), ?_⟩)) (Seals.trans (Seals.box (d := zd b) 0 rfl h2 rfl) (Seals.trans (Seals.box (d := zd a) 0 rfl h1 rfl) (Seals.sub (by repeat (first | exact Sub.nil _ | refine Sub.cons (by repeat (first | exact List.Mem.head _ | apply List.Mem.tail)) ?_)))))
      · refine ord_split 8 9 (by kernel_rfl) (by kernel_rfl) (by kernel_rfl) ?_ ?_
        · refine ord_go [0, 2, 4, 6, 8, 9, 1, 3, 5, 7, 10, 11] (by kernel_rfl) (by kernel_rfl) ?_
          refine load_fact (d := J x) (by repeat (first | exact List.Mem.head _ | apply List.Mem.tail)) (load_J _) fun z1 => ?_
          refine load_fact (d := J x) (by repeat (first | exact List.Mem.head _ | apply List.Mem.tail)) (load_J _) fun z2 => ?_
          refine alloc_rule (d := I false []) fun b1 h1 => ?_
          refine alloc_rule (d := I false []) fun b2 h2 => ?_
          refine call_fn (gfirst_meets u P) (Seals.refl _ _) (by repeat (first | exact Sub.nil _ | refine Sub.cons (by repeat (first | exact List.Mem.head _ | apply List.Mem.tail)) ?_)) ?_
          rintro f1 _ _ ⟨rfl, rfl⟩
          refine call_fn (v1 f1 z1) (Seals.refl _ _) (by repeat (first | exact Sub.nil _ | refine Sub.cons (by repeat (first | exact List.Mem.head _ | apply List.Mem.tail)) ?_)) ?_
          rintro y1 _ _ ⟨rfl, rfl⟩
          refine call_fn (gfirst_meets v Q) (Seals.refl _ _) (by repeat (first | exact Sub.nil _ | refine Sub.cons (by repeat (first | exact List.Mem.head _ | apply List.Mem.tail)) ?_)) ?_
          rintro f2 _ _ ⟨rfl, rfl⟩
          refine call_fn (v2 f2 z2) (Seals.refl _ _) (by repeat (first | exact Sub.nil _ | refine Sub.cons (by repeat (first | exact List.Mem.head _ | apply List.Mem.tail)) ?_)) ?_
          rintro y2 _ _ ⟨rfl, rfl⟩
          refine store_box (d := zd a) 1 rfl h1 rfl (by kernel_rfl) (Reads.fact (by repeat (first | exact List.Mem.head _ | apply List.Mem.tail))) ?_
          refine store_box (d := zd b) 0 rfl h2 rfl (by kernel_rfl) (Reads.fact (by repeat (first | exact List.Mem.head _ | apply List.Mem.tail))) ?_
          exact again (b1, b2) trivial trivial (by repeat (first | exact trivial | refine ⟨rfl, ?_⟩ | refine ⟨i64_eq (by first | omega | (simp only; omega)), ?_⟩ | refine ⟨u64_eq (by first | omega | (simp only; omega)), ?_⟩)) (Seals.trans (Seals.box (d := zd b) 0 rfl h2 rfl) (Seals.trans (Seals.box (d := zd a) 0 rfl h1 rfl) (Seals.sub (by repeat (first | exact Sub.nil _ | refine Sub.cons (by repeat (first | exact List.Mem.head _ | apply List.Mem.tail)) ?_)))))
        · refine ord_go [0, 2, 4, 6, 9, 8, 1, 3, 5, 7, 10, 11] (by kernel_rfl) (by kernel_rfl) ?_
          refine load_fact (d := J x) (by repeat (first | exact List.Mem.head _ | apply List.Mem.tail)) (load_J _) fun z1 => ?_
          refine load_fact (d := J x) (by repeat (first | exact List.Mem.head _ | apply List.Mem.tail)) (load_J _) fun z2 => ?_
          refine alloc_rule (d := I false []) fun b2 h2 => ?_
          refine alloc_rule (d := I false []) fun b1 h1 => ?_
          refine call_fn (gfirst_meets u P) (Seals.refl _ _) (by repeat (first | exact Sub.nil _ | refine Sub.cons (by repeat (first | exact List.Mem.head _ | apply List.Mem.tail)) ?_)) ?_
          rintro f1 _ _ ⟨rfl, rfl⟩
          refine call_fn (v1 f1 z1) (Seals.refl _ _) (by repeat (first | exact Sub.nil _ | refine Sub.cons (by repeat (first | exact List.Mem.head _ | apply List.Mem.tail)) ?_)) ?_
          rintro y1 _ _ ⟨rfl, rfl⟩
          refine call_fn (gfirst_meets v Q) (Seals.refl _ _) (by repeat (first | exact Sub.nil _ | refine Sub.cons (by repeat (first | exact List.Mem.head _ | apply List.Mem.tail)) ?_)) ?_
          rintro f2 _ _ ⟨rfl, rfl⟩
          refine call_fn (v2 f2 z2) (Seals.refl _ _) (by repeat (first | exact Sub.nil _ | refine Sub.cons (by repeat (first | exact List.Mem.head _ | apply List.Mem.tail)) ?_)) ?_
          rintro y2 _ _ ⟨rfl, rfl⟩
          refine store_box (d := zd a) 0 rfl h1 rfl (by kernel_rfl) (Reads.fact (by repeat (first | exact List.Mem.head _ | apply List.Mem.tail))) ?_
          refine store_box (d := zd b) 1 rfl h2 rfl (by kernel_rfl) (Reads.fact (by repeat (first | exact List.Mem.head _ | apply List.Mem.tail))) ?_
          exact again (b1, b2) trivial trivial (by repeat (first | exact trivial | refine ⟨rfl, ?_⟩ | refine ⟨i64_eq (by first | omega | (simp only; omega)), ?_⟩ | refine ⟨u64_eq (by first | omega | (simp only; omega)), ?_⟩)) (Seals.trans (Seals.box (d := zd a) 0 rfl h1 rfl) (Seals.trans (Seals.box (d := zd b) 0 rfl h2 rfl) (Seals.sub (by repeat (first | exact Sub.nil _ | refine Sub.cons (by repeat (first | exact List.Mem.head _ | apply List.Mem.tail)) ?_)))))
  rintro ⟨b1, b2⟩ -
  refine load_fact (d := zd a) (by repeat (first | exact List.Mem.head _ | apply List.Mem.tail)) (load_I _ _) fun z1 => ?_
  refine call_fn (rSignZ z1 a 9 sA (by decide)) (Seals.refl _ _) (by repeat (first | exact Sub.nil _ | refine Sub.cons (by repeat (first | exact List.Mem.head _ | apply List.Mem.tail)) ?_)) ?_
  rintro _ _ _ ⟨rfl, rfl, rfl⟩
  refine cmp_split _ rfl (fun h1 => ?_) (fun h1 => ?_)
  · exact fin ⟨rfl, rfl, rfl⟩ (Seals.nil _ _)
  refine load_fact (d := zd b) (by repeat (first | exact List.Mem.head _ | apply List.Mem.tail)) (load_I _ _) fun z2 => ?_
  refine call_fn (rSignZ z2 b 9 sB (by decide)) (Seals.refl _ _) (by repeat (first | exact Sub.nil _ | refine Sub.cons (by repeat (first | exact List.Mem.head _ | apply List.Mem.tail)) ?_)) ?_
  rintro _ _ _ ⟨rfl, rfl, rfl⟩
  refine cmp_split _ rfl (fun h2 => ?_) (fun h2 => ?_)
  · exact fin ⟨rfl, rfl, rfl⟩ (Seals.nil _ _)
  have hgo := hgo (fun e => h1 (by rw [e]; rfl)) (fun e => h2 (by rw [e]; rfl))
  refine draw_rule [0, 1, 2, 3, 5, 7, 8, 10, 11, 4, 6, 9, 12, 13, 14, 15, 16] [0, 1, 2, 3, 4, 5, 6, 7, 8, 9, 10, 11, 12, 13, 14, 15, 16] (by kernel_rfl) (by kernel_rfl) ?_
  refine load_fact (d := J x) (by repeat (first | exact List.Mem.head _ | apply List.Mem.tail)) (load_J _) fun z5 => ?_
  refine load_fact (d := J x) (by repeat (first | exact List.Mem.head _ | apply List.Mem.tail)) (load_J _) fun z6 => ?_
  refine load_fact (d := J x) (by repeat (first | exact List.Mem.head _ | apply List.Mem.tail)) (load_J _) fun z7 => ?_
  refine call_fn (xgElim u v P Q) (Seals.refl _ _) (by repeat (first | exact Sub.nil _ | refine Sub.cons (by repeat (first | exact List.Mem.head _ | apply List.Mem.tail)) ?_)) ?_
  rintro x1 _ _ ⟨rfl, rfl⟩
  refine call_fn (v3 x1 z5) (Seals.refl _ _) (by repeat (first | exact Sub.nil _ | refine Sub.cons (by repeat (first | exact List.Mem.head _ | apply List.Mem.tail)) ?_)) ?_
  rintro x2 _ _ ⟨rfl, rfl⟩
  refine call_fn (xgPutX u z6 P hx hxl) (Seals.refl _ _) (by repeat (first | exact Sub.nil _ | refine Sub.cons (by repeat (first | exact List.Mem.head _ | apply List.Mem.tail)) ?_)) ?_
  rintro x3 _ _ ⟨rfl, rfl⟩
  refine call_fn (xgPutX v z7 Q hx hxl) (Seals.refl _ _) (by repeat (first | exact Sub.nil _ | refine Sub.cons (by repeat (first | exact List.Mem.head _ | apply List.Mem.tail)) ?_)) ?_
  rintro x4 _ _ ⟨rfl, rfl⟩
  refine call_fn (v4 x3 x4 hgo.symm) (Seals.refl _ _) (by repeat (first | exact Sub.nil _ | refine Sub.cons (by repeat (first | exact List.Mem.head _ | apply List.Mem.tail)) ?_)) ?_
  rintro x5 _ _ ⟨rfl, rfl⟩
  refine call_fn (exactE x2 x5 _ _ (rfl)) (Seals.refl _ _) (by repeat (first | exact Sub.nil _ | refine Sub.cons (by repeat (first | exact List.Mem.head _ | apply List.Mem.tail)) ?_)) ?_
  rintro _ _ _ ⟨rfl, rfl, rfl⟩
  exact fin ⟨rfl, rfl, rfl⟩ (Seals.nil _ _)
end Go.Proofs.Ytfkeohlpcjpkbaa

namespace Go.Proofs.Ytfkeohlpcjpkbaa
open Go.ChangeShapes Go.WideShapes Go.ChangeAt Go.RowKit
open Go.Joins (open_agg2)
set_option maxRecDepth 100000 in
theorem gridPoints_lifted (os : Os) (started : os.Started) (H : Type) (enc : TypeId × Value → H) :
    ReturnsInHanded {} Try.checked os 8 .any (Rows.gridPointsSpec.pre6 enc Try.prog Try.f8 Rows.gridPointsRow.domain false) (Rows.gridPointsSpec.post enc Try.prog Try.f8 false true false false) := by
  refine returnsInHanded_of_change (C := Try.checked) own0 started (by kernel_rfl) Try.func8
    (ChangeSpec.witness6 (enc := enc) (C := Try.checked) false ⟨#[], #[.slice none 0 0, .slice none 0 0, .agg #[.bool false, .slice none 0 0]], []⟩ 8 (by kernel_rfl) (by kernel_rfl) (by kernel_rfl) (by kernel_rfl)) ?_
  intro Wd base args ds gs before hval0 hW hcnd _
  have hval : ∀ (j : Nat) t v, Try.f8.params[j]? = some t → args[j]? = some v → Value.okWide Try.prog Wd .any base t v := hval0
  have hW' := hW
  obtain ⟨p, q, hA0, hV, rfl, hfz, hnd⟩ := hW
  have hA : DataW.TrodAll enc Try.prog Wd 0 (fun _ => true) true Try.f8.params.toList args.toList ds p := hA0
  rw [Try.params8] at hA hval
  obtain ⟨v0, vs0, d0, ds0, p0, q0, hargs, rfl, rfl, h0, r0⟩ := trodAll_cons hA
  obtain ⟨v1, vs1, d1, ds1, p1, q1, rfl, rfl, rfl, h1, r1⟩ := trodAll_cons r0
  obtain ⟨v2, vs2, d2, ds2, p2, q2, rfl, rfl, rfl, h2, r2⟩ := trodAll_cons r1
  obtain ⟨rfl, rfl, rfl⟩ := trodAll_nil r2
  obtain rfl : args = #[v0, v1, v2] := by cases args; simp_all
  obtain ⟨rfl, rfl⟩ := trodVars_none hV
  obtain ⟨a0, n0, c0, rfl⟩ := okWide_slice Try.underlying23 (hval 0 23 v0 rfl rfl)
  have k0 := h0
  have lt0 : ∀ x ∈ p0, x.block < Wd.heap.size := by obtain ⟨m, hm⟩ := k0; exact DataW.trod_lt m _ _ _ hm
  obtain ⟨m0, lm0, rd0⟩ : ∃ m, limM m ∧ Rd (fun b => b < Wd.heap.size) Wd (.slice a0 n0 c0) (W m) := by
    obtain ⟨fuel, hf⟩ := h0
    obtain ⟨m, e1, e2⟩ := rd_grid hf
    exact ⟨m, e1, rd_val rfl e2⟩
  obtain ⟨a1, n1, c1, rfl⟩ := okWide_slice Try.underlying23 (hval 1 23 v1 rfl rfl)
  have k1 := h1
  have lt1 : ∀ x ∈ p1, x.block < Wd.heap.size := by obtain ⟨m, hm⟩ := k1; exact DataW.trod_lt m _ _ _ hm
  obtain ⟨m1, lm1, rd1⟩ : ∃ m, limM m ∧ Rd (fun b => b < Wd.heap.size) Wd (.slice a1 n1 c1) (W m) := by
    obtain ⟨fuel, hf⟩ := h1
    obtain ⟨m, e1, e2⟩ := rd_grid hf
    exact ⟨m, e1, rd_val rfl e2⟩
  have k2 := h2
  have lt2 : ∀ x ∈ p2, x.block < Wd.heap.size := by obtain ⟨m, hm⟩ := k2; exact DataW.trod_lt m _ _ _ hm
  obtain ⟨m2, lm2, rd2⟩ : ∃ m : Bool × List Nat, Lim m.2 ∧ Rd (fun b => b < Wd.heap.size) Wd v2 (J m) := rd_arg (hval 2 39 v2 rfl rfl) h2
  clear hA0 hval0
  refine (calls_of_meets (w := Wd) (gPoints_meets (.slice a0 n0 c0) (.slice a1 n1 c1) v2 m0 m1 m2 lm0 lm1 lm2) ?_).mono fun e W2 ⟨he, bel⟩ => ?_
  · intro F hF
    simp only [List.mem_cons, List.not_mem_nil, or_false] at hF
    rcases hF with rfl | rfl | rfl
    · exact rd0
    · exact rd1
    · exact rd2
  subst he
  exact ⟨_, rfl, _, _, _, [], _, [], hW', trodAll_mk1 (shut_bool Try.underlying4 _), (trodAll_cons_mk (Below.trod laid0 (by kernel_rfl) (of_decide_eq_true (by kernel_rfl)) k0 bel lt0) (trodAll_cons_mk (Below.trod laid0 (by kernel_rfl) (of_decide_eq_true (by kernel_rfl)) k1 bel lt1) (trodAll_cons_mk (Below.trod laid0 (by kernel_rfl) (of_decide_eq_true (by kernel_rfl)) k2 bel lt2) trodAll_mk0))), rfl, bel.frame _, fun h => by cases h⟩
theorem gridPoints_holds : Rows.GridPointsSaid :=
  OpenClaim.holds_of_wide 8 Try.f8 rfl rfl rfl rfl rfl rfl rfl ⟨rfl, rfl, rfl, rfl, rfl⟩ rfl rfl rfl rfl rfl (by kernel_rfl) Try.func8 (by kernel_rfl)
    (of_decide_eq_true (by kernel_rfl)) (by unfold Func.isWrapper; first | (rw [if_pos (by decide +kernel)]; kernel_rfl) | (rw [if_neg (by decide +kernel)]; exact ⟨rfl, rfl⟩))
    (fun os started H enc _ => gridPoints_lifted os started H enc)
#print axioms gridPoints_holds
end Go.Proofs.Ytfkeohlpcjpkbaa
