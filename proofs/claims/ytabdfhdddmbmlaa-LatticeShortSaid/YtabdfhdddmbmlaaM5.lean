/- Towards the statement, part 5 of 6: contracts of functions, and what they rest on. Conditions: each theorem names its own. -/
import Derived.Test.YtabdfhdddmbmlaaM4
set_option linter.unusedVariables false
set_option linter.unusedSimpArgs false

namespace Go.Proofs.Ytabdfhdddmbmlaa
open Go.RowKit
theorem cn0 : cn 0 = z0 := by simp [cn, lims_zero, z0]
def rawJ (a : List Row) : Jx := fun i c => (a.getD i []).getD c z0
def uniJ : Jx := fun i c => if c = i then cn 1 else z0
/-- The numbers l of the rows ahead of i, and of row i the first j. -/
def ltb (m : Nat) (b : Mx) (i j : Nat) : Mx := fun a t => if t < a ∧ (a < i ∨ t < j) then lm m b a t else 0
theorem len_eq {P : Program} {t e ty : TypeId} {size n c : Nat} {a : Option Addr} {v : Value} {os : List Own} {fs : List Fact} {K : Cont} [ht : TSl P t e size]
    (h : v = .slice a n c) (k : K (.int .i64 n) os fs) : LenK P [t] ty v os fs K := by
  subst h
  exact len_val k
set_option maxHeartbeats 4000000 in
theorem lmade_meets (v : Value) (a : List Row) (k : Nat) (hf : Fits k a) (hr : right a) (hk : k ≤ 1048576) (ln : a.length ≤ 1024) (lc : (a.getD 0 []).length ≤ 1048576) :
    Meets Try.prog 33 [v] [(v, W a)] (fun r os fs => (¬ Ind (a.getD 0 []).length a.length (rvm a) ∧ r = .pointer none ∧ os = [] ∧ fs = []) ∨
      (Ind (a.getD 0 []).length a.length (rvm a) ∧ ∃ s : BS, s.ok a.length ∧ r = ptr0 s.r 0 ∧ os = bas s (a.getD 0 []).length a.length (rawJ a) uniJ (dm (a.getD 0 []).length (rvm a)) (ltb (a.getD 0 []).length (rvm a) a.length 0) [] ∧ fs = [])) := by
  have hlen : ∀ i, i < a.length → (a.getD i []).length = (a.getD 0 []).length := fun i hi => (hr.get hi).2
  have hrx : ∀ i c, Lim (rawJ a i c).2 ∧ (rawJ a i c).2.length ≤ k := fun i c => (hf.get i).get c
  have hn1 := hr.1
  have hgz : ∀ i j, sz (gr (a.getD 0 []).length (rvm a) i j) (k + k + 1) := gmx_sz hf lc
  have e0 : ∀ i j, ip (a.getD 0 []).length (fun c => jv (rawJ a i c)) (fun c => jv (rawJ a j c)) = mi (gr (a.getD 0 []).length (rvm a)) 0 i j := fun i j => by rw [mi_none]; rfl
  have hsymm := gr_symm (a.getD 0 []).length (rvm a)
  have hww := wv_wv (a.getD 0 []).length (rvm a)
  have hnn : ∀ t, 0 ≤ dm (a.getD 0 []).length (rvm a) t * dm (a.getD 0 []).length (rvm a) (t + 1) := fun t => by
    have := hww t
    unfold dm
    rw [← this]
    exact ip_nn _ _
  have hlm : ∀ t i, lm (a.getD 0 []).length (rvm a) i t = mi (gr (a.getD 0 []).length (rvm a)) t i t := fun _ _ => rfl
  have hdm : ∀ t, dm (a.getD 0 []).length (rvm a) t = dG (gr (a.getD 0 []).length (rvm a)) t := fun _ => rfl
  generalize hC : (a.getD 0 []).length = C at *
  generalize hG : gr C (rvm a) = G at *
  have hmz : ∀ t i j, t ≤ a.length → sz (mi G t i j) 2252349569 := fun t i j ht => by
    refine (det_sz (t + 1) (by omega) (k := k + k + 1) (fun x y _ _ => hgz _ _)).mono ?_
    have : (k + k + 1 + 1) * (t + 1) ≤ 2097154 * 1025 := Nat.mul_le_mul (by omega) (by omega)
    omega
  have hdz : ∀ t, t ≤ a.length → sz (dG G t) 2252349569 := fun t ht => by
    cases t with
    | zero => exact (sz_num 1 (by decide)).mono (by decide)
    | succ t => rw [dG_succ]; exact hmz t t t (by omega)
  have hstep : ∀ t i j, dG G t ≠ 0 → (dG G (t + 1) * mi G t i j - mi G t i t * mi G t j t) / dG G t = mi G (t + 1) i j := fun t i j h => by
    rw [mi_symm hsymm t j t, ← mi_step h, Int.mul_ediv_cancel_left _ h]
  refine meets_of_vc Try.func33 (by kernel_rfl) rfl (by kernel_rfl) (Nat.le_of_ble_eq_true rfl) ?_
  refine call_fn (zof_meets 1 (by decide) (by decide)) (Seals.refl _ _) mS ?_
  rintro one _ _ ⟨rfl, rfl⟩
  refine buildSlice_own (size := 2) (n := 1) [one] [zd 1] rfl rfl (by decide) (by decide) ⟨Reads.fact mM, rfl, trivial⟩ fun vd hvd => ?_
  refine build_bas hvd.one ?_
  refine box_rule (Reads.bag hvd.one) fun p hp => ?_
  obtain ⟨r0, rfl⟩ := hp
  refine len_fact mM fun _ => ?_
  refine loop_rule (X := Nat × BS) (fun x => ([(0, v), (3, ptr0 x.2.r 0), (15, .int .i64 (a.length : Nat)), (16, .int .i64 (x.1 : Nat))], bak x.2 C a.length x.1 (x.1 + 1) (rawJ a) uniJ (dG G) (ltb C (rvm a) x.1 0) [], [(v, W a)]))
    (fun x => x.1 ≤ a.length ∧ x.2.ok x.1 ∧ ∀ t, t ≤ x.1 → 0 < dG G t) (fun x => a.length - x.1) rfl ?_ ?_
  · refine again (0, ⟨r0, .slice none 0 0, .slice none 0 0, vd, .slice none 0 0, fun _ => undef, fun _ => undef, fun _ => undef⟩) ⟨Nat.zero_le _, ⟨isSl_nil, isSl_nil, hvd, isSl_nil, fun i hi => absurd hi (Nat.not_lt_zero _), fun i hi => absurd hi (Nat.not_lt_zero _), fun i hi => absurd hi (Nat.not_lt_zero _)⟩, fun t ht => ?_⟩ trivial mF ?_
    · have : t = 0 := by simp only at ht; omega
      subst this
      rw [dG_zero]; decide
    · refine Seals.trans (Seals.own_nil _ _ 1 (fun i => .one undef)) (Seals.trans (Seals.none (famZ (fun _ => undef) 0 a.length (ltb C (rvm a) 0 0)) rfl) (Seals.trans (Seals.own_nil _ _ 1 (fun i => .one undef)) (Seals.trans (Seals.none (famJ (fun _ => undef) 0 a.length uniJ) rfl) (Seals.trans (Seals.own_nil _ _ 1 (fun i => .one undef)) (Seals.trans (Seals.none (famJ (fun _ => undef) 0 C (rawJ a)) rfl)
        (Seals.trans (Seals.own_cong (os := [_, _, _, _, _, _, _, own1 vd 2 1 _]) 7 (fun i => zd (dG G i)) rfl rfl (fun y hy => ?_)) (Seals.trans (Seals.pick [6, 0, 1, 2, 3, 7, 4, 5] 8 rfl (by decide)) (Seals.sub mS))))))))
      have : y = 0 := by omega
      subst this
      rw [dG_zero]; rfl
  · rintro ⟨i, s⟩ ⟨hi, hs, hpos⟩
    simp only at hi hs hpos ⊢
    refine cmp_split _ rfl (fun hc => ?_) (fun hc => ?_)
    · have hin : i < a.length := by omega
      have hfl : (a.getD i []).length = C := hlen i hin
      -- the row, and the unit row
      refine index_fact (v := v) mM i rfl hin fun a1 => ?_
      refine load_fact (d := V (a.getD i [])) mM (load_V _) fun x1 => ?_
      refine len_fact mM fun _ => ?_
      refine make_rule (t := 36) (d := I false []) C (by rw [hfl]) (by rw [hfl]) (by omega) (by omega) fun row hrow => ?_
      refine index_fact (v := v) mM i rfl hin fun a2 => ?_
      refine load_fact (d := V (a.getD i [])) mM (load_V _) fun x2 => ?_
      refine copy_rule (size := 2) (n := C) (m := C) (el' := fun c => J ((a.getD i []).getD c z0)) 0 rfl hrow (Knw.cast (Knw.fact (d := V (a.getD i [])) mM) (by unfold V LD; rw [hfl])) (Nat.le_refl _) ?_
      refine len_fact (v := v) (n := a.length) mM fun _ => ?_
      refine make_rule (t := 36) (d := I false []) a.length rfl rfl (by omega) (by omega) fun on hone => ?_
      refine call_fn (zof_meets 1 (by decide) (by decide)) (Seals.refl _ _) mS ?_
      rintro o1 _ _ ⟨rfl, rfl⟩
      refine index_elem 0 rfl hone i rfl hin ?_
      refine store_elem (d := zd 1) 0 rfl i hin rfl (by kernel_rfl) (Reads.fact mM) ?_
      obtain ⟨sb', e1, e2⟩ : ∃ f : Nat → Value, f i = row ∧ ∀ y, y < i → f y = s.sb y := ⟨fun y => if y = i then row else s.sb y, if_pos rfl, fun y hy => if_neg (by omega)⟩
      obtain ⟨su', e3, e4⟩ : ∃ f : Nat → Value, f i = on ∧ ∀ y, y < i → f y = s.su y := ⟨fun y => if y = i then on else s.su y, if_pos rfl, fun y hy => if_neg (by omega)⟩
      subst e1 e3
      have eb : ∀ y, y < i + 1 → Dat.one (sb' y) = if y < i then Dat.one (s.sb y) else [Dat.one (sb' i)].getD 0 (.one undef) := fun y hy => by
        by_cases e : y < i
        · rw [if_pos e, e2 y e]
        · rw [if_neg e, show y = i by omega]; rfl
      have eu : ∀ y, y < i + 1 → Dat.one (su' y) = if y < i then Dat.one (s.su y) else [Dat.one (su' i)].getD 0 (.one undef) := fun y hy => by
        by_cases e : y < i
        · rw [if_pos e, e4 y e]
        · rw [if_neg e, show y = i by omega]; rfl
      refine draw_sl (v := v) (n := a.length) mM fun hsv => ?_
      obtain ⟨sv1, sv2, hsv⟩ := hsv
      refine draw_join (X := Value × Value × Value × Value) (fun z => ([(0, v), (3, ptr0 s.r 0), (4, .int .i64 (i : Nat)), (5, sb' i), (6, su' i), (15, .int .i64 (a.length : Nat)), (16, .int .i64 (i : Nat))],
          own1 z.1 2 a.length (fun _ => I false []) :: own1 (su' i) 2 a.length (upd (fun _ => I false []) i (zd 1)) :: own1 (sb' i) 2 C (fun c => if c < C then J ((a.getD i []).getD c z0) else I false []) ::
          own4 (ptr0 s.r 0) z.2.1 z.2.2.1 s.vd z.2.2.2 :: famJ s.sb i C (rawJ a) :: own1 z.2.1 1 (i + 1) (fun y => .one (sb' y)) :: famJ s.su i a.length uniJ :: own1 z.2.2.1 1 (i + 1) (fun y => .one (su' y)) ::
          own1 s.vd 2 (i + 1) (fun i => zd (dG G i)) :: famZ s.sl i a.length (ltb C (rvm a) i 0) :: own1 z.2.2.2 1 (i + 1) (fun y => .one (if y < i then s.sl y else z.1)) :: [], [(v, W a)])) (fun z => isSl z.1 ∧ isSl z.2.1 ∧ isSl z.2.2.1 ∧ isSl z.2.2.2) ?_ ?_
      ·
        refine draw_ord [0, 3, 4, 5, 6, 7, 8, 9, 10, 11, 12, 13, 14, 15, 16, 17, 18, 19, 20, 21, 22, 23, 24, 25, 26, 27, 28, 29, 30, 31, 1, 32, 33, 34, 35, 2, 36, 37, 38] (by kernel_rfl) ?_
        refine ord_split 9 17 (by kernel_rfl) (by kernel_rfl) (by kernel_rfl) ?_ ?_
        · refine ord_split 9 25 (by kernel_rfl) (by kernel_rfl) (by kernel_rfl) ?_ ?_
          · refine ord_split 10 17 (by kernel_rfl) (by kernel_rfl) (by kernel_rfl) ?_ ?_
            · refine ord_split 10 25 (by kernel_rfl) (by kernel_rfl) (by kernel_rfl) ?_ ?_
              · refine ord_split 17 25 (by kernel_rfl) (by kernel_rfl) (by kernel_rfl) ?_ ?_
                · refine ord_split 18 25 (by kernel_rfl) (by kernel_rfl) (by kernel_rfl) ?_ ?_
                  · refine ordE_go [own4 (ptr0 s.r 0) s.vb s.vu s.vd s.vl] [7, 15, 22, 24] [9, 10, 17, 18, 25, 26, 27] [] [0, 1, 2, 3, 4, 5, 6, 7, 8, 11, 12, 13, 14, 15, 16, 19, 20, 21, 22, 23, 24, 9, 10, 17, 18, 25, 26, 27, 28, 29, 30, 31, 32, 33, 34, 35, 36, 37, 38] (by kernel_rfl) (by kernel_rfl) (by kernel_rfl) ?_
                    refine field_ptr ?_
                    refine field_ptr ?_
                    refine lookD (v := s.vb) ⟨mM, trivial⟩ rfl (lookE4 0 rfl (by decide)) ?_
                    refine field_ptr ?_
                    refine field_ptr ?_
                    refine lookD (v := s.vu) ⟨mM, trivial⟩ rfl (lookE4 1 rfl (by decide)) ?_
                    refine field_ptr ?_
                    refine lookD (v := s.vl) ⟨mM, trivial⟩ rfl (lookE4 3 rfl (by decide)) ?_
                    refine lookD (v := .int .i64 a.length) ⟨mM, trivial⟩ rfl (fun _ _ _ => len_eq hsv rfl) ?_
                    refine buildSlice_fact (size := 1) (n := 1) [sb' i] [.one (sb' i)] rfl rfl (by decide) (by decide) ⟨Reads.one hrow.one, rfl, trivial⟩ fun q1 => ?_
                    refine eGo ⟨mM, trivial⟩ ?_
                    first | refine append_one (size := 1) (n := i) (el' := fun y => [Dat.one (sb' i)].getD y (.one undef)) (e' := fun y => .one (sb' y)) 4 rfl hs.vb (Knw.fact mM) eb (by omega) (by omega) fun vb' hvb' => ?_ | refine append_one (size := 1) (n := i) (el' := fun y => [Dat.one (sb' i)].getD y (.one undef)) (e' := fun y => .one (sb' y)) 5 rfl hs.vb (Knw.fact mM) eb (by omega) (by omega) fun vb' hvb' => ?_
                    refine eGo ⟨mM, trivial⟩ ?_
                    refine buildSlice_fact (size := 1) (n := 1) [su' i] [.one (su' i)] rfl rfl (by decide) (by decide) ⟨Reads.one hone.one, rfl, trivial⟩ fun q2 => ?_
                    refine eGo ⟨mM, trivial⟩ ?_
                    first | refine append_one (size := 1) (n := i) (el' := fun y => [Dat.one (su' i)].getD y (.one undef)) (e' := fun y => .one (su' y)) 6 rfl hs.vu (Knw.fact mM) eu (by omega) (by omega) fun vu' hvu' => ?_ | refine append_one (size := 1) (n := i) (el' := fun y => [Dat.one (su' i)].getD y (.one undef)) (e' := fun y => .one (su' y)) 7 rfl hs.vu (Knw.fact mM) eu (by omega) (by omega) fun vu' hvu' => ?_
                    refine eGo ⟨mM, trivial⟩ ?_
                    refine make_rule (t := 36) (d := I false []) a.length rfl rfl (by omega) (by omega) fun lr hlr => ?_
                    refine eGo ⟨mM, trivial⟩ ?_
                    refine buildSlice_fact (size := 1) (n := 1) [lr] [.one lr] rfl rfl (by decide) (by decide) ⟨Reads.one hlr.one, rfl, trivial⟩ fun q3 => ?_
                    refine eGo ⟨mM, trivial⟩ ?_
                    refine append_one (size := 1) (n := i) (el' := fun y => [Dat.one lr].getD y (.one undef)) (e' := fun y => .one (if y < i then s.sl y else lr)) 10 rfl hs.vl (Knw.fact mM) (fun y _ => by by_cases e : y < i <;> simp [e]) (by omega) (by omega) fun vl' hvl' => ?_
                    refine eGo ⟨mM, trivial⟩ ?_
                    refine field_ptr ?_
                    refine field_ptr ?_
                    refine store4 3 0 rfl rfl (by decide) hvb'.one (by kernel_rfl) ?_
                    refine field_ptr ?_
                    refine field_ptr ?_
                    refine store4 3 1 rfl rfl (by decide) hvu'.one (by kernel_rfl) ?_
                    refine field_ptr ?_
                    refine store4 3 3 rfl rfl (by decide) hvl'.one (by kernel_rfl) ?_
                    exact again (lr, vb', vu', vl') ⟨hlr, hvb', hvu', hvl'⟩ trivial mF (Seals.sub (fun F hF => by repeat (first | exact hF | apply List.Mem.tail)))
                  · refine ord_split 18 26 (by kernel_rfl) (by kernel_rfl) (by kernel_rfl) ?_ ?_
                    · refine ordE_go [own4 (ptr0 s.r 0) s.vb s.vu s.vd s.vl] [7, 15, 22, 24] [9, 10, 17, 18, 25, 26, 27] [] [0, 1, 2, 3, 4, 5, 6, 7, 8, 11, 12, 13, 14, 15, 16, 19, 20, 21, 22, 23, 24, 9, 10, 17, 25, 18, 26, 27, 28, 29, 30, 31, 32, 33, 34, 35, 36, 37, 38] (by kernel_rfl) (by kernel_rfl) (by kernel_rfl) ?_
                      refine field_ptr ?_
                      refine field_ptr ?_
                      refine lookD (v := s.vb) ⟨mM, trivial⟩ rfl (lookE4 0 rfl (by decide)) ?_
                      refine field_ptr ?_
                      refine field_ptr ?_
                      refine lookD (v := s.vu) ⟨mM, trivial⟩ rfl (lookE4 1 rfl (by decide)) ?_
                      refine field_ptr ?_
                      refine lookD (v := s.vl) ⟨mM, trivial⟩ rfl (lookE4 3 rfl (by decide)) ?_
                      refine lookD (v := .int .i64 a.length) ⟨mM, trivial⟩ rfl (fun _ _ _ => len_eq hsv rfl) ?_
                      refine buildSlice_fact (size := 1) (n := 1) [sb' i] [.one (sb' i)] rfl rfl (by decide) (by decide) ⟨Reads.one hrow.one, rfl, trivial⟩ fun q1 => ?_
                      refine eGo ⟨mM, trivial⟩ ?_
                      first | refine append_one (size := 1) (n := i) (el' := fun y => [Dat.one (sb' i)].getD y (.one undef)) (e' := fun y => .one (sb' y)) 4 rfl hs.vb (Knw.fact mM) eb (by omega) (by omega) fun vb' hvb' => ?_ | refine append_one (size := 1) (n := i) (el' := fun y => [Dat.one (sb' i)].getD y (.one undef)) (e' := fun y => .one (sb' y)) 5 rfl hs.vb (Knw.fact mM) eb (by omega) (by omega) fun vb' hvb' => ?_
                      refine eGo ⟨mM, trivial⟩ ?_
                      refine buildSlice_fact (size := 1) (n := 1) [su' i] [.one (su' i)] rfl rfl (by decide) (by decide) ⟨Reads.one hone.one, rfl, trivial⟩ fun q2 => ?_
                      refine eGo ⟨mM, trivial⟩ ?_
                      refine make_rule (t := 36) (d := I false []) a.length rfl rfl (by omega) (by omega) fun lr hlr => ?_
                      refine eGo ⟨mM, trivial⟩ ?_
                      first | refine append_one (size := 1) (n := i) (el' := fun y => [Dat.one (su' i)].getD y (.one undef)) (e' := fun y => .one (su' y)) 6 rfl hs.vu (Knw.fact mM) eu (by omega) (by omega) fun vu' hvu' => ?_ | refine append_one (size := 1) (n := i) (el' := fun y => [Dat.one (su' i)].getD y (.one undef)) (e' := fun y => .one (su' y)) 7 rfl hs.vu (Knw.fact mM) eu (by omega) (by omega) fun vu' hvu' => ?_
                      refine eGo ⟨mM, trivial⟩ ?_
                      refine buildSlice_fact (size := 1) (n := 1) [lr] [.one lr] rfl rfl (by decide) (by decide) ⟨Reads.one hlr.one, rfl, trivial⟩ fun q3 => ?_
                      refine eGo ⟨mM, trivial⟩ ?_
                      refine append_one (size := 1) (n := i) (el' := fun y => [Dat.one lr].getD y (.one undef)) (e' := fun y => .one (if y < i then s.sl y else lr)) 10 rfl hs.vl (Knw.fact mM) (fun y _ => by by_cases e : y < i <;> simp [e]) (by omega) (by omega) fun vl' hvl' => ?_
                      refine eGo ⟨mM, trivial⟩ ?_
                      refine field_ptr ?_
                      refine field_ptr ?_
                      refine store4 3 0 rfl rfl (by decide) hvb'.one (by kernel_rfl) ?_
                      refine field_ptr ?_
                      refine field_ptr ?_
                      refine store4 3 1 rfl rfl (by decide) hvu'.one (by kernel_rfl) ?_
                      refine field_ptr ?_
                      refine store4 3 3 rfl rfl (by decide) hvl'.one (by kernel_rfl) ?_
                      exact again (lr, vb', vu', vl') ⟨hlr, hvb', hvu', hvl'⟩ trivial mF (Seals.sub (fun F hF => by repeat (first | exact hF | apply List.Mem.tail)))
                    · refine ordE_go [own4 (ptr0 s.r 0) s.vb s.vu s.vd s.vl] [7, 15, 22, 24] [9, 10, 17, 18, 25, 26, 27] [] [0, 1, 2, 3, 4, 5, 6, 7, 8, 11, 12, 13, 14, 15, 16, 19, 20, 21, 22, 23, 24, 9, 10, 17, 25, 26, 18, 27, 28, 29, 30, 31, 32, 33, 34, 35, 36, 37, 38] (by kernel_rfl) (by kernel_rfl) (by kernel_rfl) ?_
                      refine field_ptr ?_
                      refine field_ptr ?_
                      refine lookD (v := s.vb) ⟨mM, trivial⟩ rfl (lookE4 0 rfl (by decide)) ?_
                      refine field_ptr ?_
                      refine field_ptr ?_
                      refine lookD (v := s.vu) ⟨mM, trivial⟩ rfl (lookE4 1 rfl (by decide)) ?_
                      refine field_ptr ?_
                      refine lookD (v := s.vl) ⟨mM, trivial⟩ rfl (lookE4 3 rfl (by decide)) ?_
                      refine lookD (v := .int .i64 a.length) ⟨mM, trivial⟩ rfl (fun _ _ _ => len_eq hsv rfl) ?_
                      refine buildSlice_fact (size := 1) (n := 1) [sb' i] [.one (sb' i)] rfl rfl (by decide) (by decide) ⟨Reads.one hrow.one, rfl, trivial⟩ fun q1 => ?_
                      refine eGo ⟨mM, trivial⟩ ?_
                      first | refine append_one (size := 1) (n := i) (el' := fun y => [Dat.one (sb' i)].getD y (.one undef)) (e' := fun y => .one (sb' y)) 4 rfl hs.vb (Knw.fact mM) eb (by omega) (by omega) fun vb' hvb' => ?_ | refine append_one (size := 1) (n := i) (el' := fun y => [Dat.one (sb' i)].getD y (.one undef)) (e' := fun y => .one (sb' y)) 5 rfl hs.vb (Knw.fact mM) eb (by omega) (by omega) fun vb' hvb' => ?_
                      refine eGo ⟨mM, trivial⟩ ?_
                      refine buildSlice_fact (size := 1) (n := 1) [su' i] [.one (su' i)] rfl rfl (by decide) (by decide) ⟨Reads.one hone.one, rfl, trivial⟩ fun q2 => ?_
                      refine eGo ⟨mM, trivial⟩ ?_
                      refine make_rule (t := 36) (d := I false []) a.length rfl rfl (by omega) (by omega) fun lr hlr => ?_
                      refine eGo ⟨mM, trivial⟩ ?_
                      refine buildSlice_fact (size := 1) (n := 1) [lr] [.one lr] rfl rfl (by decide) (by decide) ⟨Reads.one hlr.one, rfl, trivial⟩ fun q3 => ?_
                      refine eGo ⟨mM, trivial⟩ ?_
                      first | refine append_one (size := 1) (n := i) (el' := fun y => [Dat.one (su' i)].getD y (.one undef)) (e' := fun y => .one (su' y)) 6 rfl hs.vu (Knw.fact mM) eu (by omega) (by omega) fun vu' hvu' => ?_ | refine append_one (size := 1) (n := i) (el' := fun y => [Dat.one (su' i)].getD y (.one undef)) (e' := fun y => .one (su' y)) 7 rfl hs.vu (Knw.fact mM) eu (by omega) (by omega) fun vu' hvu' => ?_
                      refine eGo ⟨mM, trivial⟩ ?_
                      refine append_one (size := 1) (n := i) (el' := fun y => [Dat.one lr].getD y (.one undef)) (e' := fun y => .one (if y < i then s.sl y else lr)) 10 rfl hs.vl (Knw.fact mM) (fun y _ => by by_cases e : y < i <;> simp [e]) (by omega) (by omega) fun vl' hvl' => ?_
                      refine eGo ⟨mM, trivial⟩ ?_
                      refine field_ptr ?_
                      refine field_ptr ?_
                      refine store4 3 0 rfl rfl (by decide) hvb'.one (by kernel_rfl) ?_
                      refine field_ptr ?_
                      refine field_ptr ?_
                      refine store4 3 1 rfl rfl (by decide) hvu'.one (by kernel_rfl) ?_
                      refine field_ptr ?_
                      refine store4 3 3 rfl rfl (by decide) hvl'.one (by kernel_rfl) ?_
                      exact again (lr, vb', vu', vl') ⟨hlr, hvb', hvu', hvl'⟩ trivial mF (Seals.sub (fun F hF => by repeat (first | exact hF | apply List.Mem.tail)))
                · refine ord_split 17 26 (by kernel_rfl) (by kernel_rfl) (by kernel_rfl) ?_ ?_
                  · refine ord_split 18 26 (by kernel_rfl) (by kernel_rfl) (by kernel_rfl) ?_ ?_
                    · refine ordE_go [own4 (ptr0 s.r 0) s.vb s.vu s.vd s.vl] [7, 15, 22, 24] [9, 10, 17, 18, 25, 26, 27] [] [0, 1, 2, 3, 4, 5, 6, 7, 8, 11, 12, 13, 14, 15, 16, 19, 20, 21, 22, 23, 24, 9, 10, 25, 17, 18, 26, 27, 28, 29, 30, 31, 32, 33, 34, 35, 36, 37, 38] (by kernel_rfl) (by kernel_rfl) (by kernel_rfl) ?_
                      refine field_ptr ?_
                      refine field_ptr ?_
                      refine lookD (v := s.vb) ⟨mM, trivial⟩ rfl (lookE4 0 rfl (by decide)) ?_
                      refine field_ptr ?_
                      refine field_ptr ?_
                      refine lookD (v := s.vu) ⟨mM, trivial⟩ rfl (lookE4 1 rfl (by decide)) ?_
                      refine field_ptr ?_
                      refine lookD (v := s.vl) ⟨mM, trivial⟩ rfl (lookE4 3 rfl (by decide)) ?_
                      refine lookD (v := .int .i64 a.length) ⟨mM, trivial⟩ rfl (fun _ _ _ => len_eq hsv rfl) ?_
                      refine buildSlice_fact (size := 1) (n := 1) [sb' i] [.one (sb' i)] rfl rfl (by decide) (by decide) ⟨Reads.one hrow.one, rfl, trivial⟩ fun q1 => ?_
                      refine eGo ⟨mM, trivial⟩ ?_
                      first | refine append_one (size := 1) (n := i) (el' := fun y => [Dat.one (sb' i)].getD y (.one undef)) (e' := fun y => .one (sb' y)) 4 rfl hs.vb (Knw.fact mM) eb (by omega) (by omega) fun vb' hvb' => ?_ | refine append_one (size := 1) (n := i) (el' := fun y => [Dat.one (sb' i)].getD y (.one undef)) (e' := fun y => .one (sb' y)) 5 rfl hs.vb (Knw.fact mM) eb (by omega) (by omega) fun vb' hvb' => ?_
                      refine eGo ⟨mM, trivial⟩ ?_
                      refine make_rule (t := 36) (d := I false []) a.length rfl rfl (by omega) (by omega) fun lr hlr => ?_
                      refine eGo ⟨mM, trivial⟩ ?_
                      refine buildSlice_fact (size := 1) (n := 1) [su' i] [.one (su' i)] rfl rfl (by decide) (by decide) ⟨Reads.one hone.one, rfl, trivial⟩ fun q2 => ?_
                      refine eGo ⟨mM, trivial⟩ ?_
                      first | refine append_one (size := 1) (n := i) (el' := fun y => [Dat.one (su' i)].getD y (.one undef)) (e' := fun y => .one (su' y)) 6 rfl hs.vu (Knw.fact mM) eu (by omega) (by omega) fun vu' hvu' => ?_ | refine append_one (size := 1) (n := i) (el' := fun y => [Dat.one (su' i)].getD y (.one undef)) (e' := fun y => .one (su' y)) 7 rfl hs.vu (Knw.fact mM) eu (by omega) (by omega) fun vu' hvu' => ?_
                      refine eGo ⟨mM, trivial⟩ ?_
                      refine buildSlice_fact (size := 1) (n := 1) [lr] [.one lr] rfl rfl (by decide) (by decide) ⟨Reads.one hlr.one, rfl, trivial⟩ fun q3 => ?_
                      refine eGo ⟨mM, trivial⟩ ?_
                      refine append_one (size := 1) (n := i) (el' := fun y => [Dat.one lr].getD y (.one undef)) (e' := fun y => .one (if y < i then s.sl y else lr)) 10 rfl hs.vl (Knw.fact mM) (fun y _ => by by_cases e : y < i <;> simp [e]) (by omega) (by omega) fun vl' hvl' => ?_
                      refine eGo ⟨mM, trivial⟩ ?_
                      refine field_ptr ?_
                      refine field_ptr ?_
                      refine store4 3 0 rfl rfl (by decide) hvb'.one (by kernel_rfl) ?_
                      refine field_ptr ?_
                      refine field_ptr ?_
                      refine store4 3 1 rfl rfl (by decide) hvu'.one (by kernel_rfl) ?_
                      refine field_ptr ?_
                      refine store4 3 3 rfl rfl (by decide) hvl'.one (by kernel_rfl) ?_
                      exact again (lr, vb', vu', vl') ⟨hlr, hvb', hvu', hvl'⟩ trivial mF (Seals.sub (fun F hF => by repeat (first | exact hF | apply List.Mem.tail)))
                    · refine ordE_go [own4 (ptr0 s.r 0) s.vb s.vu s.vd s.vl] [7, 15, 22, 24] [9, 10, 17, 18, 25, 26, 27] [] [0, 1, 2, 3, 4, 5, 6, 7, 8, 11, 12, 13, 14, 15, 16, 19, 20, 21, 22, 23, 24, 9, 10, 25, 17, 26, 18, 27, 28, 29, 30, 31, 32, 33, 34, 35, 36, 37, 38] (by kernel_rfl) (by kernel_rfl) (by kernel_rfl) ?_
                      refine field_ptr ?_
                      refine field_ptr ?_
                      refine lookD (v := s.vb) ⟨mM, trivial⟩ rfl (lookE4 0 rfl (by decide)) ?_
                      refine field_ptr ?_
                      refine field_ptr ?_
                      refine lookD (v := s.vu) ⟨mM, trivial⟩ rfl (lookE4 1 rfl (by decide)) ?_
                      refine field_ptr ?_
                      refine lookD (v := s.vl) ⟨mM, trivial⟩ rfl (lookE4 3 rfl (by decide)) ?_
                      refine lookD (v := .int .i64 a.length) ⟨mM, trivial⟩ rfl (fun _ _ _ => len_eq hsv rfl) ?_
                      refine buildSlice_fact (size := 1) (n := 1) [sb' i] [.one (sb' i)] rfl rfl (by decide) (by decide) ⟨Reads.one hrow.one, rfl, trivial⟩ fun q1 => ?_
                      refine eGo ⟨mM, trivial⟩ ?_
                      first | refine append_one (size := 1) (n := i) (el' := fun y => [Dat.one (sb' i)].getD y (.one undef)) (e' := fun y => .one (sb' y)) 4 rfl hs.vb (Knw.fact mM) eb (by omega) (by omega) fun vb' hvb' => ?_ | refine append_one (size := 1) (n := i) (el' := fun y => [Dat.one (sb' i)].getD y (.one undef)) (e' := fun y => .one (sb' y)) 5 rfl hs.vb (Knw.fact mM) eb (by omega) (by omega) fun vb' hvb' => ?_
                      refine eGo ⟨mM, trivial⟩ ?_
                      refine make_rule (t := 36) (d := I false []) a.length rfl rfl (by omega) (by omega) fun lr hlr => ?_
                      refine eGo ⟨mM, trivial⟩ ?_
                      refine buildSlice_fact (size := 1) (n := 1) [su' i] [.one (su' i)] rfl rfl (by decide) (by decide) ⟨Reads.one hone.one, rfl, trivial⟩ fun q2 => ?_
                      refine eGo ⟨mM, trivial⟩ ?_
                      refine buildSlice_fact (size := 1) (n := 1) [lr] [.one lr] rfl rfl (by decide) (by decide) ⟨Reads.one hlr.one, rfl, trivial⟩ fun q3 => ?_
                      refine eGo ⟨mM, trivial⟩ ?_
                      first | refine append_one (size := 1) (n := i) (el' := fun y => [Dat.one (su' i)].getD y (.one undef)) (e' := fun y => .one (su' y)) 6 rfl hs.vu (Knw.fact mM) eu (by omega) (by omega) fun vu' hvu' => ?_ | refine append_one (size := 1) (n := i) (el' := fun y => [Dat.one (su' i)].getD y (.one undef)) (e' := fun y => .one (su' y)) 7 rfl hs.vu (Knw.fact mM) eu (by omega) (by omega) fun vu' hvu' => ?_
                      refine eGo ⟨mM, trivial⟩ ?_
                      refine append_one (size := 1) (n := i) (el' := fun y => [Dat.one lr].getD y (.one undef)) (e' := fun y => .one (if y < i then s.sl y else lr)) 10 rfl hs.vl (Knw.fact mM) (fun y _ => by by_cases e : y < i <;> simp [e]) (by omega) (by omega) fun vl' hvl' => ?_
                      refine eGo ⟨mM, trivial⟩ ?_
                      refine field_ptr ?_
                      refine field_ptr ?_
                      refine store4 3 0 rfl rfl (by decide) hvb'.one (by kernel_rfl) ?_
                      refine field_ptr ?_
                      refine field_ptr ?_
                      refine store4 3 1 rfl rfl (by decide) hvu'.one (by kernel_rfl) ?_
                      refine field_ptr ?_
                      refine store4 3 3 rfl rfl (by decide) hvl'.one (by kernel_rfl) ?_
                      exact again (lr, vb', vu', vl') ⟨hlr, hvb', hvu', hvl'⟩ trivial mF (Seals.sub (fun F hF => by repeat (first | exact hF | apply List.Mem.tail)))
                  · refine ordE_go [own4 (ptr0 s.r 0) s.vb s.vu s.vd s.vl] [7, 15, 22, 24] [9, 10, 17, 18, 25, 26, 27] [] [0, 1, 2, 3, 4, 5, 6, 7, 8, 11, 12, 13, 14, 15, 16, 19, 20, 21, 22, 23, 24, 9, 10, 25, 26, 17, 18, 27, 28, 29, 30, 31, 32, 33, 34, 35, 36, 37, 38] (by kernel_rfl) (by kernel_rfl) (by kernel_rfl) ?_
                    refine field_ptr ?_
                    refine field_ptr ?_
                    refine lookD (v := s.vb) ⟨mM, trivial⟩ rfl (lookE4 0 rfl (by decide)) ?_
                    refine field_ptr ?_
                    refine field_ptr ?_
                    refine lookD (v := s.vu) ⟨mM, trivial⟩ rfl (lookE4 1 rfl (by decide)) ?_
                    refine field_ptr ?_
                    refine lookD (v := s.vl) ⟨mM, trivial⟩ rfl (lookE4 3 rfl (by decide)) ?_
                    refine lookD (v := .int .i64 a.length) ⟨mM, trivial⟩ rfl (fun _ _ _ => len_eq hsv rfl) ?_
                    refine buildSlice_fact (size := 1) (n := 1) [sb' i] [.one (sb' i)] rfl rfl (by decide) (by decide) ⟨Reads.one hrow.one, rfl, trivial⟩ fun q1 => ?_
                    refine eGo ⟨mM, trivial⟩ ?_
                    first | refine append_one (size := 1) (n := i) (el' := fun y => [Dat.one (sb' i)].getD y (.one undef)) (e' := fun y => .one (sb' y)) 4 rfl hs.vb (Knw.fact mM) eb (by omega) (by omega) fun vb' hvb' => ?_ | refine append_one (size := 1) (n := i) (el' := fun y => [Dat.one (sb' i)].getD y (.one undef)) (e' := fun y => .one (sb' y)) 5 rfl hs.vb (Knw.fact mM) eb (by omega) (by omega) fun vb' hvb' => ?_
                    refine eGo ⟨mM, trivial⟩ ?_
                    refine make_rule (t := 36) (d := I false []) a.length rfl rfl (by omega) (by omega) fun lr hlr => ?_
                    refine eGo ⟨mM, trivial⟩ ?_
                    refine buildSlice_fact (size := 1) (n := 1) [lr] [.one lr] rfl rfl (by decide) (by decide) ⟨Reads.one hlr.one, rfl, trivial⟩ fun q3 => ?_
                    refine eGo ⟨mM, trivial⟩ ?_
                    refine buildSlice_fact (size := 1) (n := 1) [su' i] [.one (su' i)] rfl rfl (by decide) (by decide) ⟨Reads.one hone.one, rfl, trivial⟩ fun q2 => ?_
                    refine eGo ⟨mM, trivial⟩ ?_
                    first | refine append_one (size := 1) (n := i) (el' := fun y => [Dat.one (su' i)].getD y (.one undef)) (e' := fun y => .one (su' y)) 6 rfl hs.vu (Knw.fact mM) eu (by omega) (by omega) fun vu' hvu' => ?_ | refine append_one (size := 1) (n := i) (el' := fun y => [Dat.one (su' i)].getD y (.one undef)) (e' := fun y => .one (su' y)) 7 rfl hs.vu (Knw.fact mM) eu (by omega) (by omega) fun vu' hvu' => ?_
                    refine eGo ⟨mM, trivial⟩ ?_
                    refine append_one (size := 1) (n := i) (el' := fun y => [Dat.one lr].getD y (.one undef)) (e' := fun y => .one (if y < i then s.sl y else lr)) 10 rfl hs.vl (Knw.fact mM) (fun y _ => by by_cases e : y < i <;> simp [e]) (by omega) (by omega) fun vl' hvl' => ?_
                    refine eGo ⟨mM, trivial⟩ ?_
                    refine field_ptr ?_
                    refine field_ptr ?_
                    refine store4 3 0 rfl rfl (by decide) hvb'.one (by kernel_rfl) ?_
                    refine field_ptr ?_
                    refine field_ptr ?_
                    refine store4 3 1 rfl rfl (by decide) hvu'.one (by kernel_rfl) ?_
                    refine field_ptr ?_
                    refine store4 3 3 rfl rfl (by decide) hvl'.one (by kernel_rfl) ?_
                    exact again (lr, vb', vu', vl') ⟨hlr, hvb', hvu', hvl'⟩ trivial mF (Seals.sub (fun F hF => by repeat (first | exact hF | apply List.Mem.tail)))
              · refine ord_split 10 26 (by kernel_rfl) (by kernel_rfl) (by kernel_rfl) ?_ ?_
                · refine ord_split 17 26 (by kernel_rfl) (by kernel_rfl) (by kernel_rfl) ?_ ?_
                  · refine ord_split 18 26 (by kernel_rfl) (by kernel_rfl) (by kernel_rfl) ?_ ?_
                    · refine ordE_go [own4 (ptr0 s.r 0) s.vb s.vu s.vd s.vl] [7, 15, 22, 24] [9, 10, 17, 18, 25, 26, 27] [] [0, 1, 2, 3, 4, 5, 6, 7, 8, 11, 12, 13, 14, 15, 16, 19, 20, 21, 22, 23, 24, 9, 25, 10, 17, 18, 26, 27, 28, 29, 30, 31, 32, 33, 34, 35, 36, 37, 38] (by kernel_rfl) (by kernel_rfl) (by kernel_rfl) ?_
                      refine field_ptr ?_
                      refine field_ptr ?_
                      refine lookD (v := s.vb) ⟨mM, trivial⟩ rfl (lookE4 0 rfl (by decide)) ?_
                      refine field_ptr ?_
                      refine field_ptr ?_
                      refine lookD (v := s.vu) ⟨mM, trivial⟩ rfl (lookE4 1 rfl (by decide)) ?_
                      refine field_ptr ?_
                      refine lookD (v := s.vl) ⟨mM, trivial⟩ rfl (lookE4 3 rfl (by decide)) ?_
                      refine lookD (v := .int .i64 a.length) ⟨mM, trivial⟩ rfl (fun _ _ _ => len_eq hsv rfl) ?_
                      refine buildSlice_fact (size := 1) (n := 1) [sb' i] [.one (sb' i)] rfl rfl (by decide) (by decide) ⟨Reads.one hrow.one, rfl, trivial⟩ fun q1 => ?_
                      refine eGo ⟨mM, trivial⟩ ?_
                      refine make_rule (t := 36) (d := I false []) a.length rfl rfl (by omega) (by omega) fun lr hlr => ?_
                      refine eGo ⟨mM, trivial⟩ ?_
                      first | refine append_one (size := 1) (n := i) (el' := fun y => [Dat.one (sb' i)].getD y (.one undef)) (e' := fun y => .one (sb' y)) 4 rfl hs.vb (Knw.fact mM) eb (by omega) (by omega) fun vb' hvb' => ?_ | refine append_one (size := 1) (n := i) (el' := fun y => [Dat.one (sb' i)].getD y (.one undef)) (e' := fun y => .one (sb' y)) 5 rfl hs.vb (Knw.fact mM) eb (by omega) (by omega) fun vb' hvb' => ?_
                      refine eGo ⟨mM, trivial⟩ ?_
                      refine buildSlice_fact (size := 1) (n := 1) [su' i] [.one (su' i)] rfl rfl (by decide) (by decide) ⟨Reads.one hone.one, rfl, trivial⟩ fun q2 => ?_
                      refine eGo ⟨mM, trivial⟩ ?_
                      first | refine append_one (size := 1) (n := i) (el' := fun y => [Dat.one (su' i)].getD y (.one undef)) (e' := fun y => .one (su' y)) 6 rfl hs.vu (Knw.fact mM) eu (by omega) (by omega) fun vu' hvu' => ?_ | refine append_one (size := 1) (n := i) (el' := fun y => [Dat.one (su' i)].getD y (.one undef)) (e' := fun y => .one (su' y)) 7 rfl hs.vu (Knw.fact mM) eu (by omega) (by omega) fun vu' hvu' => ?_
                      refine eGo ⟨mM, trivial⟩ ?_
                      refine buildSlice_fact (size := 1) (n := 1) [lr] [.one lr] rfl rfl (by decide) (by decide) ⟨Reads.one hlr.one, rfl, trivial⟩ fun q3 => ?_
                      refine eGo ⟨mM, trivial⟩ ?_
                      refine append_one (size := 1) (n := i) (el' := fun y => [Dat.one lr].getD y (.one undef)) (e' := fun y => .one (if y < i then s.sl y else lr)) 10 rfl hs.vl (Knw.fact mM) (fun y _ => by by_cases e : y < i <;> simp [e]) (by omega) (by omega) fun vl' hvl' => ?_
                      refine eGo ⟨mM, trivial⟩ ?_
                      refine field_ptr ?_
                      refine field_ptr ?_
                      refine store4 3 0 rfl rfl (by decide) hvb'.one (by kernel_rfl) ?_
                      refine field_ptr ?_
                      refine field_ptr ?_
                      refine store4 3 1 rfl rfl (by decide) hvu'.one (by kernel_rfl) ?_
                      refine field_ptr ?_
                      refine store4 3 3 rfl rfl (by decide) hvl'.one (by kernel_rfl) ?_
                      exact again (lr, vb', vu', vl') ⟨hlr, hvb', hvu', hvl'⟩ trivial mF (Seals.sub (fun F hF => by repeat (first | exact hF | apply List.Mem.tail)))
                    · refine ordE_go [own4 (ptr0 s.r 0) s.vb s.vu s.vd s.vl] [7, 15, 22, 24] [9, 10, 17, 18, 25, 26, 27] [] [0, 1, 2, 3, 4, 5, 6, 7, 8, 11, 12, 13, 14, 15, 16, 19, 20, 21, 22, 23, 24, 9, 25, 10, 17, 26, 18, 27, 28, 29, 30, 31, 32, 33, 34, 35, 36, 37, 38] (by kernel_rfl) (by kernel_rfl) (by kernel_rfl) ?_
                      refine field_ptr ?_
                      refine field_ptr ?_
                      refine lookD (v := s.vb) ⟨mM, trivial⟩ rfl (lookE4 0 rfl (by decide)) ?_
                      refine field_ptr ?_
                      refine field_ptr ?_
                      refine lookD (v := s.vu) ⟨mM, trivial⟩ rfl (lookE4 1 rfl (by decide)) ?_
                      refine field_ptr ?_
                      refine lookD (v := s.vl) ⟨mM, trivial⟩ rfl (lookE4 3 rfl (by decide)) ?_
                      refine lookD (v := .int .i64 a.length) ⟨mM, trivial⟩ rfl (fun _ _ _ => len_eq hsv rfl) ?_
                      refine buildSlice_fact (size := 1) (n := 1) [sb' i] [.one (sb' i)] rfl rfl (by decide) (by decide) ⟨Reads.one hrow.one, rfl, trivial⟩ fun q1 => ?_
                      refine eGo ⟨mM, trivial⟩ ?_
                      refine make_rule (t := 36) (d := I false []) a.length rfl rfl (by omega) (by omega) fun lr hlr => ?_
                      refine eGo ⟨mM, trivial⟩ ?_
                      first | refine append_one (size := 1) (n := i) (el' := fun y => [Dat.one (sb' i)].getD y (.one undef)) (e' := fun y => .one (sb' y)) 4 rfl hs.vb (Knw.fact mM) eb (by omega) (by omega) fun vb' hvb' => ?_ | refine append_one (size := 1) (n := i) (el' := fun y => [Dat.one (sb' i)].getD y (.one undef)) (e' := fun y => .one (sb' y)) 5 rfl hs.vb (Knw.fact mM) eb (by omega) (by omega) fun vb' hvb' => ?_
                      refine eGo ⟨mM, trivial⟩ ?_
                      refine buildSlice_fact (size := 1) (n := 1) [su' i] [.one (su' i)] rfl rfl (by decide) (by decide) ⟨Reads.one hone.one, rfl, trivial⟩ fun q2 => ?_
                      refine eGo ⟨mM, trivial⟩ ?_
                      refine buildSlice_fact (size := 1) (n := 1) [lr] [.one lr] rfl rfl (by decide) (by decide) ⟨Reads.one hlr.one, rfl, trivial⟩ fun q3 => ?_
                      refine eGo ⟨mM, trivial⟩ ?_
                      first | refine append_one (size := 1) (n := i) (el' := fun y => [Dat.one (su' i)].getD y (.one undef)) (e' := fun y => .one (su' y)) 6 rfl hs.vu (Knw.fact mM) eu (by omega) (by omega) fun vu' hvu' => ?_ | refine append_one (size := 1) (n := i) (el' := fun y => [Dat.one (su' i)].getD y (.one undef)) (e' := fun y => .one (su' y)) 7 rfl hs.vu (Knw.fact mM) eu (by omega) (by omega) fun vu' hvu' => ?_
                      refine eGo ⟨mM, trivial⟩ ?_
                      refine append_one (size := 1) (n := i) (el' := fun y => [Dat.one lr].getD y (.one undef)) (e' := fun y => .one (if y < i then s.sl y else lr)) 10 rfl hs.vl (Knw.fact mM) (fun y _ => by by_cases e : y < i <;> simp [e]) (by omega) (by omega) fun vl' hvl' => ?_
                      refine eGo ⟨mM, trivial⟩ ?_
                      refine field_ptr ?_
                      refine field_ptr ?_
                      refine store4 3 0 rfl rfl (by decide) hvb'.one (by kernel_rfl) ?_
                      refine field_ptr ?_
                      refine field_ptr ?_
                      refine store4 3 1 rfl rfl (by decide) hvu'.one (by kernel_rfl) ?_
                      refine field_ptr ?_
                      refine store4 3 3 rfl rfl (by decide) hvl'.one (by kernel_rfl) ?_
                      exact again (lr, vb', vu', vl') ⟨hlr, hvb', hvu', hvl'⟩ trivial mF (Seals.sub (fun F hF => by repeat (first | exact hF | apply List.Mem.tail)))
                  · refine ordE_go [own4 (ptr0 s.r 0) s.vb s.vu s.vd s.vl] [7, 15, 22, 24] [9, 10, 17, 18, 25, 26, 27] [] [0, 1, 2, 3, 4, 5, 6, 7, 8, 11, 12, 13, 14, 15, 16, 19, 20, 21, 22, 23, 24, 9, 25, 10, 26, 17, 18, 27, 28, 29, 30, 31, 32, 33, 34, 35, 36, 37, 38] (by kernel_rfl) (by kernel_rfl) (by kernel_rfl) ?_
                    refine field_ptr ?_
                    refine field_ptr ?_
                    refine lookD (v := s.vb) ⟨mM, trivial⟩ rfl (lookE4 0 rfl (by decide)) ?_
                    refine field_ptr ?_
                    refine field_ptr ?_
                    refine lookD (v := s.vu) ⟨mM, trivial⟩ rfl (lookE4 1 rfl (by decide)) ?_
                    refine field_ptr ?_
                    refine lookD (v := s.vl) ⟨mM, trivial⟩ rfl (lookE4 3 rfl (by decide)) ?_
                    refine lookD (v := .int .i64 a.length) ⟨mM, trivial⟩ rfl (fun _ _ _ => len_eq hsv rfl) ?_
                    refine buildSlice_fact (size := 1) (n := 1) [sb' i] [.one (sb' i)] rfl rfl (by decide) (by decide) ⟨Reads.one hrow.one, rfl, trivial⟩ fun q1 => ?_
                    refine eGo ⟨mM, trivial⟩ ?_
                    refine make_rule (t := 36) (d := I false []) a.length rfl rfl (by omega) (by omega) fun lr hlr => ?_
                    refine eGo ⟨mM, trivial⟩ ?_
                    first | refine append_one (size := 1) (n := i) (el' := fun y => [Dat.one (sb' i)].getD y (.one undef)) (e' := fun y => .one (sb' y)) 4 rfl hs.vb (Knw.fact mM) eb (by omega) (by omega) fun vb' hvb' => ?_ | refine append_one (size := 1) (n := i) (el' := fun y => [Dat.one (sb' i)].getD y (.one undef)) (e' := fun y => .one (sb' y)) 5 rfl hs.vb (Knw.fact mM) eb (by omega) (by omega) fun vb' hvb' => ?_
                    refine eGo ⟨mM, trivial⟩ ?_
                    refine buildSlice_fact (size := 1) (n := 1) [lr] [.one lr] rfl rfl (by decide) (by decide) ⟨Reads.one hlr.one, rfl, trivial⟩ fun q3 => ?_
                    refine eGo ⟨mM, trivial⟩ ?_
                    refine buildSlice_fact (size := 1) (n := 1) [su' i] [.one (su' i)] rfl rfl (by decide) (by decide) ⟨Reads.one hone.one, rfl, trivial⟩ fun q2 => ?_
                    refine eGo ⟨mM, trivial⟩ ?_
                    first | refine append_one (size := 1) (n := i) (el' := fun y => [Dat.one (su' i)].getD y (.one undef)) (e' := fun y => .one (su' y)) 6 rfl hs.vu (Knw.fact mM) eu (by omega) (by omega) fun vu' hvu' => ?_ | refine append_one (size := 1) (n := i) (el' := fun y => [Dat.one (su' i)].getD y (.one undef)) (e' := fun y => .one (su' y)) 7 rfl hs.vu (Knw.fact mM) eu (by omega) (by omega) fun vu' hvu' => ?_
                    refine eGo ⟨mM, trivial⟩ ?_
                    refine append_one (size := 1) (n := i) (el' := fun y => [Dat.one lr].getD y (.one undef)) (e' := fun y => .one (if y < i then s.sl y else lr)) 10 rfl hs.vl (Knw.fact mM) (fun y _ => by by_cases e : y < i <;> simp [e]) (by omega) (by omega) fun vl' hvl' => ?_
                    refine eGo ⟨mM, trivial⟩ ?_
                    refine field_ptr ?_
                    refine field_ptr ?_
                    refine store4 3 0 rfl rfl (by decide) hvb'.one (by kernel_rfl) ?_
                    refine field_ptr ?_
                    refine field_ptr ?_
                    refine store4 3 1 rfl rfl (by decide) hvu'.one (by kernel_rfl) ?_
                    refine field_ptr ?_
                    refine store4 3 3 rfl rfl (by decide) hvl'.one (by kernel_rfl) ?_
                    exact again (lr, vb', vu', vl') ⟨hlr, hvb', hvu', hvl'⟩ trivial mF (Seals.sub (fun F hF => by repeat (first | exact hF | apply List.Mem.tail)))
                · refine ordE_go [own4 (ptr0 s.r 0) s.vb s.vu s.vd s.vl] [7, 15, 22, 24] [9, 10, 17, 18, 25, 26, 27] [] [0, 1, 2, 3, 4, 5, 6, 7, 8, 11, 12, 13, 14, 15, 16, 19, 20, 21, 22, 23, 24, 9, 25, 26, 10, 17, 18, 27, 28, 29, 30, 31, 32, 33, 34, 35, 36, 37, 38] (by kernel_rfl) (by kernel_rfl) (by kernel_rfl) ?_
                  refine field_ptr ?_
                  refine field_ptr ?_
                  refine lookD (v := s.vb) ⟨mM, trivial⟩ rfl (lookE4 0 rfl (by decide)) ?_
                  refine field_ptr ?_
                  refine field_ptr ?_
                  refine lookD (v := s.vu) ⟨mM, trivial⟩ rfl (lookE4 1 rfl (by decide)) ?_
                  refine field_ptr ?_
                  refine lookD (v := s.vl) ⟨mM, trivial⟩ rfl (lookE4 3 rfl (by decide)) ?_
                  refine lookD (v := .int .i64 a.length) ⟨mM, trivial⟩ rfl (fun _ _ _ => len_eq hsv rfl) ?_
                  refine buildSlice_fact (size := 1) (n := 1) [sb' i] [.one (sb' i)] rfl rfl (by decide) (by decide) ⟨Reads.one hrow.one, rfl, trivial⟩ fun q1 => ?_
                  refine eGo ⟨mM, trivial⟩ ?_
                  refine make_rule (t := 36) (d := I false []) a.length rfl rfl (by omega) (by omega) fun lr hlr => ?_
                  refine eGo ⟨mM, trivial⟩ ?_
                  refine buildSlice_fact (size := 1) (n := 1) [lr] [.one lr] rfl rfl (by decide) (by decide) ⟨Reads.one hlr.one, rfl, trivial⟩ fun q3 => ?_
                  refine eGo ⟨mM, trivial⟩ ?_
                  first | refine append_one (size := 1) (n := i) (el' := fun y => [Dat.one (sb' i)].getD y (.one undef)) (e' := fun y => .one (sb' y)) 4 rfl hs.vb (Knw.fact mM) eb (by omega) (by omega) fun vb' hvb' => ?_ | refine append_one (size := 1) (n := i) (el' := fun y => [Dat.one (sb' i)].getD y (.one undef)) (e' := fun y => .one (sb' y)) 5 rfl hs.vb (Knw.fact mM) eb (by omega) (by omega) fun vb' hvb' => ?_
                  refine eGo ⟨mM, trivial⟩ ?_
                  refine buildSlice_fact (size := 1) (n := 1) [su' i] [.one (su' i)] rfl rfl (by decide) (by decide) ⟨Reads.one hone.one, rfl, trivial⟩ fun q2 => ?_
                  refine eGo ⟨mM, trivial⟩ ?_
                  first | refine append_one (size := 1) (n := i) (el' := fun y => [Dat.one (su' i)].getD y (.one undef)) (e' := fun y => .one (su' y)) 6 rfl hs.vu (Knw.fact mM) eu (by omega) (by omega) fun vu' hvu' => ?_ | refine append_one (size := 1) (n := i) (el' := fun y => [Dat.one (su' i)].getD y (.one undef)) (e' := fun y => .one (su' y)) 7 rfl hs.vu (Knw.fact mM) eu (by omega) (by omega) fun vu' hvu' => ?_
                  refine eGo ⟨mM, trivial⟩ ?_
                  refine append_one (size := 1) (n := i) (el' := fun y => [Dat.one lr].getD y (.one undef)) (e' := fun y => .one (if y < i then s.sl y else lr)) 10 rfl hs.vl (Knw.fact mM) (fun y _ => by by_cases e : y < i <;> simp [e]) (by omega) (by omega) fun vl' hvl' => ?_
                  refine eGo ⟨mM, trivial⟩ ?_
                  refine field_ptr ?_
                  refine field_ptr ?_
                  refine store4 3 0 rfl rfl (by decide) hvb'.one (by kernel_rfl) ?_
                  refine field_ptr ?_
                  refine field_ptr ?_
                  refine store4 3 1 rfl rfl (by decide) hvu'.one (by kernel_rfl) ?_
                  refine field_ptr ?_
                  refine store4 3 3 rfl rfl (by decide) hvl'.one (by kernel_rfl) ?_
                  exact again (lr, vb', vu', vl') ⟨hlr, hvb', hvu', hvl'⟩ trivial mF (Seals.sub (fun F hF => by repeat (first | exact hF | apply List.Mem.tail)))
            · refine ord_split 10 25 (by kernel_rfl) (by kernel_rfl) (by kernel_rfl) ?_ ?_
              · refine ord_split 18 25 (by kernel_rfl) (by kernel_rfl) (by kernel_rfl) ?_ ?_
                · refine ordE_go [own4 (ptr0 s.r 0) s.vb s.vu s.vd s.vl] [7, 15, 22, 24] [9, 10, 17, 18, 25, 26, 27] [] [0, 1, 2, 3, 4, 5, 6, 7, 8, 11, 12, 13, 14, 15, 16, 19, 20, 21, 22, 23, 24, 9, 17, 10, 18, 25, 26, 27, 28, 29, 30, 31, 32, 33, 34, 35, 36, 37, 38] (by kernel_rfl) (by kernel_rfl) (by kernel_rfl) ?_
                  refine field_ptr ?_
                  refine field_ptr ?_
                  refine lookD (v := s.vb) ⟨mM, trivial⟩ rfl (lookE4 0 rfl (by decide)) ?_
                  refine field_ptr ?_
                  refine field_ptr ?_
                  refine lookD (v := s.vu) ⟨mM, trivial⟩ rfl (lookE4 1 rfl (by decide)) ?_
                  refine field_ptr ?_
                  refine lookD (v := s.vl) ⟨mM, trivial⟩ rfl (lookE4 3 rfl (by decide)) ?_
                  refine lookD (v := .int .i64 a.length) ⟨mM, trivial⟩ rfl (fun _ _ _ => len_eq hsv rfl) ?_
                  refine buildSlice_fact (size := 1) (n := 1) [sb' i] [.one (sb' i)] rfl rfl (by decide) (by decide) ⟨Reads.one hrow.one, rfl, trivial⟩ fun q1 => ?_
                  refine eGo ⟨mM, trivial⟩ ?_
                  refine buildSlice_fact (size := 1) (n := 1) [su' i] [.one (su' i)] rfl rfl (by decide) (by decide) ⟨Reads.one hone.one, rfl, trivial⟩ fun q2 => ?_
                  refine eGo ⟨mM, trivial⟩ ?_
                  first | refine append_one (size := 1) (n := i) (el' := fun y => [Dat.one (sb' i)].getD y (.one undef)) (e' := fun y => .one (sb' y)) 4 rfl hs.vb (Knw.fact mM) eb (by omega) (by omega) fun vb' hvb' => ?_ | refine append_one (size := 1) (n := i) (el' := fun y => [Dat.one (sb' i)].getD y (.one undef)) (e' := fun y => .one (sb' y)) 5 rfl hs.vb (Knw.fact mM) eb (by omega) (by omega) fun vb' hvb' => ?_
                  refine eGo ⟨mM, trivial⟩ ?_
                  first | refine append_one (size := 1) (n := i) (el' := fun y => [Dat.one (su' i)].getD y (.one undef)) (e' := fun y => .one (su' y)) 6 rfl hs.vu (Knw.fact mM) eu (by omega) (by omega) fun vu' hvu' => ?_ | refine append_one (size := 1) (n := i) (el' := fun y => [Dat.one (su' i)].getD y (.one undef)) (e' := fun y => .one (su' y)) 7 rfl hs.vu (Knw.fact mM) eu (by omega) (by omega) fun vu' hvu' => ?_
                  refine eGo ⟨mM, trivial⟩ ?_
                  refine make_rule (t := 36) (d := I false []) a.length rfl rfl (by omega) (by omega) fun lr hlr => ?_
                  refine eGo ⟨mM, trivial⟩ ?_
                  refine buildSlice_fact (size := 1) (n := 1) [lr] [.one lr] rfl rfl (by decide) (by decide) ⟨Reads.one hlr.one, rfl, trivial⟩ fun q3 => ?_
                  refine eGo ⟨mM, trivial⟩ ?_
                  refine append_one (size := 1) (n := i) (el' := fun y => [Dat.one lr].getD y (.one undef)) (e' := fun y => .one (if y < i then s.sl y else lr)) 10 rfl hs.vl (Knw.fact mM) (fun y _ => by by_cases e : y < i <;> simp [e]) (by omega) (by omega) fun vl' hvl' => ?_
                  refine eGo ⟨mM, trivial⟩ ?_
                  refine field_ptr ?_
                  refine field_ptr ?_
                  refine store4 3 0 rfl rfl (by decide) hvb'.one (by kernel_rfl) ?_
                  refine field_ptr ?_
                  refine field_ptr ?_
                  refine store4 3 1 rfl rfl (by decide) hvu'.one (by kernel_rfl) ?_
                  refine field_ptr ?_
                  refine store4 3 3 rfl rfl (by decide) hvl'.one (by kernel_rfl) ?_
                  exact again (lr, vb', vu', vl') ⟨hlr, hvb', hvu', hvl'⟩ trivial mF (Seals.sub (fun F hF => by repeat (first | exact hF | apply List.Mem.tail)))
                · refine ord_split 18 26 (by kernel_rfl) (by kernel_rfl) (by kernel_rfl) ?_ ?_
                  · refine ordE_go [own4 (ptr0 s.r 0) s.vb s.vu s.vd s.vl] [7, 15, 22, 24] [9, 10, 17, 18, 25, 26, 27] [] [0, 1, 2, 3, 4, 5, 6, 7, 8, 11, 12, 13, 14, 15, 16, 19, 20, 21, 22, 23, 24, 9, 17, 10, 25, 18, 26, 27, 28, 29, 30, 31, 32, 33, 34, 35, 36, 37, 38] (by kernel_rfl) (by kernel_rfl) (by kernel_rfl) ?_
                    refine field_ptr ?_
                    refine field_ptr ?_
                    refine lookD (v := s.vb) ⟨mM, trivial⟩ rfl (lookE4 0 rfl (by decide)) ?_
                    refine field_ptr ?_
                    refine field_ptr ?_
                    refine lookD (v := s.vu) ⟨mM, trivial⟩ rfl (lookE4 1 rfl (by decide)) ?_
                    refine field_ptr ?_
                    refine lookD (v := s.vl) ⟨mM, trivial⟩ rfl (lookE4 3 rfl (by decide)) ?_
                    refine lookD (v := .int .i64 a.length) ⟨mM, trivial⟩ rfl (fun _ _ _ => len_eq hsv rfl) ?_
                    refine buildSlice_fact (size := 1) (n := 1) [sb' i] [.one (sb' i)] rfl rfl (by decide) (by decide) ⟨Reads.one hrow.one, rfl, trivial⟩ fun q1 => ?_
                    refine eGo ⟨mM, trivial⟩ ?_
                    refine buildSlice_fact (size := 1) (n := 1) [su' i] [.one (su' i)] rfl rfl (by decide) (by decide) ⟨Reads.one hone.one, rfl, trivial⟩ fun q2 => ?_
                    refine eGo ⟨mM, trivial⟩ ?_
                    first | refine append_one (size := 1) (n := i) (el' := fun y => [Dat.one (sb' i)].getD y (.one undef)) (e' := fun y => .one (sb' y)) 4 rfl hs.vb (Knw.fact mM) eb (by omega) (by omega) fun vb' hvb' => ?_ | refine append_one (size := 1) (n := i) (el' := fun y => [Dat.one (sb' i)].getD y (.one undef)) (e' := fun y => .one (sb' y)) 5 rfl hs.vb (Knw.fact mM) eb (by omega) (by omega) fun vb' hvb' => ?_
                    refine eGo ⟨mM, trivial⟩ ?_
                    refine make_rule (t := 36) (d := I false []) a.length rfl rfl (by omega) (by omega) fun lr hlr => ?_
                    refine eGo ⟨mM, trivial⟩ ?_
                    first | refine append_one (size := 1) (n := i) (el' := fun y => [Dat.one (su' i)].getD y (.one undef)) (e' := fun y => .one (su' y)) 6 rfl hs.vu (Knw.fact mM) eu (by omega) (by omega) fun vu' hvu' => ?_ | refine append_one (size := 1) (n := i) (el' := fun y => [Dat.one (su' i)].getD y (.one undef)) (e' := fun y => .one (su' y)) 7 rfl hs.vu (Knw.fact mM) eu (by omega) (by omega) fun vu' hvu' => ?_
                    refine eGo ⟨mM, trivial⟩ ?_
                    refine buildSlice_fact (size := 1) (n := 1) [lr] [.one lr] rfl rfl (by decide) (by decide) ⟨Reads.one hlr.one, rfl, trivial⟩ fun q3 => ?_
                    refine eGo ⟨mM, trivial⟩ ?_
                    refine append_one (size := 1) (n := i) (el' := fun y => [Dat.one lr].getD y (.one undef)) (e' := fun y => .one (if y < i then s.sl y else lr)) 10 rfl hs.vl (Knw.fact mM) (fun y _ => by by_cases e : y < i <;> simp [e]) (by omega) (by omega) fun vl' hvl' => ?_
                    refine eGo ⟨mM, trivial⟩ ?_
                    refine field_ptr ?_
                    refine field_ptr ?_
                    refine store4 3 0 rfl rfl (by decide) hvb'.one (by kernel_rfl) ?_
                    refine field_ptr ?_
                    refine field_ptr ?_
                    refine store4 3 1 rfl rfl (by decide) hvu'.one (by kernel_rfl) ?_
                    refine field_ptr ?_
                    refine store4 3 3 rfl rfl (by decide) hvl'.one (by kernel_rfl) ?_
                    exact again (lr, vb', vu', vl') ⟨hlr, hvb', hvu', hvl'⟩ trivial mF (Seals.sub (fun F hF => by repeat (first | exact hF | apply List.Mem.tail)))
                  · refine ordE_go [own4 (ptr0 s.r 0) s.vb s.vu s.vd s.vl] [7, 15, 22, 24] [9, 10, 17, 18, 25, 26, 27] [] [0, 1, 2, 3, 4, 5, 6, 7, 8, 11, 12, 13, 14, 15, 16, 19, 20, 21, 22, 23, 24, 9, 17, 10, 25, 26, 18, 27, 28, 29, 30, 31, 32, 33, 34, 35, 36, 37, 38] (by kernel_rfl) (by kernel_rfl) (by kernel_rfl) ?_
                    refine field_ptr ?_
                    refine field_ptr ?_
                    refine lookD (v := s.vb) ⟨mM, trivial⟩ rfl (lookE4 0 rfl (by decide)) ?_
                    refine field_ptr ?_
                    refine field_ptr ?_
                    refine lookD (v := s.vu) ⟨mM, trivial⟩ rfl (lookE4 1 rfl (by decide)) ?_
                    refine field_ptr ?_
                    refine lookD (v := s.vl) ⟨mM, trivial⟩ rfl (lookE4 3 rfl (by decide)) ?_
                    refine lookD (v := .int .i64 a.length) ⟨mM, trivial⟩ rfl (fun _ _ _ => len_eq hsv rfl) ?_
                    refine buildSlice_fact (size := 1) (n := 1) [sb' i] [.one (sb' i)] rfl rfl (by decide) (by decide) ⟨Reads.one hrow.one, rfl, trivial⟩ fun q1 => ?_
                    refine eGo ⟨mM, trivial⟩ ?_
                    refine buildSlice_fact (size := 1) (n := 1) [su' i] [.one (su' i)] rfl rfl (by decide) (by decide) ⟨Reads.one hone.one, rfl, trivial⟩ fun q2 => ?_
                    refine eGo ⟨mM, trivial⟩ ?_
                    first | refine append_one (size := 1) (n := i) (el' := fun y => [Dat.one (sb' i)].getD y (.one undef)) (e' := fun y => .one (sb' y)) 4 rfl hs.vb (Knw.fact mM) eb (by omega) (by omega) fun vb' hvb' => ?_ | refine append_one (size := 1) (n := i) (el' := fun y => [Dat.one (sb' i)].getD y (.one undef)) (e' := fun y => .one (sb' y)) 5 rfl hs.vb (Knw.fact mM) eb (by omega) (by omega) fun vb' hvb' => ?_
                    refine eGo ⟨mM, trivial⟩ ?_
                    refine make_rule (t := 36) (d := I false []) a.length rfl rfl (by omega) (by omega) fun lr hlr => ?_
                    refine eGo ⟨mM, trivial⟩ ?_
                    refine buildSlice_fact (size := 1) (n := 1) [lr] [.one lr] rfl rfl (by decide) (by decide) ⟨Reads.one hlr.one, rfl, trivial⟩ fun q3 => ?_
                    refine eGo ⟨mM, trivial⟩ ?_
                    first | refine append_one (size := 1) (n := i) (el' := fun y => [Dat.one (su' i)].getD y (.one undef)) (e' := fun y => .one (su' y)) 6 rfl hs.vu (Knw.fact mM) eu (by omega) (by omega) fun vu' hvu' => ?_ | refine append_one (size := 1) (n := i) (el' := fun y => [Dat.one (su' i)].getD y (.one undef)) (e' := fun y => .one (su' y)) 7 rfl hs.vu (Knw.fact mM) eu (by omega) (by omega) fun vu' hvu' => ?_
                    refine eGo ⟨mM, trivial⟩ ?_
                    refine append_one (size := 1) (n := i) (el' := fun y => [Dat.one lr].getD y (.one undef)) (e' := fun y => .one (if y < i then s.sl y else lr)) 10 rfl hs.vl (Knw.fact mM) (fun y _ => by by_cases e : y < i <;> simp [e]) (by omega) (by omega) fun vl' hvl' => ?_
                    refine eGo ⟨mM, trivial⟩ ?_
                    refine field_ptr ?_
                    refine field_ptr ?_
                    refine store4 3 0 rfl rfl (by decide) hvb'.one (by kernel_rfl) ?_
                    refine field_ptr ?_
                    refine field_ptr ?_
                    refine store4 3 1 rfl rfl (by decide) hvu'.one (by kernel_rfl) ?_
                    refine field_ptr ?_
                    refine store4 3 3 rfl rfl (by decide) hvl'.one (by kernel_rfl) ?_
                    exact again (lr, vb', vu', vl') ⟨hlr, hvb', hvu', hvl'⟩ trivial mF (Seals.sub (fun F hF => by repeat (first | exact hF | apply List.Mem.tail)))
              · refine ord_split 10 26 (by kernel_rfl) (by kernel_rfl) (by kernel_rfl) ?_ ?_
                · refine ord_split 17 25 (by kernel_rfl) (by kernel_rfl) (by kernel_rfl) ?_ ?_
                  · refine ord_split 18 26 (by kernel_rfl) (by kernel_rfl) (by kernel_rfl) ?_ ?_
                    · refine ordE_go [own4 (ptr0 s.r 0) s.vb s.vu s.vd s.vl] [7, 15, 22, 24] [9, 10, 17, 18, 25, 26, 27] [] [0, 1, 2, 3, 4, 5, 6, 7, 8, 11, 12, 13, 14, 15, 16, 19, 20, 21, 22, 23, 24, 9, 17, 25, 10, 18, 26, 27, 28, 29, 30, 31, 32, 33, 34, 35, 36, 37, 38] (by kernel_rfl) (by kernel_rfl) (by kernel_rfl) ?_
                      refine field_ptr ?_
                      refine field_ptr ?_
                      refine lookD (v := s.vb) ⟨mM, trivial⟩ rfl (lookE4 0 rfl (by decide)) ?_
                      refine field_ptr ?_
                      refine field_ptr ?_
                      refine lookD (v := s.vu) ⟨mM, trivial⟩ rfl (lookE4 1 rfl (by decide)) ?_
                      refine field_ptr ?_
                      refine lookD (v := s.vl) ⟨mM, trivial⟩ rfl (lookE4 3 rfl (by decide)) ?_
                      refine lookD (v := .int .i64 a.length) ⟨mM, trivial⟩ rfl (fun _ _ _ => len_eq hsv rfl) ?_
                      refine buildSlice_fact (size := 1) (n := 1) [sb' i] [.one (sb' i)] rfl rfl (by decide) (by decide) ⟨Reads.one hrow.one, rfl, trivial⟩ fun q1 => ?_
                      refine eGo ⟨mM, trivial⟩ ?_
                      refine buildSlice_fact (size := 1) (n := 1) [su' i] [.one (su' i)] rfl rfl (by decide) (by decide) ⟨Reads.one hone.one, rfl, trivial⟩ fun q2 => ?_
                      refine eGo ⟨mM, trivial⟩ ?_
                      refine make_rule (t := 36) (d := I false []) a.length rfl rfl (by omega) (by omega) fun lr hlr => ?_
                      refine eGo ⟨mM, trivial⟩ ?_
                      first | refine append_one (size := 1) (n := i) (el' := fun y => [Dat.one (sb' i)].getD y (.one undef)) (e' := fun y => .one (sb' y)) 4 rfl hs.vb (Knw.fact mM) eb (by omega) (by omega) fun vb' hvb' => ?_ | refine append_one (size := 1) (n := i) (el' := fun y => [Dat.one (sb' i)].getD y (.one undef)) (e' := fun y => .one (sb' y)) 5 rfl hs.vb (Knw.fact mM) eb (by omega) (by omega) fun vb' hvb' => ?_
                      refine eGo ⟨mM, trivial⟩ ?_
                      first | refine append_one (size := 1) (n := i) (el' := fun y => [Dat.one (su' i)].getD y (.one undef)) (e' := fun y => .one (su' y)) 6 rfl hs.vu (Knw.fact mM) eu (by omega) (by omega) fun vu' hvu' => ?_ | refine append_one (size := 1) (n := i) (el' := fun y => [Dat.one (su' i)].getD y (.one undef)) (e' := fun y => .one (su' y)) 7 rfl hs.vu (Knw.fact mM) eu (by omega) (by omega) fun vu' hvu' => ?_
                      refine eGo ⟨mM, trivial⟩ ?_
                      refine buildSlice_fact (size := 1) (n := 1) [lr] [.one lr] rfl rfl (by decide) (by decide) ⟨Reads.one hlr.one, rfl, trivial⟩ fun q3 => ?_
                      refine eGo ⟨mM, trivial⟩ ?_
                      refine append_one (size := 1) (n := i) (el' := fun y => [Dat.one lr].getD y (.one undef)) (e' := fun y => .one (if y < i then s.sl y else lr)) 10 rfl hs.vl (Knw.fact mM) (fun y _ => by by_cases e : y < i <;> simp [e]) (by omega) (by omega) fun vl' hvl' => ?_
                      refine eGo ⟨mM, trivial⟩ ?_
                      refine field_ptr ?_
                      refine field_ptr ?_
                      refine store4 3 0 rfl rfl (by decide) hvb'.one (by kernel_rfl) ?_
                      refine field_ptr ?_
                      refine field_ptr ?_
                      refine store4 3 1 rfl rfl (by decide) hvu'.one (by kernel_rfl) ?_
                      refine field_ptr ?_
                      refine store4 3 3 rfl rfl (by decide) hvl'.one (by kernel_rfl) ?_
                      exact again (lr, vb', vu', vl') ⟨hlr, hvb', hvu', hvl'⟩ trivial mF (Seals.sub (fun F hF => by repeat (first | exact hF | apply List.Mem.tail)))
                    · refine ordE_go [own4 (ptr0 s.r 0) s.vb s.vu s.vd s.vl] [7, 15, 22, 24] [9, 10, 17, 18, 25, 26, 27] [] [0, 1, 2, 3, 4, 5, 6, 7, 8, 11, 12, 13, 14, 15, 16, 19, 20, 21, 22, 23, 24, 9, 17, 25, 10, 26, 18, 27, 28, 29, 30, 31, 32, 33, 34, 35, 36, 37, 38] (by kernel_rfl) (by kernel_rfl) (by kernel_rfl) ?_
                      refine field_ptr ?_
                      refine field_ptr ?_
                      refine lookD (v := s.vb) ⟨mM, trivial⟩ rfl (lookE4 0 rfl (by decide)) ?_
                      refine field_ptr ?_
                      refine field_ptr ?_
                      refine lookD (v := s.vu) ⟨mM, trivial⟩ rfl (lookE4 1 rfl (by decide)) ?_
                      refine field_ptr ?_
                      refine lookD (v := s.vl) ⟨mM, trivial⟩ rfl (lookE4 3 rfl (by decide)) ?_
                      refine lookD (v := .int .i64 a.length) ⟨mM, trivial⟩ rfl (fun _ _ _ => len_eq hsv rfl) ?_
                      refine buildSlice_fact (size := 1) (n := 1) [sb' i] [.one (sb' i)] rfl rfl (by decide) (by decide) ⟨Reads.one hrow.one, rfl, trivial⟩ fun q1 => ?_
                      refine eGo ⟨mM, trivial⟩ ?_
                      refine buildSlice_fact (size := 1) (n := 1) [su' i] [.one (su' i)] rfl rfl (by decide) (by decide) ⟨Reads.one hone.one, rfl, trivial⟩ fun q2 => ?_
                      refine eGo ⟨mM, trivial⟩ ?_
                      refine make_rule (t := 36) (d := I false []) a.length rfl rfl (by omega) (by omega) fun lr hlr => ?_
                      refine eGo ⟨mM, trivial⟩ ?_
                      first | refine append_one (size := 1) (n := i) (el' := fun y => [Dat.one (sb' i)].getD y (.one undef)) (e' := fun y => .one (sb' y)) 4 rfl hs.vb (Knw.fact mM) eb (by omega) (by omega) fun vb' hvb' => ?_ | refine append_one (size := 1) (n := i) (el' := fun y => [Dat.one (sb' i)].getD y (.one undef)) (e' := fun y => .one (sb' y)) 5 rfl hs.vb (Knw.fact mM) eb (by omega) (by omega) fun vb' hvb' => ?_
                      refine eGo ⟨mM, trivial⟩ ?_
                      refine buildSlice_fact (size := 1) (n := 1) [lr] [.one lr] rfl rfl (by decide) (by decide) ⟨Reads.one hlr.one, rfl, trivial⟩ fun q3 => ?_
                      refine eGo ⟨mM, trivial⟩ ?_
                      first | refine append_one (size := 1) (n := i) (el' := fun y => [Dat.one (su' i)].getD y (.one undef)) (e' := fun y => .one (su' y)) 6 rfl hs.vu (Knw.fact mM) eu (by omega) (by omega) fun vu' hvu' => ?_ | refine append_one (size := 1) (n := i) (el' := fun y => [Dat.one (su' i)].getD y (.one undef)) (e' := fun y => .one (su' y)) 7 rfl hs.vu (Knw.fact mM) eu (by omega) (by omega) fun vu' hvu' => ?_
                      refine eGo ⟨mM, trivial⟩ ?_
                      refine append_one (size := 1) (n := i) (el' := fun y => [Dat.one lr].getD y (.one undef)) (e' := fun y => .one (if y < i then s.sl y else lr)) 10 rfl hs.vl (Knw.fact mM) (fun y _ => by by_cases e : y < i <;> simp [e]) (by omega) (by omega) fun vl' hvl' => ?_
                      refine eGo ⟨mM, trivial⟩ ?_
                      refine field_ptr ?_
                      refine field_ptr ?_
                      refine store4 3 0 rfl rfl (by decide) hvb'.one (by kernel_rfl) ?_
                      refine field_ptr ?_
                      refine field_ptr ?_
                      refine store4 3 1 rfl rfl (by decide) hvu'.one (by kernel_rfl) ?_
                      refine field_ptr ?_
                      refine store4 3 3 rfl rfl (by decide) hvl'.one (by kernel_rfl) ?_
                      exact again (lr, vb', vu', vl') ⟨hlr, hvb', hvu', hvl'⟩ trivial mF (Seals.sub (fun F hF => by repeat (first | exact hF | apply List.Mem.tail)))
                  · refine ord_split 18 26 (by kernel_rfl) (by kernel_rfl) (by kernel_rfl) ?_ ?_
                    · refine ordE_go [own4 (ptr0 s.r 0) s.vb s.vu s.vd s.vl] [7, 15, 22, 24] [9, 10, 17, 18, 25, 26, 27] [] [0, 1, 2, 3, 4, 5, 6, 7, 8, 11, 12, 13, 14, 15, 16, 19, 20, 21, 22, 23, 24, 9, 25, 17, 10, 18, 26, 27, 28, 29, 30, 31, 32, 33, 34, 35, 36, 37, 38] (by kernel_rfl) (by kernel_rfl) (by kernel_rfl) ?_
                      refine field_ptr ?_
                      refine field_ptr ?_
                      refine lookD (v := s.vb) ⟨mM, trivial⟩ rfl (lookE4 0 rfl (by decide)) ?_
                      refine field_ptr ?_
                      refine field_ptr ?_
                      refine lookD (v := s.vu) ⟨mM, trivial⟩ rfl (lookE4 1 rfl (by decide)) ?_
                      refine field_ptr ?_
                      refine lookD (v := s.vl) ⟨mM, trivial⟩ rfl (lookE4 3 rfl (by decide)) ?_
                      refine lookD (v := .int .i64 a.length) ⟨mM, trivial⟩ rfl (fun _ _ _ => len_eq hsv rfl) ?_
                      refine buildSlice_fact (size := 1) (n := 1) [sb' i] [.one (sb' i)] rfl rfl (by decide) (by decide) ⟨Reads.one hrow.one, rfl, trivial⟩ fun q1 => ?_
                      refine eGo ⟨mM, trivial⟩ ?_
                      refine make_rule (t := 36) (d := I false []) a.length rfl rfl (by omega) (by omega) fun lr hlr => ?_
                      refine eGo ⟨mM, trivial⟩ ?_
                      refine buildSlice_fact (size := 1) (n := 1) [su' i] [.one (su' i)] rfl rfl (by decide) (by decide) ⟨Reads.one hone.one, rfl, trivial⟩ fun q2 => ?_
                      refine eGo ⟨mM, trivial⟩ ?_
                      first | refine append_one (size := 1) (n := i) (el' := fun y => [Dat.one (sb' i)].getD y (.one undef)) (e' := fun y => .one (sb' y)) 4 rfl hs.vb (Knw.fact mM) eb (by omega) (by omega) fun vb' hvb' => ?_ | refine append_one (size := 1) (n := i) (el' := fun y => [Dat.one (sb' i)].getD y (.one undef)) (e' := fun y => .one (sb' y)) 5 rfl hs.vb (Knw.fact mM) eb (by omega) (by omega) fun vb' hvb' => ?_
                      refine eGo ⟨mM, trivial⟩ ?_
                      first | refine append_one (size := 1) (n := i) (el' := fun y => [Dat.one (su' i)].getD y (.one undef)) (e' := fun y => .one (su' y)) 6 rfl hs.vu (Knw.fact mM) eu (by omega) (by omega) fun vu' hvu' => ?_ | refine append_one (size := 1) (n := i) (el' := fun y => [Dat.one (su' i)].getD y (.one undef)) (e' := fun y => .one (su' y)) 7 rfl hs.vu (Knw.fact mM) eu (by omega) (by omega) fun vu' hvu' => ?_
                      refine eGo ⟨mM, trivial⟩ ?_
                      refine buildSlice_fact (size := 1) (n := 1) [lr] [.one lr] rfl rfl (by decide) (by decide) ⟨Reads.one hlr.one, rfl, trivial⟩ fun q3 => ?_
                      refine eGo ⟨mM, trivial⟩ ?_
                      refine append_one (size := 1) (n := i) (el' := fun y => [Dat.one lr].getD y (.one undef)) (e' := fun y => .one (if y < i then s.sl y else lr)) 10 rfl hs.vl (Knw.fact mM) (fun y _ => by by_cases e : y < i <;> simp [e]) (by omega) (by omega) fun vl' hvl' => ?_
                      refine eGo ⟨mM, trivial⟩ ?_
                      refine field_ptr ?_
                      refine field_ptr ?_
                      refine store4 3 0 rfl rfl (by decide) hvb'.one (by kernel_rfl) ?_
                      refine field_ptr ?_
                      refine field_ptr ?_
                      refine store4 3 1 rfl rfl (by decide) hvu'.one (by kernel_rfl) ?_
                      refine field_ptr ?_
                      refine store4 3 3 rfl rfl (by decide) hvl'.one (by kernel_rfl) ?_
                      exact again (lr, vb', vu', vl') ⟨hlr, hvb', hvu', hvl'⟩ trivial mF (Seals.sub (fun F hF => by repeat (first | exact hF | apply List.Mem.tail)))
                    · refine ordE_go [own4 (ptr0 s.r 0) s.vb s.vu s.vd s.vl] [7, 15, 22, 24] [9, 10, 17, 18, 25, 26, 27] [] [0, 1, 2, 3, 4, 5, 6, 7, 8, 11, 12, 13, 14, 15, 16, 19, 20, 21, 22, 23, 24, 9, 25, 17, 10, 26, 18, 27, 28, 29, 30, 31, 32, 33, 34, 35, 36, 37, 38] (by kernel_rfl) (by kernel_rfl) (by kernel_rfl) ?_
                      refine field_ptr ?_
                      refine field_ptr ?_
                      refine lookD (v := s.vb) ⟨mM, trivial⟩ rfl (lookE4 0 rfl (by decide)) ?_
                      refine field_ptr ?_
                      refine field_ptr ?_
                      refine lookD (v := s.vu) ⟨mM, trivial⟩ rfl (lookE4 1 rfl (by decide)) ?_
                      refine field_ptr ?_
                      refine lookD (v := s.vl) ⟨mM, trivial⟩ rfl (lookE4 3 rfl (by decide)) ?_
                      refine lookD (v := .int .i64 a.length) ⟨mM, trivial⟩ rfl (fun _ _ _ => len_eq hsv rfl) ?_
                      refine buildSlice_fact (size := 1) (n := 1) [sb' i] [.one (sb' i)] rfl rfl (by decide) (by decide) ⟨Reads.one hrow.one, rfl, trivial⟩ fun q1 => ?_
                      refine eGo ⟨mM, trivial⟩ ?_
                      refine make_rule (t := 36) (d := I false []) a.length rfl rfl (by omega) (by omega) fun lr hlr => ?_
                      refine eGo ⟨mM, trivial⟩ ?_
                      refine buildSlice_fact (size := 1) (n := 1) [su' i] [.one (su' i)] rfl rfl (by decide) (by decide) ⟨Reads.one hone.one, rfl, trivial⟩ fun q2 => ?_
                      refine eGo ⟨mM, trivial⟩ ?_
                      first | refine append_one (size := 1) (n := i) (el' := fun y => [Dat.one (sb' i)].getD y (.one undef)) (e' := fun y => .one (sb' y)) 4 rfl hs.vb (Knw.fact mM) eb (by omega) (by omega) fun vb' hvb' => ?_ | refine append_one (size := 1) (n := i) (el' := fun y => [Dat.one (sb' i)].getD y (.one undef)) (e' := fun y => .one (sb' y)) 5 rfl hs.vb (Knw.fact mM) eb (by omega) (by omega) fun vb' hvb' => ?_
                      refine eGo ⟨mM, trivial⟩ ?_
                      refine buildSlice_fact (size := 1) (n := 1) [lr] [.one lr] rfl rfl (by decide) (by decide) ⟨Reads.one hlr.one, rfl, trivial⟩ fun q3 => ?_
                      refine eGo ⟨mM, trivial⟩ ?_
                      first | refine append_one (size := 1) (n := i) (el' := fun y => [Dat.one (su' i)].getD y (.one undef)) (e' := fun y => .one (su' y)) 6 rfl hs.vu (Knw.fact mM) eu (by omega) (by omega) fun vu' hvu' => ?_ | refine append_one (size := 1) (n := i) (el' := fun y => [Dat.one (su' i)].getD y (.one undef)) (e' := fun y => .one (su' y)) 7 rfl hs.vu (Knw.fact mM) eu (by omega) (by omega) fun vu' hvu' => ?_
                      refine eGo ⟨mM, trivial⟩ ?_
                      refine append_one (size := 1) (n := i) (el' := fun y => [Dat.one lr].getD y (.one undef)) (e' := fun y => .one (if y < i then s.sl y else lr)) 10 rfl hs.vl (Knw.fact mM) (fun y _ => by by_cases e : y < i <;> simp [e]) (by omega) (by omega) fun vl' hvl' => ?_
                      refine eGo ⟨mM, trivial⟩ ?_
                      refine field_ptr ?_
                      refine field_ptr ?_
                      refine store4 3 0 rfl rfl (by decide) hvb'.one (by kernel_rfl) ?_
                      refine field_ptr ?_
                      refine field_ptr ?_
                      refine store4 3 1 rfl rfl (by decide) hvu'.one (by kernel_rfl) ?_
                      refine field_ptr ?_
                      refine store4 3 3 rfl rfl (by decide) hvl'.one (by kernel_rfl) ?_
                      exact again (lr, vb', vu', vl') ⟨hlr, hvb', hvu', hvl'⟩ trivial mF (Seals.sub (fun F hF => by repeat (first | exact hF | apply List.Mem.tail)))
                · refine ord_split 17 25 (by kernel_rfl) (by kernel_rfl) (by kernel_rfl) ?_ ?_
                  · refine ordE_go [own4 (ptr0 s.r 0) s.vb s.vu s.vd s.vl] [7, 15, 22, 24] [9, 10, 17, 18, 25, 26, 27] [] [0, 1, 2, 3, 4, 5, 6, 7, 8, 11, 12, 13, 14, 15, 16, 19, 20, 21, 22, 23, 24, 9, 17, 25, 26, 10, 18, 27, 28, 29, 30, 31, 32, 33, 34, 35, 36, 37, 38] (by kernel_rfl) (by kernel_rfl) (by kernel_rfl) ?_
                    refine field_ptr ?_
                    refine field_ptr ?_
                    refine lookD (v := s.vb) ⟨mM, trivial⟩ rfl (lookE4 0 rfl (by decide)) ?_
                    refine field_ptr ?_
                    refine field_ptr ?_
                    refine lookD (v := s.vu) ⟨mM, trivial⟩ rfl (lookE4 1 rfl (by decide)) ?_
                    refine field_ptr ?_
                    refine lookD (v := s.vl) ⟨mM, trivial⟩ rfl (lookE4 3 rfl (by decide)) ?_
                    refine lookD (v := .int .i64 a.length) ⟨mM, trivial⟩ rfl (fun _ _ _ => len_eq hsv rfl) ?_
                    refine buildSlice_fact (size := 1) (n := 1) [sb' i] [.one (sb' i)] rfl rfl (by decide) (by decide) ⟨Reads.one hrow.one, rfl, trivial⟩ fun q1 => ?_
                    refine eGo ⟨mM, trivial⟩ ?_
                    refine buildSlice_fact (size := 1) (n := 1) [su' i] [.one (su' i)] rfl rfl (by decide) (by decide) ⟨Reads.one hone.one, rfl, trivial⟩ fun q2 => ?_
                    refine eGo ⟨mM, trivial⟩ ?_
                    refine make_rule (t := 36) (d := I false []) a.length rfl rfl (by omega) (by omega) fun lr hlr => ?_
                    refine eGo ⟨mM, trivial⟩ ?_
                    refine buildSlice_fact (size := 1) (n := 1) [lr] [.one lr] rfl rfl (by decide) (by decide) ⟨Reads.one hlr.one, rfl, trivial⟩ fun q3 => ?_
                    refine eGo ⟨mM, trivial⟩ ?_
                    first | refine append_one (size := 1) (n := i) (el' := fun y => [Dat.one (sb' i)].getD y (.one undef)) (e' := fun y => .one (sb' y)) 4 rfl hs.vb (Knw.fact mM) eb (by omega) (by omega) fun vb' hvb' => ?_ | refine append_one (size := 1) (n := i) (el' := fun y => [Dat.one (sb' i)].getD y (.one undef)) (e' := fun y => .one (sb' y)) 5 rfl hs.vb (Knw.fact mM) eb (by omega) (by omega) fun vb' hvb' => ?_
                    refine eGo ⟨mM, trivial⟩ ?_
                    first | refine append_one (size := 1) (n := i) (el' := fun y => [Dat.one (su' i)].getD y (.one undef)) (e' := fun y => .one (su' y)) 6 rfl hs.vu (Knw.fact mM) eu (by omega) (by omega) fun vu' hvu' => ?_ | refine append_one (size := 1) (n := i) (el' := fun y => [Dat.one (su' i)].getD y (.one undef)) (e' := fun y => .one (su' y)) 7 rfl hs.vu (Knw.fact mM) eu (by omega) (by omega) fun vu' hvu' => ?_
                    refine eGo ⟨mM, trivial⟩ ?_
                    refine append_one (size := 1) (n := i) (el' := fun y => [Dat.one lr].getD y (.one undef)) (e' := fun y => .one (if y < i then s.sl y else lr)) 10 rfl hs.vl (Knw.fact mM) (fun y _ => by by_cases e : y < i <;> simp [e]) (by omega) (by omega) fun vl' hvl' => ?_
                    refine eGo ⟨mM, trivial⟩ ?_
                    refine field_ptr ?_
                    refine field_ptr ?_
                    refine store4 3 0 rfl rfl (by decide) hvb'.one (by kernel_rfl) ?_
                    refine field_ptr ?_
                    refine field_ptr ?_
                    refine store4 3 1 rfl rfl (by decide) hvu'.one (by kernel_rfl) ?_
                    refine field_ptr ?_
                    refine store4 3 3 rfl rfl (by decide) hvl'.one (by kernel_rfl) ?_
                    exact again (lr, vb', vu', vl') ⟨hlr, hvb', hvu', hvl'⟩ trivial mF (Seals.sub (fun F hF => by repeat (first | exact hF | apply List.Mem.tail)))
                  · refine ord_split 17 26 (by kernel_rfl) (by kernel_rfl) (by kernel_rfl) ?_ ?_
                    · refine ordE_go [own4 (ptr0 s.r 0) s.vb s.vu s.vd s.vl] [7, 15, 22, 24] [9, 10, 17, 18, 25, 26, 27] [] [0, 1, 2, 3, 4, 5, 6, 7, 8, 11, 12, 13, 14, 15, 16, 19, 20, 21, 22, 23, 24, 9, 25, 17, 26, 10, 18, 27, 28, 29, 30, 31, 32, 33, 34, 35, 36, 37, 38] (by kernel_rfl) (by kernel_rfl) (by kernel_rfl) ?_
                      refine field_ptr ?_
                      refine field_ptr ?_
                      refine lookD (v := s.vb) ⟨mM, trivial⟩ rfl (lookE4 0 rfl (by decide)) ?_
                      refine field_ptr ?_
                      refine field_ptr ?_
                      refine lookD (v := s.vu) ⟨mM, trivial⟩ rfl (lookE4 1 rfl (by decide)) ?_
                      refine field_ptr ?_
                      refine lookD (v := s.vl) ⟨mM, trivial⟩ rfl (lookE4 3 rfl (by decide)) ?_
                      refine lookD (v := .int .i64 a.length) ⟨mM, trivial⟩ rfl (fun _ _ _ => len_eq hsv rfl) ?_
                      refine buildSlice_fact (size := 1) (n := 1) [sb' i] [.one (sb' i)] rfl rfl (by decide) (by decide) ⟨Reads.one hrow.one, rfl, trivial⟩ fun q1 => ?_
                      refine eGo ⟨mM, trivial⟩ ?_
                      refine make_rule (t := 36) (d := I false []) a.length rfl rfl (by omega) (by omega) fun lr hlr => ?_
                      refine eGo ⟨mM, trivial⟩ ?_
                      refine buildSlice_fact (size := 1) (n := 1) [su' i] [.one (su' i)] rfl rfl (by decide) (by decide) ⟨Reads.one hone.one, rfl, trivial⟩ fun q2 => ?_
                      refine eGo ⟨mM, trivial⟩ ?_
                      refine buildSlice_fact (size := 1) (n := 1) [lr] [.one lr] rfl rfl (by decide) (by decide) ⟨Reads.one hlr.one, rfl, trivial⟩ fun q3 => ?_
                      refine eGo ⟨mM, trivial⟩ ?_
                      first | refine append_one (size := 1) (n := i) (el' := fun y => [Dat.one (sb' i)].getD y (.one undef)) (e' := fun y => .one (sb' y)) 4 rfl hs.vb (Knw.fact mM) eb (by omega) (by omega) fun vb' hvb' => ?_ | refine append_one (size := 1) (n := i) (el' := fun y => [Dat.one (sb' i)].getD y (.one undef)) (e' := fun y => .one (sb' y)) 5 rfl hs.vb (Knw.fact mM) eb (by omega) (by omega) fun vb' hvb' => ?_
                      refine eGo ⟨mM, trivial⟩ ?_
                      first | refine append_one (size := 1) (n := i) (el' := fun y => [Dat.one (su' i)].getD y (.one undef)) (e' := fun y => .one (su' y)) 6 rfl hs.vu (Knw.fact mM) eu (by omega) (by omega) fun vu' hvu' => ?_ | refine append_one (size := 1) (n := i) (el' := fun y => [Dat.one (su' i)].getD y (.one undef)) (e' := fun y => .one (su' y)) 7 rfl hs.vu (Knw.fact mM) eu (by omega) (by omega) fun vu' hvu' => ?_
                      refine eGo ⟨mM, trivial⟩ ?_
                      refine append_one (size := 1) (n := i) (el' := fun y => [Dat.one lr].getD y (.one undef)) (e' := fun y => .one (if y < i then s.sl y else lr)) 10 rfl hs.vl (Knw.fact mM) (fun y _ => by by_cases e : y < i <;> simp [e]) (by omega) (by omega) fun vl' hvl' => ?_
                      refine eGo ⟨mM, trivial⟩ ?_
                      refine field_ptr ?_
                      refine field_ptr ?_
                      refine store4 3 0 rfl rfl (by decide) hvb'.one (by kernel_rfl) ?_
                      refine field_ptr ?_
                      refine field_ptr ?_
                      refine store4 3 1 rfl rfl (by decide) hvu'.one (by kernel_rfl) ?_
                      refine field_ptr ?_
                      refine store4 3 3 rfl rfl (by decide) hvl'.one (by kernel_rfl) ?_
                      exact again (lr, vb', vu', vl') ⟨hlr, hvb', hvu', hvl'⟩ trivial mF (Seals.sub (fun F hF => by repeat (first | exact hF | apply List.Mem.tail)))
                    · refine ordE_go [own4 (ptr0 s.r 0) s.vb s.vu s.vd s.vl] [7, 15, 22, 24] [9, 10, 17, 18, 25, 26, 27] [] [0, 1, 2, 3, 4, 5, 6, 7, 8, 11, 12, 13, 14, 15, 16, 19, 20, 21, 22, 23, 24, 9, 25, 26, 17, 10, 18, 27, 28, 29, 30, 31, 32, 33, 34, 35, 36, 37, 38] (by kernel_rfl) (by kernel_rfl) (by kernel_rfl) ?_
                      refine field_ptr ?_
                      refine field_ptr ?_
                      refine lookD (v := s.vb) ⟨mM, trivial⟩ rfl (lookE4 0 rfl (by decide)) ?_
                      refine field_ptr ?_
                      refine field_ptr ?_
                      refine lookD (v := s.vu) ⟨mM, trivial⟩ rfl (lookE4 1 rfl (by decide)) ?_
                      refine field_ptr ?_
                      refine lookD (v := s.vl) ⟨mM, trivial⟩ rfl (lookE4 3 rfl (by decide)) ?_
                      refine lookD (v := .int .i64 a.length) ⟨mM, trivial⟩ rfl (fun _ _ _ => len_eq hsv rfl) ?_
                      refine buildSlice_fact (size := 1) (n := 1) [sb' i] [.one (sb' i)] rfl rfl (by decide) (by decide) ⟨Reads.one hrow.one, rfl, trivial⟩ fun q1 => ?_
                      refine eGo ⟨mM, trivial⟩ ?_
                      refine make_rule (t := 36) (d := I false []) a.length rfl rfl (by omega) (by omega) fun lr hlr => ?_
                      refine eGo ⟨mM, trivial⟩ ?_
                      refine buildSlice_fact (size := 1) (n := 1) [lr] [.one lr] rfl rfl (by decide) (by decide) ⟨Reads.one hlr.one, rfl, trivial⟩ fun q3 => ?_
                      refine eGo ⟨mM, trivial⟩ ?_
                      refine buildSlice_fact (size := 1) (n := 1) [su' i] [.one (su' i)] rfl rfl (by decide) (by decide) ⟨Reads.one hone.one, rfl, trivial⟩ fun q2 => ?_
                      refine eGo ⟨mM, trivial⟩ ?_
                      first | refine append_one (size := 1) (n := i) (el' := fun y => [Dat.one (sb' i)].getD y (.one undef)) (e' := fun y => .one (sb' y)) 4 rfl hs.vb (Knw.fact mM) eb (by omega) (by omega) fun vb' hvb' => ?_ | refine append_one (size := 1) (n := i) (el' := fun y => [Dat.one (sb' i)].getD y (.one undef)) (e' := fun y => .one (sb' y)) 5 rfl hs.vb (Knw.fact mM) eb (by omega) (by omega) fun vb' hvb' => ?_
                      refine eGo ⟨mM, trivial⟩ ?_
                      first | refine append_one (size := 1) (n := i) (el' := fun y => [Dat.one (su' i)].getD y (.one undef)) (e' := fun y => .one (su' y)) 6 rfl hs.vu (Knw.fact mM) eu (by omega) (by omega) fun vu' hvu' => ?_ | refine append_one (size := 1) (n := i) (el' := fun y => [Dat.one (su' i)].getD y (.one undef)) (e' := fun y => .one (su' y)) 7 rfl hs.vu (Knw.fact mM) eu (by omega) (by omega) fun vu' hvu' => ?_
                      refine eGo ⟨mM, trivial⟩ ?_
                      refine append_one (size := 1) (n := i) (el' := fun y => [Dat.one lr].getD y (.one undef)) (e' := fun y => .one (if y < i then s.sl y else lr)) 10 rfl hs.vl (Knw.fact mM) (fun y _ => by by_cases e : y < i <;> simp [e]) (by omega) (by omega) fun vl' hvl' => ?_
                      refine eGo ⟨mM, trivial⟩ ?_
                      refine field_ptr ?_
                      refine field_ptr ?_
                      refine store4 3 0 rfl rfl (by decide) hvb'.one (by kernel_rfl) ?_
                      refine field_ptr ?_
                      refine field_ptr ?_
                      refine store4 3 1 rfl rfl (by decide) hvu'.one (by kernel_rfl) ?_
                      refine field_ptr ?_
                      refine store4 3 3 rfl rfl (by decide) hvl'.one (by kernel_rfl) ?_
                      exact again (lr, vb', vu', vl') ⟨hlr, hvb', hvu', hvl'⟩ trivial mF (Seals.sub (fun F hF => by repeat (first | exact hF | apply List.Mem.tail)))
          · refine ord_split 9 26 (by kernel_rfl) (by kernel_rfl) (by kernel_rfl) ?_ ?_
            · refine ord_split 10 17 (by kernel_rfl) (by kernel_rfl) (by kernel_rfl) ?_ ?_
              · refine ord_split 10 26 (by kernel_rfl) (by kernel_rfl) (by kernel_rfl) ?_ ?_
                · refine ord_split 17 26 (by kernel_rfl) (by kernel_rfl) (by kernel_rfl) ?_ ?_
                  · refine ord_split 18 26 (by kernel_rfl) (by kernel_rfl) (by kernel_rfl) ?_ ?_
                    · refine ordE_go [own4 (ptr0 s.r 0) s.vb s.vu s.vd s.vl] [7, 15, 22, 24] [9, 10, 17, 18, 25, 26, 27] [] [0, 1, 2, 3, 4, 5, 6, 7, 8, 11, 12, 13, 14, 15, 16, 19, 20, 21, 22, 23, 24, 25, 9, 10, 17, 18, 26, 27, 28, 29, 30, 31, 32, 33, 34, 35, 36, 37, 38] (by kernel_rfl) (by kernel_rfl) (by kernel_rfl) ?_
                      refine field_ptr ?_
                      refine field_ptr ?_
                      refine lookD (v := s.vb) ⟨mM, trivial⟩ rfl (lookE4 0 rfl (by decide)) ?_
                      refine field_ptr ?_
                      refine field_ptr ?_
                      refine lookD (v := s.vu) ⟨mM, trivial⟩ rfl (lookE4 1 rfl (by decide)) ?_
                      refine field_ptr ?_
                      refine lookD (v := s.vl) ⟨mM, trivial⟩ rfl (lookE4 3 rfl (by decide)) ?_
                      refine lookD (v := .int .i64 a.length) ⟨mM, trivial⟩ rfl (fun _ _ _ => len_eq hsv rfl) ?_
                      refine make_rule (t := 36) (d := I false []) a.length rfl rfl (by omega) (by omega) fun lr hlr => ?_
                      refine eGo ⟨mM, trivial⟩ ?_
                      refine buildSlice_fact (size := 1) (n := 1) [sb' i] [.one (sb' i)] rfl rfl (by decide) (by decide) ⟨Reads.one hrow.one, rfl, trivial⟩ fun q1 => ?_
                      refine eGo ⟨mM, trivial⟩ ?_
                      first | refine append_one (size := 1) (n := i) (el' := fun y => [Dat.one (sb' i)].getD y (.one undef)) (e' := fun y => .one (sb' y)) 4 rfl hs.vb (Knw.fact mM) eb (by omega) (by omega) fun vb' hvb' => ?_ | refine append_one (size := 1) (n := i) (el' := fun y => [Dat.one (sb' i)].getD y (.one undef)) (e' := fun y => .one (sb' y)) 5 rfl hs.vb (Knw.fact mM) eb (by omega) (by omega) fun vb' hvb' => ?_
                      refine eGo ⟨mM, trivial⟩ ?_
                      refine buildSlice_fact (size := 1) (n := 1) [su' i] [.one (su' i)] rfl rfl (by decide) (by decide) ⟨Reads.one hone.one, rfl, trivial⟩ fun q2 => ?_
                      refine eGo ⟨mM, trivial⟩ ?_
                      first | refine append_one (size := 1) (n := i) (el' := fun y => [Dat.one (su' i)].getD y (.one undef)) (e' := fun y => .one (su' y)) 6 rfl hs.vu (Knw.fact mM) eu (by omega) (by omega) fun vu' hvu' => ?_ | refine append_one (size := 1) (n := i) (el' := fun y => [Dat.one (su' i)].getD y (.one undef)) (e' := fun y => .one (su' y)) 7 rfl hs.vu (Knw.fact mM) eu (by omega) (by omega) fun vu' hvu' => ?_
                      refine eGo ⟨mM, trivial⟩ ?_
                      refine buildSlice_fact (size := 1) (n := 1) [lr] [.one lr] rfl rfl (by decide) (by decide) ⟨Reads.one hlr.one, rfl, trivial⟩ fun q3 => ?_
                      refine eGo ⟨mM, trivial⟩ ?_
                      refine append_one (size := 1) (n := i) (el' := fun y => [Dat.one lr].getD y (.one undef)) (e' := fun y => .one (if y < i then s.sl y else lr)) 10 rfl hs.vl (Knw.fact mM) (fun y _ => by by_cases e : y < i <;> simp [e]) (by omega) (by omega) fun vl' hvl' => ?_
                      refine eGo ⟨mM, trivial⟩ ?_
                      refine field_ptr ?_
                      refine field_ptr ?_
                      refine store4 3 0 rfl rfl (by decide) hvb'.one (by kernel_rfl) ?_
                      refine field_ptr ?_
                      refine field_ptr ?_
                      refine store4 3 1 rfl rfl (by decide) hvu'.one (by kernel_rfl) ?_
                      refine field_ptr ?_
                      refine store4 3 3 rfl rfl (by decide) hvl'.one (by kernel_rfl) ?_
                      exact again (lr, vb', vu', vl') ⟨hlr, hvb', hvu', hvl'⟩ trivial mF (Seals.sub (fun F hF => by repeat (first | exact hF | apply List.Mem.tail)))
                    · refine ordE_go [own4 (ptr0 s.r 0) s.vb s.vu s.vd s.vl] [7, 15, 22, 24] [9, 10, 17, 18, 25, 26, 27] [] [0, 1, 2, 3, 4, 5, 6, 7, 8, 11, 12, 13, 14, 15, 16, 19, 20, 21, 22, 23, 24, 25, 9, 10, 17, 26, 18, 27, 28, 29, 30, 31, 32, 33, 34, 35, 36, 37, 38] (by kernel_rfl) (by kernel_rfl) (by kernel_rfl) ?_
                      refine field_ptr ?_
                      refine field_ptr ?_
                      refine lookD (v := s.vb) ⟨mM, trivial⟩ rfl (lookE4 0 rfl (by decide)) ?_
                      refine field_ptr ?_
                      refine field_ptr ?_
                      refine lookD (v := s.vu) ⟨mM, trivial⟩ rfl (lookE4 1 rfl (by decide)) ?_
                      refine field_ptr ?_
                      refine lookD (v := s.vl) ⟨mM, trivial⟩ rfl (lookE4 3 rfl (by decide)) ?_
                      refine lookD (v := .int .i64 a.length) ⟨mM, trivial⟩ rfl (fun _ _ _ => len_eq hsv rfl) ?_
                      refine make_rule (t := 36) (d := I false []) a.length rfl rfl (by omega) (by omega) fun lr hlr => ?_
                      refine eGo ⟨mM, trivial⟩ ?_
                      refine buildSlice_fact (size := 1) (n := 1) [sb' i] [.one (sb' i)] rfl rfl (by decide) (by decide) ⟨Reads.one hrow.one, rfl, trivial⟩ fun q1 => ?_
                      refine eGo ⟨mM, trivial⟩ ?_
                      first | refine append_one (size := 1) (n := i) (el' := fun y => [Dat.one (sb' i)].getD y (.one undef)) (e' := fun y => .one (sb' y)) 4 rfl hs.vb (Knw.fact mM) eb (by omega) (by omega) fun vb' hvb' => ?_ | refine append_one (size := 1) (n := i) (el' := fun y => [Dat.one (sb' i)].getD y (.one undef)) (e' := fun y => .one (sb' y)) 5 rfl hs.vb (Knw.fact mM) eb (by omega) (by omega) fun vb' hvb' => ?_
                      refine eGo ⟨mM, trivial⟩ ?_
                      refine buildSlice_fact (size := 1) (n := 1) [su' i] [.one (su' i)] rfl rfl (by decide) (by decide) ⟨Reads.one hone.one, rfl, trivial⟩ fun q2 => ?_
                      refine eGo ⟨mM, trivial⟩ ?_
                      refine buildSlice_fact (size := 1) (n := 1) [lr] [.one lr] rfl rfl (by decide) (by decide) ⟨Reads.one hlr.one, rfl, trivial⟩ fun q3 => ?_
                      refine eGo ⟨mM, trivial⟩ ?_
                      first | refine append_one (size := 1) (n := i) (el' := fun y => [Dat.one (su' i)].getD y (.one undef)) (e' := fun y => .one (su' y)) 6 rfl hs.vu (Knw.fact mM) eu (by omega) (by omega) fun vu' hvu' => ?_ | refine append_one (size := 1) (n := i) (el' := fun y => [Dat.one (su' i)].getD y (.one undef)) (e' := fun y => .one (su' y)) 7 rfl hs.vu (Knw.fact mM) eu (by omega) (by omega) fun vu' hvu' => ?_
                      refine eGo ⟨mM, trivial⟩ ?_
                      refine append_one (size := 1) (n := i) (el' := fun y => [Dat.one lr].getD y (.one undef)) (e' := fun y => .one (if y < i then s.sl y else lr)) 10 rfl hs.vl (Knw.fact mM) (fun y _ => by by_cases e : y < i <;> simp [e]) (by omega) (by omega) fun vl' hvl' => ?_
                      refine eGo ⟨mM, trivial⟩ ?_
                      refine field_ptr ?_
                      refine field_ptr ?_
                      refine store4 3 0 rfl rfl (by decide) hvb'.one (by kernel_rfl) ?_
                      refine field_ptr ?_
                      refine field_ptr ?_
                      refine store4 3 1 rfl rfl (by decide) hvu'.one (by kernel_rfl) ?_
                      refine field_ptr ?_
                      refine store4 3 3 rfl rfl (by decide) hvl'.one (by kernel_rfl) ?_
                      exact again (lr, vb', vu', vl') ⟨hlr, hvb', hvu', hvl'⟩ trivial mF (Seals.sub (fun F hF => by repeat (first | exact hF | apply List.Mem.tail)))
                  · refine ordE_go [own4 (ptr0 s.r 0) s.vb s.vu s.vd s.vl] [7, 15, 22, 24] [9, 10, 17, 18, 25, 26, 27] [] [0, 1, 2, 3, 4, 5, 6, 7, 8, 11, 12, 13, 14, 15, 16, 19, 20, 21, 22, 23, 24, 25, 9, 10, 26, 17, 18, 27, 28, 29, 30, 31, 32, 33, 34, 35, 36, 37, 38] (by kernel_rfl) (by kernel_rfl) (by kernel_rfl) ?_
                    refine field_ptr ?_
                    refine field_ptr ?_
                    refine lookD (v := s.vb) ⟨mM, trivial⟩ rfl (lookE4 0 rfl (by decide)) ?_
                    refine field_ptr ?_
                    refine field_ptr ?_
                    refine lookD (v := s.vu) ⟨mM, trivial⟩ rfl (lookE4 1 rfl (by decide)) ?_
                    refine field_ptr ?_
                    refine lookD (v := s.vl) ⟨mM, trivial⟩ rfl (lookE4 3 rfl (by decide)) ?_
                    refine lookD (v := .int .i64 a.length) ⟨mM, trivial⟩ rfl (fun _ _ _ => len_eq hsv rfl) ?_
                    refine make_rule (t := 36) (d := I false []) a.length rfl rfl (by omega) (by omega) fun lr hlr => ?_
                    refine eGo ⟨mM, trivial⟩ ?_
                    refine buildSlice_fact (size := 1) (n := 1) [sb' i] [.one (sb' i)] rfl rfl (by decide) (by decide) ⟨Reads.one hrow.one, rfl, trivial⟩ fun q1 => ?_
                    refine eGo ⟨mM, trivial⟩ ?_
                    first | refine append_one (size := 1) (n := i) (el' := fun y => [Dat.one (sb' i)].getD y (.one undef)) (e' := fun y => .one (sb' y)) 4 rfl hs.vb (Knw.fact mM) eb (by omega) (by omega) fun vb' hvb' => ?_ | refine append_one (size := 1) (n := i) (el' := fun y => [Dat.one (sb' i)].getD y (.one undef)) (e' := fun y => .one (sb' y)) 5 rfl hs.vb (Knw.fact mM) eb (by omega) (by omega) fun vb' hvb' => ?_
                    refine eGo ⟨mM, trivial⟩ ?_
                    refine buildSlice_fact (size := 1) (n := 1) [lr] [.one lr] rfl rfl (by decide) (by decide) ⟨Reads.one hlr.one, rfl, trivial⟩ fun q3 => ?_
                    refine eGo ⟨mM, trivial⟩ ?_
                    refine buildSlice_fact (size := 1) (n := 1) [su' i] [.one (su' i)] rfl rfl (by decide) (by decide) ⟨Reads.one hone.one, rfl, trivial⟩ fun q2 => ?_
                    refine eGo ⟨mM, trivial⟩ ?_
                    first | refine append_one (size := 1) (n := i) (el' := fun y => [Dat.one (su' i)].getD y (.one undef)) (e' := fun y => .one (su' y)) 6 rfl hs.vu (Knw.fact mM) eu (by omega) (by omega) fun vu' hvu' => ?_ | refine append_one (size := 1) (n := i) (el' := fun y => [Dat.one (su' i)].getD y (.one undef)) (e' := fun y => .one (su' y)) 7 rfl hs.vu (Knw.fact mM) eu (by omega) (by omega) fun vu' hvu' => ?_
                    refine eGo ⟨mM, trivial⟩ ?_
                    refine append_one (size := 1) (n := i) (el' := fun y => [Dat.one lr].getD y (.one undef)) (e' := fun y => .one (if y < i then s.sl y else lr)) 10 rfl hs.vl (Knw.fact mM) (fun y _ => by by_cases e : y < i <;> simp [e]) (by omega) (by omega) fun vl' hvl' => ?_
                    refine eGo ⟨mM, trivial⟩ ?_
                    refine field_ptr ?_
                    refine field_ptr ?_
                    refine store4 3 0 rfl rfl (by decide) hvb'.one (by kernel_rfl) ?_
                    refine field_ptr ?_
                    refine field_ptr ?_
                    refine store4 3 1 rfl rfl (by decide) hvu'.one (by kernel_rfl) ?_
                    refine field_ptr ?_
                    refine store4 3 3 rfl rfl (by decide) hvl'.one (by kernel_rfl) ?_
                    exact again (lr, vb', vu', vl') ⟨hlr, hvb', hvu', hvl'⟩ trivial mF (Seals.sub (fun F hF => by repeat (first | exact hF | apply List.Mem.tail)))
                · refine ordE_go [own4 (ptr0 s.r 0) s.vb s.vu s.vd s.vl] [7, 15, 22, 24] [9, 10, 17, 18, 25, 26, 27] [] [0, 1, 2, 3, 4, 5, 6, 7, 8, 11, 12, 13, 14, 15, 16, 19, 20, 21, 22, 23, 24, 25, 9, 26, 10, 17, 18, 27, 28, 29, 30, 31, 32, 33, 34, 35, 36, 37, 38] (by kernel_rfl) (by kernel_rfl) (by kernel_rfl) ?_
                  refine field_ptr ?_
                  refine field_ptr ?_
                  refine lookD (v := s.vb) ⟨mM, trivial⟩ rfl (lookE4 0 rfl (by decide)) ?_
                  refine field_ptr ?_
                  refine field_ptr ?_
                  refine lookD (v := s.vu) ⟨mM, trivial⟩ rfl (lookE4 1 rfl (by decide)) ?_
                  refine field_ptr ?_
                  refine lookD (v := s.vl) ⟨mM, trivial⟩ rfl (lookE4 3 rfl (by decide)) ?_
                  refine lookD (v := .int .i64 a.length) ⟨mM, trivial⟩ rfl (fun _ _ _ => len_eq hsv rfl) ?_
                  refine make_rule (t := 36) (d := I false []) a.length rfl rfl (by omega) (by omega) fun lr hlr => ?_
                  refine eGo ⟨mM, trivial⟩ ?_
                  refine buildSlice_fact (size := 1) (n := 1) [sb' i] [.one (sb' i)] rfl rfl (by decide) (by decide) ⟨Reads.one hrow.one, rfl, trivial⟩ fun q1 => ?_
                  refine eGo ⟨mM, trivial⟩ ?_
                  refine buildSlice_fact (size := 1) (n := 1) [lr] [.one lr] rfl rfl (by decide) (by decide) ⟨Reads.one hlr.one, rfl, trivial⟩ fun q3 => ?_
                  refine eGo ⟨mM, trivial⟩ ?_
                  first | refine append_one (size := 1) (n := i) (el' := fun y => [Dat.one (sb' i)].getD y (.one undef)) (e' := fun y => .one (sb' y)) 4 rfl hs.vb (Knw.fact mM) eb (by omega) (by omega) fun vb' hvb' => ?_ | refine append_one (size := 1) (n := i) (el' := fun y => [Dat.one (sb' i)].getD y (.one undef)) (e' := fun y => .one (sb' y)) 5 rfl hs.vb (Knw.fact mM) eb (by omega) (by omega) fun vb' hvb' => ?_
                  refine eGo ⟨mM, trivial⟩ ?_
                  refine buildSlice_fact (size := 1) (n := 1) [su' i] [.one (su' i)] rfl rfl (by decide) (by decide) ⟨Reads.one hone.one, rfl, trivial⟩ fun q2 => ?_
                  refine eGo ⟨mM, trivial⟩ ?_
                  first | refine append_one (size := 1) (n := i) (el' := fun y => [Dat.one (su' i)].getD y (.one undef)) (e' := fun y => .one (su' y)) 6 rfl hs.vu (Knw.fact mM) eu (by omega) (by omega) fun vu' hvu' => ?_ | refine append_one (size := 1) (n := i) (el' := fun y => [Dat.one (su' i)].getD y (.one undef)) (e' := fun y => .one (su' y)) 7 rfl hs.vu (Knw.fact mM) eu (by omega) (by omega) fun vu' hvu' => ?_
                  refine eGo ⟨mM, trivial⟩ ?_
                  refine append_one (size := 1) (n := i) (el' := fun y => [Dat.one lr].getD y (.one undef)) (e' := fun y => .one (if y < i then s.sl y else lr)) 10 rfl hs.vl (Knw.fact mM) (fun y _ => by by_cases e : y < i <;> simp [e]) (by omega) (by omega) fun vl' hvl' => ?_
                  refine eGo ⟨mM, trivial⟩ ?_
                  refine field_ptr ?_
                  refine field_ptr ?_
                  refine store4 3 0 rfl rfl (by decide) hvb'.one (by kernel_rfl) ?_
                  refine field_ptr ?_
                  refine field_ptr ?_
                  refine store4 3 1 rfl rfl (by decide) hvu'.one (by kernel_rfl) ?_
                  refine field_ptr ?_
                  refine store4 3 3 rfl rfl (by decide) hvl'.one (by kernel_rfl) ?_
                  exact again (lr, vb', vu', vl') ⟨hlr, hvb', hvu', hvl'⟩ trivial mF (Seals.sub (fun F hF => by repeat (first | exact hF | apply List.Mem.tail)))
              · refine ord_split 10 26 (by kernel_rfl) (by kernel_rfl) (by kernel_rfl) ?_ ?_
                · refine ord_split 18 26 (by kernel_rfl) (by kernel_rfl) (by kernel_rfl) ?_ ?_
                  · refine ordE_go [own4 (ptr0 s.r 0) s.vb s.vu s.vd s.vl] [7, 15, 22, 24] [9, 10, 17, 18, 25, 26, 27] [] [0, 1, 2, 3, 4, 5, 6, 7, 8, 11, 12, 13, 14, 15, 16, 19, 20, 21, 22, 23, 24, 25, 9, 17, 10, 18, 26, 27, 28, 29, 30, 31, 32, 33, 34, 35, 36, 37, 38] (by kernel_rfl) (by kernel_rfl) (by kernel_rfl) ?_
                    refine field_ptr ?_
                    refine field_ptr ?_
                    refine lookD (v := s.vb) ⟨mM, trivial⟩ rfl (lookE4 0 rfl (by decide)) ?_
                    refine field_ptr ?_
                    refine field_ptr ?_
                    refine lookD (v := s.vu) ⟨mM, trivial⟩ rfl (lookE4 1 rfl (by decide)) ?_
                    refine field_ptr ?_
                    refine lookD (v := s.vl) ⟨mM, trivial⟩ rfl (lookE4 3 rfl (by decide)) ?_
                    refine lookD (v := .int .i64 a.length) ⟨mM, trivial⟩ rfl (fun _ _ _ => len_eq hsv rfl) ?_
                    refine make_rule (t := 36) (d := I false []) a.length rfl rfl (by omega) (by omega) fun lr hlr => ?_
                    refine eGo ⟨mM, trivial⟩ ?_
                    refine buildSlice_fact (size := 1) (n := 1) [sb' i] [.one (sb' i)] rfl rfl (by decide) (by decide) ⟨Reads.one hrow.one, rfl, trivial⟩ fun q1 => ?_
                    refine eGo ⟨mM, trivial⟩ ?_
                    refine buildSlice_fact (size := 1) (n := 1) [su' i] [.one (su' i)] rfl rfl (by decide) (by decide) ⟨Reads.one hone.one, rfl, trivial⟩ fun q2 => ?_
                    refine eGo ⟨mM, trivial⟩ ?_
                    first | refine append_one (size := 1) (n := i) (el' := fun y => [Dat.one (sb' i)].getD y (.one undef)) (e' := fun y => .one (sb' y)) 4 rfl hs.vb (Knw.fact mM) eb (by omega) (by omega) fun vb' hvb' => ?_ | refine append_one (size := 1) (n := i) (el' := fun y => [Dat.one (sb' i)].getD y (.one undef)) (e' := fun y => .one (sb' y)) 5 rfl hs.vb (Knw.fact mM) eb (by omega) (by omega) fun vb' hvb' => ?_
                    refine eGo ⟨mM, trivial⟩ ?_
                    first | refine append_one (size := 1) (n := i) (el' := fun y => [Dat.one (su' i)].getD y (.one undef)) (e' := fun y => .one (su' y)) 6 rfl hs.vu (Knw.fact mM) eu (by omega) (by omega) fun vu' hvu' => ?_ | refine append_one (size := 1) (n := i) (el' := fun y => [Dat.one (su' i)].getD y (.one undef)) (e' := fun y => .one (su' y)) 7 rfl hs.vu (Knw.fact mM) eu (by omega) (by omega) fun vu' hvu' => ?_
                    refine eGo ⟨mM, trivial⟩ ?_
                    refine buildSlice_fact (size := 1) (n := 1) [lr] [.one lr] rfl rfl (by decide) (by decide) ⟨Reads.one hlr.one, rfl, trivial⟩ fun q3 => ?_
                    refine eGo ⟨mM, trivial⟩ ?_
                    refine append_one (size := 1) (n := i) (el' := fun y => [Dat.one lr].getD y (.one undef)) (e' := fun y => .one (if y < i then s.sl y else lr)) 10 rfl hs.vl (Knw.fact mM) (fun y _ => by by_cases e : y < i <;> simp [e]) (by omega) (by omega) fun vl' hvl' => ?_
                    refine eGo ⟨mM, trivial⟩ ?_
                    refine field_ptr ?_
                    refine field_ptr ?_
                    refine store4 3 0 rfl rfl (by decide) hvb'.one (by kernel_rfl) ?_
                    refine field_ptr ?_
                    refine field_ptr ?_
                    refine store4 3 1 rfl rfl (by decide) hvu'.one (by kernel_rfl) ?_
                    refine field_ptr ?_
                    refine store4 3 3 rfl rfl (by decide) hvl'.one (by kernel_rfl) ?_
                    exact again (lr, vb', vu', vl') ⟨hlr, hvb', hvu', hvl'⟩ trivial mF (Seals.sub (fun F hF => by repeat (first | exact hF | apply List.Mem.tail)))
                  · refine ordE_go [own4 (ptr0 s.r 0) s.vb s.vu s.vd s.vl] [7, 15, 22, 24] [9, 10, 17, 18, 25, 26, 27] [] [0, 1, 2, 3, 4, 5, 6, 7, 8, 11, 12, 13, 14, 15, 16, 19, 20, 21, 22, 23, 24, 25, 9, 17, 10, 26, 18, 27, 28, 29, 30, 31, 32, 33, 34, 35, 36, 37, 38] (by kernel_rfl) (by kernel_rfl) (by kernel_rfl) ?_
                    refine field_ptr ?_
                    refine field_ptr ?_
                    refine lookD (v := s.vb) ⟨mM, trivial⟩ rfl (lookE4 0 rfl (by decide)) ?_
                    refine field_ptr ?_
                    refine field_ptr ?_
                    refine lookD (v := s.vu) ⟨mM, trivial⟩ rfl (lookE4 1 rfl (by decide)) ?_
                    refine field_ptr ?_
                    refine lookD (v := s.vl) ⟨mM, trivial⟩ rfl (lookE4 3 rfl (by decide)) ?_
                    refine lookD (v := .int .i64 a.length) ⟨mM, trivial⟩ rfl (fun _ _ _ => len_eq hsv rfl) ?_
                    refine make_rule (t := 36) (d := I false []) a.length rfl rfl (by omega) (by omega) fun lr hlr => ?_
                    refine eGo ⟨mM, trivial⟩ ?_
                    refine buildSlice_fact (size := 1) (n := 1) [sb' i] [.one (sb' i)] rfl rfl (by decide) (by decide) ⟨Reads.one hrow.one, rfl, trivial⟩ fun q1 => ?_
                    refine eGo ⟨mM, trivial⟩ ?_
                    refine buildSlice_fact (size := 1) (n := 1) [su' i] [.one (su' i)] rfl rfl (by decide) (by decide) ⟨Reads.one hone.one, rfl, trivial⟩ fun q2 => ?_
                    refine eGo ⟨mM, trivial⟩ ?_
                    first | refine append_one (size := 1) (n := i) (el' := fun y => [Dat.one (sb' i)].getD y (.one undef)) (e' := fun y => .one (sb' y)) 4 rfl hs.vb (Knw.fact mM) eb (by omega) (by omega) fun vb' hvb' => ?_ | refine append_one (size := 1) (n := i) (el' := fun y => [Dat.one (sb' i)].getD y (.one undef)) (e' := fun y => .one (sb' y)) 5 rfl hs.vb (Knw.fact mM) eb (by omega) (by omega) fun vb' hvb' => ?_
                    refine eGo ⟨mM, trivial⟩ ?_
                    refine buildSlice_fact (size := 1) (n := 1) [lr] [.one lr] rfl rfl (by decide) (by decide) ⟨Reads.one hlr.one, rfl, trivial⟩ fun q3 => ?_
                    refine eGo ⟨mM, trivial⟩ ?_
                    first | refine append_one (size := 1) (n := i) (el' := fun y => [Dat.one (su' i)].getD y (.one undef)) (e' := fun y => .one (su' y)) 6 rfl hs.vu (Knw.fact mM) eu (by omega) (by omega) fun vu' hvu' => ?_ | refine append_one (size := 1) (n := i) (el' := fun y => [Dat.one (su' i)].getD y (.one undef)) (e' := fun y => .one (su' y)) 7 rfl hs.vu (Knw.fact mM) eu (by omega) (by omega) fun vu' hvu' => ?_
                    refine eGo ⟨mM, trivial⟩ ?_
                    refine append_one (size := 1) (n := i) (el' := fun y => [Dat.one lr].getD y (.one undef)) (e' := fun y => .one (if y < i then s.sl y else lr)) 10 rfl hs.vl (Knw.fact mM) (fun y _ => by by_cases e : y < i <;> simp [e]) (by omega) (by omega) fun vl' hvl' => ?_
                    refine eGo ⟨mM, trivial⟩ ?_
                    refine field_ptr ?_
                    refine field_ptr ?_
                    refine store4 3 0 rfl rfl (by decide) hvb'.one (by kernel_rfl) ?_
                    refine field_ptr ?_
                    refine field_ptr ?_
                    refine store4 3 1 rfl rfl (by decide) hvu'.one (by kernel_rfl) ?_
                    refine field_ptr ?_
                    refine store4 3 3 rfl rfl (by decide) hvl'.one (by kernel_rfl) ?_
                    exact again (lr, vb', vu', vl') ⟨hlr, hvb', hvu', hvl'⟩ trivial mF (Seals.sub (fun F hF => by repeat (first | exact hF | apply List.Mem.tail)))
                · refine ord_split 17 26 (by kernel_rfl) (by kernel_rfl) (by kernel_rfl) ?_ ?_
                  · refine ordE_go [own4 (ptr0 s.r 0) s.vb s.vu s.vd s.vl] [7, 15, 22, 24] [9, 10, 17, 18, 25, 26, 27] [] [0, 1, 2, 3, 4, 5, 6, 7, 8, 11, 12, 13, 14, 15, 16, 19, 20, 21, 22, 23, 24, 25, 9, 17, 26, 10, 18, 27, 28, 29, 30, 31, 32, 33, 34, 35, 36, 37, 38] (by kernel_rfl) (by kernel_rfl) (by kernel_rfl) ?_
                    refine field_ptr ?_
                    refine field_ptr ?_
                    refine lookD (v := s.vb) ⟨mM, trivial⟩ rfl (lookE4 0 rfl (by decide)) ?_
                    refine field_ptr ?_
                    refine field_ptr ?_
                    refine lookD (v := s.vu) ⟨mM, trivial⟩ rfl (lookE4 1 rfl (by decide)) ?_
                    refine field_ptr ?_
                    refine lookD (v := s.vl) ⟨mM, trivial⟩ rfl (lookE4 3 rfl (by decide)) ?_
                    refine lookD (v := .int .i64 a.length) ⟨mM, trivial⟩ rfl (fun _ _ _ => len_eq hsv rfl) ?_
                    refine make_rule (t := 36) (d := I false []) a.length rfl rfl (by omega) (by omega) fun lr hlr => ?_
                    refine eGo ⟨mM, trivial⟩ ?_
                    refine buildSlice_fact (size := 1) (n := 1) [sb' i] [.one (sb' i)] rfl rfl (by decide) (by decide) ⟨Reads.one hrow.one, rfl, trivial⟩ fun q1 => ?_
                    refine eGo ⟨mM, trivial⟩ ?_
                    refine buildSlice_fact (size := 1) (n := 1) [su' i] [.one (su' i)] rfl rfl (by decide) (by decide) ⟨Reads.one hone.one, rfl, trivial⟩ fun q2 => ?_
                    refine eGo ⟨mM, trivial⟩ ?_
                    refine buildSlice_fact (size := 1) (n := 1) [lr] [.one lr] rfl rfl (by decide) (by decide) ⟨Reads.one hlr.one, rfl, trivial⟩ fun q3 => ?_
                    refine eGo ⟨mM, trivial⟩ ?_
                    first | refine append_one (size := 1) (n := i) (el' := fun y => [Dat.one (sb' i)].getD y (.one undef)) (e' := fun y => .one (sb' y)) 4 rfl hs.vb (Knw.fact mM) eb (by omega) (by omega) fun vb' hvb' => ?_ | refine append_one (size := 1) (n := i) (el' := fun y => [Dat.one (sb' i)].getD y (.one undef)) (e' := fun y => .one (sb' y)) 5 rfl hs.vb (Knw.fact mM) eb (by omega) (by omega) fun vb' hvb' => ?_
                    refine eGo ⟨mM, trivial⟩ ?_
                    first | refine append_one (size := 1) (n := i) (el' := fun y => [Dat.one (su' i)].getD y (.one undef)) (e' := fun y => .one (su' y)) 6 rfl hs.vu (Knw.fact mM) eu (by omega) (by omega) fun vu' hvu' => ?_ | refine append_one (size := 1) (n := i) (el' := fun y => [Dat.one (su' i)].getD y (.one undef)) (e' := fun y => .one (su' y)) 7 rfl hs.vu (Knw.fact mM) eu (by omega) (by omega) fun vu' hvu' => ?_
                    refine eGo ⟨mM, trivial⟩ ?_
                    refine append_one (size := 1) (n := i) (el' := fun y => [Dat.one lr].getD y (.one undef)) (e' := fun y => .one (if y < i then s.sl y else lr)) 10 rfl hs.vl (Knw.fact mM) (fun y _ => by by_cases e : y < i <;> simp [e]) (by omega) (by omega) fun vl' hvl' => ?_
                    refine eGo ⟨mM, trivial⟩ ?_
                    refine field_ptr ?_
                    refine field_ptr ?_
                    refine store4 3 0 rfl rfl (by decide) hvb'.one (by kernel_rfl) ?_
                    refine field_ptr ?_
                    refine field_ptr ?_
                    refine store4 3 1 rfl rfl (by decide) hvu'.one (by kernel_rfl) ?_
                    refine field_ptr ?_
                    refine store4 3 3 rfl rfl (by decide) hvl'.one (by kernel_rfl) ?_
                    exact again (lr, vb', vu', vl') ⟨hlr, hvb', hvu', hvl'⟩ trivial mF (Seals.sub (fun F hF => by repeat (first | exact hF | apply List.Mem.tail)))
                  · refine ordE_go [own4 (ptr0 s.r 0) s.vb s.vu s.vd s.vl] [7, 15, 22, 24] [9, 10, 17, 18, 25, 26, 27] [] [0, 1, 2, 3, 4, 5, 6, 7, 8, 11, 12, 13, 14, 15, 16, 19, 20, 21, 22, 23, 24, 25, 9, 26, 17, 10, 18, 27, 28, 29, 30, 31, 32, 33, 34, 35, 36, 37, 38] (by kernel_rfl) (by kernel_rfl) (by kernel_rfl) ?_
                    refine field_ptr ?_
                    refine field_ptr ?_
                    refine lookD (v := s.vb) ⟨mM, trivial⟩ rfl (lookE4 0 rfl (by decide)) ?_
                    refine field_ptr ?_
                    refine field_ptr ?_
                    refine lookD (v := s.vu) ⟨mM, trivial⟩ rfl (lookE4 1 rfl (by decide)) ?_
                    refine field_ptr ?_
                    refine lookD (v := s.vl) ⟨mM, trivial⟩ rfl (lookE4 3 rfl (by decide)) ?_
                    refine lookD (v := .int .i64 a.length) ⟨mM, trivial⟩ rfl (fun _ _ _ => len_eq hsv rfl) ?_
                    refine make_rule (t := 36) (d := I false []) a.length rfl rfl (by omega) (by omega) fun lr hlr => ?_
                    refine eGo ⟨mM, trivial⟩ ?_
                    refine buildSlice_fact (size := 1) (n := 1) [sb' i] [.one (sb' i)] rfl rfl (by decide) (by decide) ⟨Reads.one hrow.one, rfl, trivial⟩ fun q1 => ?_
                    refine eGo ⟨mM, trivial⟩ ?_
                    refine buildSlice_fact (size := 1) (n := 1) [lr] [.one lr] rfl rfl (by decide) (by decide) ⟨Reads.one hlr.one, rfl, trivial⟩ fun q3 => ?_
                    refine eGo ⟨mM, trivial⟩ ?_
                    refine buildSlice_fact (size := 1) (n := 1) [su' i] [.one (su' i)] rfl rfl (by decide) (by decide) ⟨Reads.one hone.one, rfl, trivial⟩ fun q2 => ?_
                    refine eGo ⟨mM, trivial⟩ ?_
                    first | refine append_one (size := 1) (n := i) (el' := fun y => [Dat.one (sb' i)].getD y (.one undef)) (e' := fun y => .one (sb' y)) 4 rfl hs.vb (Knw.fact mM) eb (by omega) (by omega) fun vb' hvb' => ?_ | refine append_one (size := 1) (n := i) (el' := fun y => [Dat.one (sb' i)].getD y (.one undef)) (e' := fun y => .one (sb' y)) 5 rfl hs.vb (Knw.fact mM) eb (by omega) (by omega) fun vb' hvb' => ?_
                    refine eGo ⟨mM, trivial⟩ ?_
                    first | refine append_one (size := 1) (n := i) (el' := fun y => [Dat.one (su' i)].getD y (.one undef)) (e' := fun y => .one (su' y)) 6 rfl hs.vu (Knw.fact mM) eu (by omega) (by omega) fun vu' hvu' => ?_ | refine append_one (size := 1) (n := i) (el' := fun y => [Dat.one (su' i)].getD y (.one undef)) (e' := fun y => .one (su' y)) 7 rfl hs.vu (Knw.fact mM) eu (by omega) (by omega) fun vu' hvu' => ?_
                    refine eGo ⟨mM, trivial⟩ ?_
                    refine append_one (size := 1) (n := i) (el' := fun y => [Dat.one lr].getD y (.one undef)) (e' := fun y => .one (if y < i then s.sl y else lr)) 10 rfl hs.vl (Knw.fact mM) (fun y _ => by by_cases e : y < i <;> simp [e]) (by omega) (by omega) fun vl' hvl' => ?_
                    refine eGo ⟨mM, trivial⟩ ?_
                    refine field_ptr ?_
                    refine field_ptr ?_
                    refine store4 3 0 rfl rfl (by decide) hvb'.one (by kernel_rfl) ?_
                    refine field_ptr ?_
                    refine field_ptr ?_
                    refine store4 3 1 rfl rfl (by decide) hvu'.one (by kernel_rfl) ?_
                    refine field_ptr ?_
                    refine store4 3 3 rfl rfl (by decide) hvl'.one (by kernel_rfl) ?_
                    exact again (lr, vb', vu', vl') ⟨hlr, hvb', hvu', hvl'⟩ trivial mF (Seals.sub (fun F hF => by repeat (first | exact hF | apply List.Mem.tail)))
            · refine ord_split 10 17 (by kernel_rfl) (by kernel_rfl) (by kernel_rfl) ?_ ?_
              · refine ordE_go [own4 (ptr0 s.r 0) s.vb s.vu s.vd s.vl] [7, 15, 22, 24] [9, 10, 17, 18, 25, 26, 27] [] [0, 1, 2, 3, 4, 5, 6, 7, 8, 11, 12, 13, 14, 15, 16, 19, 20, 21, 22, 23, 24, 25, 26, 9, 10, 17, 18, 27, 28, 29, 30, 31, 32, 33, 34, 35, 36, 37, 38] (by kernel_rfl) (by kernel_rfl) (by kernel_rfl) ?_
                refine field_ptr ?_
                refine field_ptr ?_
                refine lookD (v := s.vb) ⟨mM, trivial⟩ rfl (lookE4 0 rfl (by decide)) ?_
                refine field_ptr ?_
                refine field_ptr ?_
                refine lookD (v := s.vu) ⟨mM, trivial⟩ rfl (lookE4 1 rfl (by decide)) ?_
                refine field_ptr ?_
                refine lookD (v := s.vl) ⟨mM, trivial⟩ rfl (lookE4 3 rfl (by decide)) ?_
                refine lookD (v := .int .i64 a.length) ⟨mM, trivial⟩ rfl (fun _ _ _ => len_eq hsv rfl) ?_
                refine make_rule (t := 36) (d := I false []) a.length rfl rfl (by omega) (by omega) fun lr hlr => ?_
                refine eGo ⟨mM, trivial⟩ ?_
                refine buildSlice_fact (size := 1) (n := 1) [lr] [.one lr] rfl rfl (by decide) (by decide) ⟨Reads.one hlr.one, rfl, trivial⟩ fun q3 => ?_
                refine eGo ⟨mM, trivial⟩ ?_
                refine buildSlice_fact (size := 1) (n := 1) [sb' i] [.one (sb' i)] rfl rfl (by decide) (by decide) ⟨Reads.one hrow.one, rfl, trivial⟩ fun q1 => ?_
                refine eGo ⟨mM, trivial⟩ ?_
                first | refine append_one (size := 1) (n := i) (el' := fun y => [Dat.one (sb' i)].getD y (.one undef)) (e' := fun y => .one (sb' y)) 4 rfl hs.vb (Knw.fact mM) eb (by omega) (by omega) fun vb' hvb' => ?_ | refine append_one (size := 1) (n := i) (el' := fun y => [Dat.one (sb' i)].getD y (.one undef)) (e' := fun y => .one (sb' y)) 5 rfl hs.vb (Knw.fact mM) eb (by omega) (by omega) fun vb' hvb' => ?_
                refine eGo ⟨mM, trivial⟩ ?_
                refine buildSlice_fact (size := 1) (n := 1) [su' i] [.one (su' i)] rfl rfl (by decide) (by decide) ⟨Reads.one hone.one, rfl, trivial⟩ fun q2 => ?_
                refine eGo ⟨mM, trivial⟩ ?_
                first | refine append_one (size := 1) (n := i) (el' := fun y => [Dat.one (su' i)].getD y (.one undef)) (e' := fun y => .one (su' y)) 6 rfl hs.vu (Knw.fact mM) eu (by omega) (by omega) fun vu' hvu' => ?_ | refine append_one (size := 1) (n := i) (el' := fun y => [Dat.one (su' i)].getD y (.one undef)) (e' := fun y => .one (su' y)) 7 rfl hs.vu (Knw.fact mM) eu (by omega) (by omega) fun vu' hvu' => ?_
                refine eGo ⟨mM, trivial⟩ ?_
                refine append_one (size := 1) (n := i) (el' := fun y => [Dat.one lr].getD y (.one undef)) (e' := fun y => .one (if y < i then s.sl y else lr)) 10 rfl hs.vl (Knw.fact mM) (fun y _ => by by_cases e : y < i <;> simp [e]) (by omega) (by omega) fun vl' hvl' => ?_
                refine eGo ⟨mM, trivial⟩ ?_
                refine field_ptr ?_
                refine field_ptr ?_
                refine store4 3 0 rfl rfl (by decide) hvb'.one (by kernel_rfl) ?_
                refine field_ptr ?_
                refine field_ptr ?_
                refine store4 3 1 rfl rfl (by decide) hvu'.one (by kernel_rfl) ?_
                refine field_ptr ?_
                refine store4 3 3 rfl rfl (by decide) hvl'.one (by kernel_rfl) ?_
                exact again (lr, vb', vu', vl') ⟨hlr, hvb', hvu', hvl'⟩ trivial mF (Seals.sub (fun F hF => by repeat (first | exact hF | apply List.Mem.tail)))
              · refine ordE_go [own4 (ptr0 s.r 0) s.vb s.vu s.vd s.vl] [7, 15, 22, 24] [9, 10, 17, 18, 25, 26, 27] [] [0, 1, 2, 3, 4, 5, 6, 7, 8, 11, 12, 13, 14, 15, 16, 19, 20, 21, 22, 23, 24, 25, 26, 9, 17, 10, 18, 27, 28, 29, 30, 31, 32, 33, 34, 35, 36, 37, 38] (by kernel_rfl) (by kernel_rfl) (by kernel_rfl) ?_
                refine field_ptr ?_
                refine field_ptr ?_
                refine lookD (v := s.vb) ⟨mM, trivial⟩ rfl (lookE4 0 rfl (by decide)) ?_
                refine field_ptr ?_
                refine field_ptr ?_
                refine lookD (v := s.vu) ⟨mM, trivial⟩ rfl (lookE4 1 rfl (by decide)) ?_
                refine field_ptr ?_
                refine lookD (v := s.vl) ⟨mM, trivial⟩ rfl (lookE4 3 rfl (by decide)) ?_
                refine lookD (v := .int .i64 a.length) ⟨mM, trivial⟩ rfl (fun _ _ _ => len_eq hsv rfl) ?_
                refine make_rule (t := 36) (d := I false []) a.length rfl rfl (by omega) (by omega) fun lr hlr => ?_
                refine eGo ⟨mM, trivial⟩ ?_
                refine buildSlice_fact (size := 1) (n := 1) [lr] [.one lr] rfl rfl (by decide) (by decide) ⟨Reads.one hlr.one, rfl, trivial⟩ fun q3 => ?_
                refine eGo ⟨mM, trivial⟩ ?_
                refine buildSlice_fact (size := 1) (n := 1) [sb' i] [.one (sb' i)] rfl rfl (by decide) (by decide) ⟨Reads.one hrow.one, rfl, trivial⟩ fun q1 => ?_
                refine eGo ⟨mM, trivial⟩ ?_
                refine buildSlice_fact (size := 1) (n := 1) [su' i] [.one (su' i)] rfl rfl (by decide) (by decide) ⟨Reads.one hone.one, rfl, trivial⟩ fun q2 => ?_
                refine eGo ⟨mM, trivial⟩ ?_
                first | refine append_one (size := 1) (n := i) (el' := fun y => [Dat.one (sb' i)].getD y (.one undef)) (e' := fun y => .one (sb' y)) 4 rfl hs.vb (Knw.fact mM) eb (by omega) (by omega) fun vb' hvb' => ?_ | refine append_one (size := 1) (n := i) (el' := fun y => [Dat.one (sb' i)].getD y (.one undef)) (e' := fun y => .one (sb' y)) 5 rfl hs.vb (Knw.fact mM) eb (by omega) (by omega) fun vb' hvb' => ?_
                refine eGo ⟨mM, trivial⟩ ?_
                first | refine append_one (size := 1) (n := i) (el' := fun y => [Dat.one (su' i)].getD y (.one undef)) (e' := fun y => .one (su' y)) 6 rfl hs.vu (Knw.fact mM) eu (by omega) (by omega) fun vu' hvu' => ?_ | refine append_one (size := 1) (n := i) (el' := fun y => [Dat.one (su' i)].getD y (.one undef)) (e' := fun y => .one (su' y)) 7 rfl hs.vu (Knw.fact mM) eu (by omega) (by omega) fun vu' hvu' => ?_
                refine eGo ⟨mM, trivial⟩ ?_
                refine append_one (size := 1) (n := i) (el' := fun y => [Dat.one lr].getD y (.one undef)) (e' := fun y => .one (if y < i then s.sl y else lr)) 10 rfl hs.vl (Knw.fact mM) (fun y _ => by by_cases e : y < i <;> simp [e]) (by omega) (by omega) fun vl' hvl' => ?_
                refine eGo ⟨mM, trivial⟩ ?_
                refine field_ptr ?_
                refine field_ptr ?_
                refine store4 3 0 rfl rfl (by decide) hvb'.one (by kernel_rfl) ?_
                refine field_ptr ?_
                refine field_ptr ?_
                refine store4 3 1 rfl rfl (by decide) hvu'.one (by kernel_rfl) ?_
                refine field_ptr ?_
                refine store4 3 3 rfl rfl (by decide) hvl'.one (by kernel_rfl) ?_
                exact again (lr, vb', vu', vl') ⟨hlr, hvb', hvu', hvl'⟩ trivial mF (Seals.sub (fun F hF => by repeat (first | exact hF | apply List.Mem.tail)))
        · refine ord_split 9 25 (by kernel_rfl) (by kernel_rfl) (by kernel_rfl) ?_ ?_
          · refine ord_split 10 25 (by kernel_rfl) (by kernel_rfl) (by kernel_rfl) ?_ ?_
            · refine ord_split 18 25 (by kernel_rfl) (by kernel_rfl) (by kernel_rfl) ?_ ?_
              · refine ordE_go [own4 (ptr0 s.r 0) s.vb s.vu s.vd s.vl] [7, 15, 22, 24] [9, 10, 17, 18, 25, 26, 27] [] [0, 1, 2, 3, 4, 5, 6, 7, 8, 11, 12, 13, 14, 15, 16, 19, 20, 21, 22, 23, 24, 17, 9, 10, 18, 25, 26, 27, 28, 29, 30, 31, 32, 33, 34, 35, 36, 37, 38] (by kernel_rfl) (by kernel_rfl) (by kernel_rfl) ?_
                refine field_ptr ?_
                refine field_ptr ?_
                refine lookD (v := s.vb) ⟨mM, trivial⟩ rfl (lookE4 0 rfl (by decide)) ?_
                refine field_ptr ?_
                refine field_ptr ?_
                refine lookD (v := s.vu) ⟨mM, trivial⟩ rfl (lookE4 1 rfl (by decide)) ?_
                refine field_ptr ?_
                refine lookD (v := s.vl) ⟨mM, trivial⟩ rfl (lookE4 3 rfl (by decide)) ?_
                refine lookD (v := .int .i64 a.length) ⟨mM, trivial⟩ rfl (fun _ _ _ => len_eq hsv rfl) ?_
                refine buildSlice_fact (size := 1) (n := 1) [su' i] [.one (su' i)] rfl rfl (by decide) (by decide) ⟨Reads.one hone.one, rfl, trivial⟩ fun q2 => ?_
                refine eGo ⟨mM, trivial⟩ ?_
                refine buildSlice_fact (size := 1) (n := 1) [sb' i] [.one (sb' i)] rfl rfl (by decide) (by decide) ⟨Reads.one hrow.one, rfl, trivial⟩ fun q1 => ?_
                refine eGo ⟨mM, trivial⟩ ?_
                first | refine append_one (size := 1) (n := i) (el' := fun y => [Dat.one (sb' i)].getD y (.one undef)) (e' := fun y => .one (sb' y)) 4 rfl hs.vb (Knw.fact mM) eb (by omega) (by omega) fun vb' hvb' => ?_ | refine append_one (size := 1) (n := i) (el' := fun y => [Dat.one (sb' i)].getD y (.one undef)) (e' := fun y => .one (sb' y)) 5 rfl hs.vb (Knw.fact mM) eb (by omega) (by omega) fun vb' hvb' => ?_
                refine eGo ⟨mM, trivial⟩ ?_
                first | refine append_one (size := 1) (n := i) (el' := fun y => [Dat.one (su' i)].getD y (.one undef)) (e' := fun y => .one (su' y)) 6 rfl hs.vu (Knw.fact mM) eu (by omega) (by omega) fun vu' hvu' => ?_ | refine append_one (size := 1) (n := i) (el' := fun y => [Dat.one (su' i)].getD y (.one undef)) (e' := fun y => .one (su' y)) 7 rfl hs.vu (Knw.fact mM) eu (by omega) (by omega) fun vu' hvu' => ?_
                refine eGo ⟨mM, trivial⟩ ?_
                refine make_rule (t := 36) (d := I false []) a.length rfl rfl (by omega) (by omega) fun lr hlr => ?_
                refine eGo ⟨mM, trivial⟩ ?_
                refine buildSlice_fact (size := 1) (n := 1) [lr] [.one lr] rfl rfl (by decide) (by decide) ⟨Reads.one hlr.one, rfl, trivial⟩ fun q3 => ?_
                refine eGo ⟨mM, trivial⟩ ?_
                refine append_one (size := 1) (n := i) (el' := fun y => [Dat.one lr].getD y (.one undef)) (e' := fun y => .one (if y < i then s.sl y else lr)) 10 rfl hs.vl (Knw.fact mM) (fun y _ => by by_cases e : y < i <;> simp [e]) (by omega) (by omega) fun vl' hvl' => ?_
                refine eGo ⟨mM, trivial⟩ ?_
                refine field_ptr ?_
                refine field_ptr ?_
                refine store4 3 0 rfl rfl (by decide) hvb'.one (by kernel_rfl) ?_
                refine field_ptr ?_
                refine field_ptr ?_
                refine store4 3 1 rfl rfl (by decide) hvu'.one (by kernel_rfl) ?_
                refine field_ptr ?_
                refine store4 3 3 rfl rfl (by decide) hvl'.one (by kernel_rfl) ?_
                exact again (lr, vb', vu', vl') ⟨hlr, hvb', hvu', hvl'⟩ trivial mF (Seals.sub (fun F hF => by repeat (first | exact hF | apply List.Mem.tail)))
              · refine ord_split 18 26 (by kernel_rfl) (by kernel_rfl) (by kernel_rfl) ?_ ?_
                · refine ordE_go [own4 (ptr0 s.r 0) s.vb s.vu s.vd s.vl] [7, 15, 22, 24] [9, 10, 17, 18, 25, 26, 27] [] [0, 1, 2, 3, 4, 5, 6, 7, 8, 11, 12, 13, 14, 15, 16, 19, 20, 21, 22, 23, 24, 17, 9, 10, 25, 18, 26, 27, 28, 29, 30, 31, 32, 33, 34, 35, 36, 37, 38] (by kernel_rfl) (by kernel_rfl) (by kernel_rfl) ?_
                  refine field_ptr ?_
                  refine field_ptr ?_
                  refine lookD (v := s.vb) ⟨mM, trivial⟩ rfl (lookE4 0 rfl (by decide)) ?_
                  refine field_ptr ?_
                  refine field_ptr ?_
                  refine lookD (v := s.vu) ⟨mM, trivial⟩ rfl (lookE4 1 rfl (by decide)) ?_
                  refine field_ptr ?_
                  refine lookD (v := s.vl) ⟨mM, trivial⟩ rfl (lookE4 3 rfl (by decide)) ?_
                  refine lookD (v := .int .i64 a.length) ⟨mM, trivial⟩ rfl (fun _ _ _ => len_eq hsv rfl) ?_
                  refine buildSlice_fact (size := 1) (n := 1) [su' i] [.one (su' i)] rfl rfl (by decide) (by decide) ⟨Reads.one hone.one, rfl, trivial⟩ fun q2 => ?_
                  refine eGo ⟨mM, trivial⟩ ?_
                  refine buildSlice_fact (size := 1) (n := 1) [sb' i] [.one (sb' i)] rfl rfl (by decide) (by decide) ⟨Reads.one hrow.one, rfl, trivial⟩ fun q1 => ?_
                  refine eGo ⟨mM, trivial⟩ ?_
                  first | refine append_one (size := 1) (n := i) (el' := fun y => [Dat.one (sb' i)].getD y (.one undef)) (e' := fun y => .one (sb' y)) 4 rfl hs.vb (Knw.fact mM) eb (by omega) (by omega) fun vb' hvb' => ?_ | refine append_one (size := 1) (n := i) (el' := fun y => [Dat.one (sb' i)].getD y (.one undef)) (e' := fun y => .one (sb' y)) 5 rfl hs.vb (Knw.fact mM) eb (by omega) (by omega) fun vb' hvb' => ?_
                  refine eGo ⟨mM, trivial⟩ ?_
                  refine make_rule (t := 36) (d := I false []) a.length rfl rfl (by omega) (by omega) fun lr hlr => ?_
                  refine eGo ⟨mM, trivial⟩ ?_
                  first | refine append_one (size := 1) (n := i) (el' := fun y => [Dat.one (su' i)].getD y (.one undef)) (e' := fun y => .one (su' y)) 6 rfl hs.vu (Knw.fact mM) eu (by omega) (by omega) fun vu' hvu' => ?_ | refine append_one (size := 1) (n := i) (el' := fun y => [Dat.one (su' i)].getD y (.one undef)) (e' := fun y => .one (su' y)) 7 rfl hs.vu (Knw.fact mM) eu (by omega) (by omega) fun vu' hvu' => ?_
                  refine eGo ⟨mM, trivial⟩ ?_
                  refine buildSlice_fact (size := 1) (n := 1) [lr] [.one lr] rfl rfl (by decide) (by decide) ⟨Reads.one hlr.one, rfl, trivial⟩ fun q3 => ?_
                  refine eGo ⟨mM, trivial⟩ ?_
                  refine append_one (size := 1) (n := i) (el' := fun y => [Dat.one lr].getD y (.one undef)) (e' := fun y => .one (if y < i then s.sl y else lr)) 10 rfl hs.vl (Knw.fact mM) (fun y _ => by by_cases e : y < i <;> simp [e]) (by omega) (by omega) fun vl' hvl' => ?_
                  refine eGo ⟨mM, trivial⟩ ?_
                  refine field_ptr ?_
                  refine field_ptr ?_
                  refine store4 3 0 rfl rfl (by decide) hvb'.one (by kernel_rfl) ?_
                  refine field_ptr ?_
                  refine field_ptr ?_
                  refine store4 3 1 rfl rfl (by decide) hvu'.one (by kernel_rfl) ?_
                  refine field_ptr ?_
                  refine store4 3 3 rfl rfl (by decide) hvl'.one (by kernel_rfl) ?_
                  exact again (lr, vb', vu', vl') ⟨hlr, hvb', hvu', hvl'⟩ trivial mF (Seals.sub (fun F hF => by repeat (first | exact hF | apply List.Mem.tail)))
                · refine ordE_go [own4 (ptr0 s.r 0) s.vb s.vu s.vd s.vl] [7, 15, 22, 24] [9, 10, 17, 18, 25, 26, 27] [] [0, 1, 2, 3, 4, 5, 6, 7, 8, 11, 12, 13, 14, 15, 16, 19, 20, 21, 22, 23, 24, 17, 9, 10, 25, 26, 18, 27, 28, 29, 30, 31, 32, 33, 34, 35, 36, 37, 38] (by kernel_rfl) (by kernel_rfl) (by kernel_rfl) ?_
                  refine field_ptr ?_
                  refine field_ptr ?_
                  refine lookD (v := s.vb) ⟨mM, trivial⟩ rfl (lookE4 0 rfl (by decide)) ?_
                  refine field_ptr ?_
                  refine field_ptr ?_
                  refine lookD (v := s.vu) ⟨mM, trivial⟩ rfl (lookE4 1 rfl (by decide)) ?_
                  refine field_ptr ?_
                  refine lookD (v := s.vl) ⟨mM, trivial⟩ rfl (lookE4 3 rfl (by decide)) ?_
                  refine lookD (v := .int .i64 a.length) ⟨mM, trivial⟩ rfl (fun _ _ _ => len_eq hsv rfl) ?_
                  refine buildSlice_fact (size := 1) (n := 1) [su' i] [.one (su' i)] rfl rfl (by decide) (by decide) ⟨Reads.one hone.one, rfl, trivial⟩ fun q2 => ?_
                  refine eGo ⟨mM, trivial⟩ ?_
                  refine buildSlice_fact (size := 1) (n := 1) [sb' i] [.one (sb' i)] rfl rfl (by decide) (by decide) ⟨Reads.one hrow.one, rfl, trivial⟩ fun q1 => ?_
                  refine eGo ⟨mM, trivial⟩ ?_
                  first | refine append_one (size := 1) (n := i) (el' := fun y => [Dat.one (sb' i)].getD y (.one undef)) (e' := fun y => .one (sb' y)) 4 rfl hs.vb (Knw.fact mM) eb (by omega) (by omega) fun vb' hvb' => ?_ | refine append_one (size := 1) (n := i) (el' := fun y => [Dat.one (sb' i)].getD y (.one undef)) (e' := fun y => .one (sb' y)) 5 rfl hs.vb (Knw.fact mM) eb (by omega) (by omega) fun vb' hvb' => ?_
                  refine eGo ⟨mM, trivial⟩ ?_
                  refine make_rule (t := 36) (d := I false []) a.length rfl rfl (by omega) (by omega) fun lr hlr => ?_
                  refine eGo ⟨mM, trivial⟩ ?_
                  refine buildSlice_fact (size := 1) (n := 1) [lr] [.one lr] rfl rfl (by decide) (by decide) ⟨Reads.one hlr.one, rfl, trivial⟩ fun q3 => ?_
                  refine eGo ⟨mM, trivial⟩ ?_
                  first | refine append_one (size := 1) (n := i) (el' := fun y => [Dat.one (su' i)].getD y (.one undef)) (e' := fun y => .one (su' y)) 6 rfl hs.vu (Knw.fact mM) eu (by omega) (by omega) fun vu' hvu' => ?_ | refine append_one (size := 1) (n := i) (el' := fun y => [Dat.one (su' i)].getD y (.one undef)) (e' := fun y => .one (su' y)) 7 rfl hs.vu (Knw.fact mM) eu (by omega) (by omega) fun vu' hvu' => ?_
                  refine eGo ⟨mM, trivial⟩ ?_
                  refine append_one (size := 1) (n := i) (el' := fun y => [Dat.one lr].getD y (.one undef)) (e' := fun y => .one (if y < i then s.sl y else lr)) 10 rfl hs.vl (Knw.fact mM) (fun y _ => by by_cases e : y < i <;> simp [e]) (by omega) (by omega) fun vl' hvl' => ?_
                  refine eGo ⟨mM, trivial⟩ ?_
                  refine field_ptr ?_
                  refine field_ptr ?_
                  refine store4 3 0 rfl rfl (by decide) hvb'.one (by kernel_rfl) ?_
                  refine field_ptr ?_
                  refine field_ptr ?_
                  refine store4 3 1 rfl rfl (by decide) hvu'.one (by kernel_rfl) ?_
                  refine field_ptr ?_
                  refine store4 3 3 rfl rfl (by decide) hvl'.one (by kernel_rfl) ?_
                  exact again (lr, vb', vu', vl') ⟨hlr, hvb', hvu', hvl'⟩ trivial mF (Seals.sub (fun F hF => by repeat (first | exact hF | apply List.Mem.tail)))
            · refine ord_split 10 26 (by kernel_rfl) (by kernel_rfl) (by kernel_rfl) ?_ ?_
              · refine ord_split 18 26 (by kernel_rfl) (by kernel_rfl) (by kernel_rfl) ?_ ?_
                · refine ordE_go [own4 (ptr0 s.r 0) s.vb s.vu s.vd s.vl] [7, 15, 22, 24] [9, 10, 17, 18, 25, 26, 27] [] [0, 1, 2, 3, 4, 5, 6, 7, 8, 11, 12, 13, 14, 15, 16, 19, 20, 21, 22, 23, 24, 17, 9, 25, 10, 18, 26, 27, 28, 29, 30, 31, 32, 33, 34, 35, 36, 37, 38] (by kernel_rfl) (by kernel_rfl) (by kernel_rfl) ?_
                  refine field_ptr ?_
                  refine field_ptr ?_
                  refine lookD (v := s.vb) ⟨mM, trivial⟩ rfl (lookE4 0 rfl (by decide)) ?_
                  refine field_ptr ?_
                  refine field_ptr ?_
                  refine lookD (v := s.vu) ⟨mM, trivial⟩ rfl (lookE4 1 rfl (by decide)) ?_
                  refine field_ptr ?_
                  refine lookD (v := s.vl) ⟨mM, trivial⟩ rfl (lookE4 3 rfl (by decide)) ?_
                  refine lookD (v := .int .i64 a.length) ⟨mM, trivial⟩ rfl (fun _ _ _ => len_eq hsv rfl) ?_
                  refine buildSlice_fact (size := 1) (n := 1) [su' i] [.one (su' i)] rfl rfl (by decide) (by decide) ⟨Reads.one hone.one, rfl, trivial⟩ fun q2 => ?_
                  refine eGo ⟨mM, trivial⟩ ?_
                  refine buildSlice_fact (size := 1) (n := 1) [sb' i] [.one (sb' i)] rfl rfl (by decide) (by decide) ⟨Reads.one hrow.one, rfl, trivial⟩ fun q1 => ?_
                  refine eGo ⟨mM, trivial⟩ ?_
                  refine make_rule (t := 36) (d := I false []) a.length rfl rfl (by omega) (by omega) fun lr hlr => ?_
                  refine eGo ⟨mM, trivial⟩ ?_
                  first | refine append_one (size := 1) (n := i) (el' := fun y => [Dat.one (sb' i)].getD y (.one undef)) (e' := fun y => .one (sb' y)) 4 rfl hs.vb (Knw.fact mM) eb (by omega) (by omega) fun vb' hvb' => ?_ | refine append_one (size := 1) (n := i) (el' := fun y => [Dat.one (sb' i)].getD y (.one undef)) (e' := fun y => .one (sb' y)) 5 rfl hs.vb (Knw.fact mM) eb (by omega) (by omega) fun vb' hvb' => ?_
                  refine eGo ⟨mM, trivial⟩ ?_
                  first | refine append_one (size := 1) (n := i) (el' := fun y => [Dat.one (su' i)].getD y (.one undef)) (e' := fun y => .one (su' y)) 6 rfl hs.vu (Knw.fact mM) eu (by omega) (by omega) fun vu' hvu' => ?_ | refine append_one (size := 1) (n := i) (el' := fun y => [Dat.one (su' i)].getD y (.one undef)) (e' := fun y => .one (su' y)) 7 rfl hs.vu (Knw.fact mM) eu (by omega) (by omega) fun vu' hvu' => ?_
                  refine eGo ⟨mM, trivial⟩ ?_
                  refine buildSlice_fact (size := 1) (n := 1) [lr] [.one lr] rfl rfl (by decide) (by decide) ⟨Reads.one hlr.one, rfl, trivial⟩ fun q3 => ?_
                  refine eGo ⟨mM, trivial⟩ ?_
                  refine append_one (size := 1) (n := i) (el' := fun y => [Dat.one lr].getD y (.one undef)) (e' := fun y => .one (if y < i then s.sl y else lr)) 10 rfl hs.vl (Knw.fact mM) (fun y _ => by by_cases e : y < i <;> simp [e]) (by omega) (by omega) fun vl' hvl' => ?_
                  refine eGo ⟨mM, trivial⟩ ?_
                  refine field_ptr ?_
                  refine field_ptr ?_
                  refine store4 3 0 rfl rfl (by decide) hvb'.one (by kernel_rfl) ?_
                  refine field_ptr ?_
                  refine field_ptr ?_
                  refine store4 3 1 rfl rfl (by decide) hvu'.one (by kernel_rfl) ?_
                  refine field_ptr ?_
                  refine store4 3 3 rfl rfl (by decide) hvl'.one (by kernel_rfl) ?_
                  exact again (lr, vb', vu', vl') ⟨hlr, hvb', hvu', hvl'⟩ trivial mF (Seals.sub (fun F hF => by repeat (first | exact hF | apply List.Mem.tail)))
                · refine ordE_go [own4 (ptr0 s.r 0) s.vb s.vu s.vd s.vl] [7, 15, 22, 24] [9, 10, 17, 18, 25, 26, 27] [] [0, 1, 2, 3, 4, 5, 6, 7, 8, 11, 12, 13, 14, 15, 16, 19, 20, 21, 22, 23, 24, 17, 9, 25, 10, 26, 18, 27, 28, 29, 30, 31, 32, 33, 34, 35, 36, 37, 38] (by kernel_rfl) (by kernel_rfl) (by kernel_rfl) ?_
                  refine field_ptr ?_
                  refine field_ptr ?_
                  refine lookD (v := s.vb) ⟨mM, trivial⟩ rfl (lookE4 0 rfl (by decide)) ?_
                  refine field_ptr ?_
                  refine field_ptr ?_
                  refine lookD (v := s.vu) ⟨mM, trivial⟩ rfl (lookE4 1 rfl (by decide)) ?_
                  refine field_ptr ?_
                  refine lookD (v := s.vl) ⟨mM, trivial⟩ rfl (lookE4 3 rfl (by decide)) ?_
                  refine lookD (v := .int .i64 a.length) ⟨mM, trivial⟩ rfl (fun _ _ _ => len_eq hsv rfl) ?_
                  refine buildSlice_fact (size := 1) (n := 1) [su' i] [.one (su' i)] rfl rfl (by decide) (by decide) ⟨Reads.one hone.one, rfl, trivial⟩ fun q2 => ?_
                  refine eGo ⟨mM, trivial⟩ ?_
                  refine buildSlice_fact (size := 1) (n := 1) [sb' i] [.one (sb' i)] rfl rfl (by decide) (by decide) ⟨Reads.one hrow.one, rfl, trivial⟩ fun q1 => ?_
                  refine eGo ⟨mM, trivial⟩ ?_
                  refine make_rule (t := 36) (d := I false []) a.length rfl rfl (by omega) (by omega) fun lr hlr => ?_
                  refine eGo ⟨mM, trivial⟩ ?_
                  first | refine append_one (size := 1) (n := i) (el' := fun y => [Dat.one (sb' i)].getD y (.one undef)) (e' := fun y => .one (sb' y)) 4 rfl hs.vb (Knw.fact mM) eb (by omega) (by omega) fun vb' hvb' => ?_ | refine append_one (size := 1) (n := i) (el' := fun y => [Dat.one (sb' i)].getD y (.one undef)) (e' := fun y => .one (sb' y)) 5 rfl hs.vb (Knw.fact mM) eb (by omega) (by omega) fun vb' hvb' => ?_
                  refine eGo ⟨mM, trivial⟩ ?_
                  refine buildSlice_fact (size := 1) (n := 1) [lr] [.one lr] rfl rfl (by decide) (by decide) ⟨Reads.one hlr.one, rfl, trivial⟩ fun q3 => ?_
                  refine eGo ⟨mM, trivial⟩ ?_
                  first | refine append_one (size := 1) (n := i) (el' := fun y => [Dat.one (su' i)].getD y (.one undef)) (e' := fun y => .one (su' y)) 6 rfl hs.vu (Knw.fact mM) eu (by omega) (by omega) fun vu' hvu' => ?_ | refine append_one (size := 1) (n := i) (el' := fun y => [Dat.one (su' i)].getD y (.one undef)) (e' := fun y => .one (su' y)) 7 rfl hs.vu (Knw.fact mM) eu (by omega) (by omega) fun vu' hvu' => ?_
                  refine eGo ⟨mM, trivial⟩ ?_
                  refine append_one (size := 1) (n := i) (el' := fun y => [Dat.one lr].getD y (.one undef)) (e' := fun y => .one (if y < i then s.sl y else lr)) 10 rfl hs.vl (Knw.fact mM) (fun y _ => by by_cases e : y < i <;> simp [e]) (by omega) (by omega) fun vl' hvl' => ?_
                  refine eGo ⟨mM, trivial⟩ ?_
                  refine field_ptr ?_
                  refine field_ptr ?_
                  refine store4 3 0 rfl rfl (by decide) hvb'.one (by kernel_rfl) ?_
                  refine field_ptr ?_
                  refine field_ptr ?_
                  refine store4 3 1 rfl rfl (by decide) hvu'.one (by kernel_rfl) ?_
                  refine field_ptr ?_
                  refine store4 3 3 rfl rfl (by decide) hvl'.one (by kernel_rfl) ?_
                  exact again (lr, vb', vu', vl') ⟨hlr, hvb', hvu', hvl'⟩ trivial mF (Seals.sub (fun F hF => by repeat (first | exact hF | apply List.Mem.tail)))
              · refine ordE_go [own4 (ptr0 s.r 0) s.vb s.vu s.vd s.vl] [7, 15, 22, 24] [9, 10, 17, 18, 25, 26, 27] [] [0, 1, 2, 3, 4, 5, 6, 7, 8, 11, 12, 13, 14, 15, 16, 19, 20, 21, 22, 23, 24, 17, 9, 25, 26, 10, 18, 27, 28, 29, 30, 31, 32, 33, 34, 35, 36, 37, 38] (by kernel_rfl) (by kernel_rfl) (by kernel_rfl) ?_
                refine field_ptr ?_
                refine field_ptr ?_
                refine lookD (v := s.vb) ⟨mM, trivial⟩ rfl (lookE4 0 rfl (by decide)) ?_
                refine field_ptr ?_
                refine field_ptr ?_
                refine lookD (v := s.vu) ⟨mM, trivial⟩ rfl (lookE4 1 rfl (by decide)) ?_
                refine field_ptr ?_
                refine lookD (v := s.vl) ⟨mM, trivial⟩ rfl (lookE4 3 rfl (by decide)) ?_
                refine lookD (v := .int .i64 a.length) ⟨mM, trivial⟩ rfl (fun _ _ _ => len_eq hsv rfl) ?_
                refine buildSlice_fact (size := 1) (n := 1) [su' i] [.one (su' i)] rfl rfl (by decide) (by decide) ⟨Reads.one hone.one, rfl, trivial⟩ fun q2 => ?_
                refine eGo ⟨mM, trivial⟩ ?_
                refine buildSlice_fact (size := 1) (n := 1) [sb' i] [.one (sb' i)] rfl rfl (by decide) (by decide) ⟨Reads.one hrow.one, rfl, trivial⟩ fun q1 => ?_
                refine eGo ⟨mM, trivial⟩ ?_
                refine make_rule (t := 36) (d := I false []) a.length rfl rfl (by omega) (by omega) fun lr hlr => ?_
                refine eGo ⟨mM, trivial⟩ ?_
                refine buildSlice_fact (size := 1) (n := 1) [lr] [.one lr] rfl rfl (by decide) (by decide) ⟨Reads.one hlr.one, rfl, trivial⟩ fun q3 => ?_
                refine eGo ⟨mM, trivial⟩ ?_
                first | refine append_one (size := 1) (n := i) (el' := fun y => [Dat.one (sb' i)].getD y (.one undef)) (e' := fun y => .one (sb' y)) 4 rfl hs.vb (Knw.fact mM) eb (by omega) (by omega) fun vb' hvb' => ?_ | refine append_one (size := 1) (n := i) (el' := fun y => [Dat.one (sb' i)].getD y (.one undef)) (e' := fun y => .one (sb' y)) 5 rfl hs.vb (Knw.fact mM) eb (by omega) (by omega) fun vb' hvb' => ?_
                refine eGo ⟨mM, trivial⟩ ?_
                first | refine append_one (size := 1) (n := i) (el' := fun y => [Dat.one (su' i)].getD y (.one undef)) (e' := fun y => .one (su' y)) 6 rfl hs.vu (Knw.fact mM) eu (by omega) (by omega) fun vu' hvu' => ?_ | refine append_one (size := 1) (n := i) (el' := fun y => [Dat.one (su' i)].getD y (.one undef)) (e' := fun y => .one (su' y)) 7 rfl hs.vu (Knw.fact mM) eu (by omega) (by omega) fun vu' hvu' => ?_
                refine eGo ⟨mM, trivial⟩ ?_
                refine append_one (size := 1) (n := i) (el' := fun y => [Dat.one lr].getD y (.one undef)) (e' := fun y => .one (if y < i then s.sl y else lr)) 10 rfl hs.vl (Knw.fact mM) (fun y _ => by by_cases e : y < i <;> simp [e]) (by omega) (by omega) fun vl' hvl' => ?_
                refine eGo ⟨mM, trivial⟩ ?_
                refine field_ptr ?_
                refine field_ptr ?_
                refine store4 3 0 rfl rfl (by decide) hvb'.one (by kernel_rfl) ?_
                refine field_ptr ?_
                refine field_ptr ?_
                refine store4 3 1 rfl rfl (by decide) hvu'.one (by kernel_rfl) ?_
                refine field_ptr ?_
                refine store4 3 3 rfl rfl (by decide) hvl'.one (by kernel_rfl) ?_
                exact again (lr, vb', vu', vl') ⟨hlr, hvb', hvu', hvl'⟩ trivial mF (Seals.sub (fun F hF => by repeat (first | exact hF | apply List.Mem.tail)))
          · refine ord_split 9 26 (by kernel_rfl) (by kernel_rfl) (by kernel_rfl) ?_ ?_
            · refine ord_split 10 26 (by kernel_rfl) (by kernel_rfl) (by kernel_rfl) ?_ ?_
              · refine ord_split 17 25 (by kernel_rfl) (by kernel_rfl) (by kernel_rfl) ?_ ?_
                · refine ord_split 18 26 (by kernel_rfl) (by kernel_rfl) (by kernel_rfl) ?_ ?_
                  · refine ordE_go [own4 (ptr0 s.r 0) s.vb s.vu s.vd s.vl] [7, 15, 22, 24] [9, 10, 17, 18, 25, 26, 27] [] [0, 1, 2, 3, 4, 5, 6, 7, 8, 11, 12, 13, 14, 15, 16, 19, 20, 21, 22, 23, 24, 17, 25, 9, 10, 18, 26, 27, 28, 29, 30, 31, 32, 33, 34, 35, 36, 37, 38] (by kernel_rfl) (by kernel_rfl) (by kernel_rfl) ?_
                    refine field_ptr ?_
                    refine field_ptr ?_
                    refine lookD (v := s.vb) ⟨mM, trivial⟩ rfl (lookE4 0 rfl (by decide)) ?_
                    refine field_ptr ?_
                    refine field_ptr ?_
                    refine lookD (v := s.vu) ⟨mM, trivial⟩ rfl (lookE4 1 rfl (by decide)) ?_
                    refine field_ptr ?_
                    refine lookD (v := s.vl) ⟨mM, trivial⟩ rfl (lookE4 3 rfl (by decide)) ?_
                    refine lookD (v := .int .i64 a.length) ⟨mM, trivial⟩ rfl (fun _ _ _ => len_eq hsv rfl) ?_
                    refine buildSlice_fact (size := 1) (n := 1) [su' i] [.one (su' i)] rfl rfl (by decide) (by decide) ⟨Reads.one hone.one, rfl, trivial⟩ fun q2 => ?_
                    refine eGo ⟨mM, trivial⟩ ?_
                    refine make_rule (t := 36) (d := I false []) a.length rfl rfl (by omega) (by omega) fun lr hlr => ?_
                    refine eGo ⟨mM, trivial⟩ ?_
                    refine buildSlice_fact (size := 1) (n := 1) [sb' i] [.one (sb' i)] rfl rfl (by decide) (by decide) ⟨Reads.one hrow.one, rfl, trivial⟩ fun q1 => ?_
                    refine eGo ⟨mM, trivial⟩ ?_
                    first | refine append_one (size := 1) (n := i) (el' := fun y => [Dat.one (sb' i)].getD y (.one undef)) (e' := fun y => .one (sb' y)) 4 rfl hs.vb (Knw.fact mM) eb (by omega) (by omega) fun vb' hvb' => ?_ | refine append_one (size := 1) (n := i) (el' := fun y => [Dat.one (sb' i)].getD y (.one undef)) (e' := fun y => .one (sb' y)) 5 rfl hs.vb (Knw.fact mM) eb (by omega) (by omega) fun vb' hvb' => ?_
                    refine eGo ⟨mM, trivial⟩ ?_
                    first | refine append_one (size := 1) (n := i) (el' := fun y => [Dat.one (su' i)].getD y (.one undef)) (e' := fun y => .one (su' y)) 6 rfl hs.vu (Knw.fact mM) eu (by omega) (by omega) fun vu' hvu' => ?_ | refine append_one (size := 1) (n := i) (el' := fun y => [Dat.one (su' i)].getD y (.one undef)) (e' := fun y => .one (su' y)) 7 rfl hs.vu (Knw.fact mM) eu (by omega) (by omega) fun vu' hvu' => ?_
                    refine eGo ⟨mM, trivial⟩ ?_
                    refine buildSlice_fact (size := 1) (n := 1) [lr] [.one lr] rfl rfl (by decide) (by decide) ⟨Reads.one hlr.one, rfl, trivial⟩ fun q3 => ?_
                    refine eGo ⟨mM, trivial⟩ ?_
                    refine append_one (size := 1) (n := i) (el' := fun y => [Dat.one lr].getD y (.one undef)) (e' := fun y => .one (if y < i then s.sl y else lr)) 10 rfl hs.vl (Knw.fact mM) (fun y _ => by by_cases e : y < i <;> simp [e]) (by omega) (by omega) fun vl' hvl' => ?_
                    refine eGo ⟨mM, trivial⟩ ?_
                    refine field_ptr ?_
                    refine field_ptr ?_
                    refine store4 3 0 rfl rfl (by decide) hvb'.one (by kernel_rfl) ?_
                    refine field_ptr ?_
                    refine field_ptr ?_
                    refine store4 3 1 rfl rfl (by decide) hvu'.one (by kernel_rfl) ?_
                    refine field_ptr ?_
                    refine store4 3 3 rfl rfl (by decide) hvl'.one (by kernel_rfl) ?_
                    exact again (lr, vb', vu', vl') ⟨hlr, hvb', hvu', hvl'⟩ trivial mF (Seals.sub (fun F hF => by repeat (first | exact hF | apply List.Mem.tail)))
                  · refine ordE_go [own4 (ptr0 s.r 0) s.vb s.vu s.vd s.vl] [7, 15, 22, 24] [9, 10, 17, 18, 25, 26, 27] [] [0, 1, 2, 3, 4, 5, 6, 7, 8, 11, 12, 13, 14, 15, 16, 19, 20, 21, 22, 23, 24, 17, 25, 9, 10, 26, 18, 27, 28, 29, 30, 31, 32, 33, 34, 35, 36, 37, 38] (by kernel_rfl) (by kernel_rfl) (by kernel_rfl) ?_
                    refine field_ptr ?_
                    refine field_ptr ?_
                    refine lookD (v := s.vb) ⟨mM, trivial⟩ rfl (lookE4 0 rfl (by decide)) ?_
                    refine field_ptr ?_
                    refine field_ptr ?_
                    refine lookD (v := s.vu) ⟨mM, trivial⟩ rfl (lookE4 1 rfl (by decide)) ?_
                    refine field_ptr ?_
                    refine lookD (v := s.vl) ⟨mM, trivial⟩ rfl (lookE4 3 rfl (by decide)) ?_
                    refine lookD (v := .int .i64 a.length) ⟨mM, trivial⟩ rfl (fun _ _ _ => len_eq hsv rfl) ?_
                    refine buildSlice_fact (size := 1) (n := 1) [su' i] [.one (su' i)] rfl rfl (by decide) (by decide) ⟨Reads.one hone.one, rfl, trivial⟩ fun q2 => ?_
                    refine eGo ⟨mM, trivial⟩ ?_
                    refine make_rule (t := 36) (d := I false []) a.length rfl rfl (by omega) (by omega) fun lr hlr => ?_
                    refine eGo ⟨mM, trivial⟩ ?_
                    refine buildSlice_fact (size := 1) (n := 1) [sb' i] [.one (sb' i)] rfl rfl (by decide) (by decide) ⟨Reads.one hrow.one, rfl, trivial⟩ fun q1 => ?_
                    refine eGo ⟨mM, trivial⟩ ?_
                    first | refine append_one (size := 1) (n := i) (el' := fun y => [Dat.one (sb' i)].getD y (.one undef)) (e' := fun y => .one (sb' y)) 4 rfl hs.vb (Knw.fact mM) eb (by omega) (by omega) fun vb' hvb' => ?_ | refine append_one (size := 1) (n := i) (el' := fun y => [Dat.one (sb' i)].getD y (.one undef)) (e' := fun y => .one (sb' y)) 5 rfl hs.vb (Knw.fact mM) eb (by omega) (by omega) fun vb' hvb' => ?_
                    refine eGo ⟨mM, trivial⟩ ?_
                    refine buildSlice_fact (size := 1) (n := 1) [lr] [.one lr] rfl rfl (by decide) (by decide) ⟨Reads.one hlr.one, rfl, trivial⟩ fun q3 => ?_
                    refine eGo ⟨mM, trivial⟩ ?_
                    first | refine append_one (size := 1) (n := i) (el' := fun y => [Dat.one (su' i)].getD y (.one undef)) (e' := fun y => .one (su' y)) 6 rfl hs.vu (Knw.fact mM) eu (by omega) (by omega) fun vu' hvu' => ?_ | refine append_one (size := 1) (n := i) (el' := fun y => [Dat.one (su' i)].getD y (.one undef)) (e' := fun y => .one (su' y)) 7 rfl hs.vu (Knw.fact mM) eu (by omega) (by omega) fun vu' hvu' => ?_
                    refine eGo ⟨mM, trivial⟩ ?_
                    refine append_one (size := 1) (n := i) (el' := fun y => [Dat.one lr].getD y (.one undef)) (e' := fun y => .one (if y < i then s.sl y else lr)) 10 rfl hs.vl (Knw.fact mM) (fun y _ => by by_cases e : y < i <;> simp [e]) (by omega) (by omega) fun vl' hvl' => ?_
                    refine eGo ⟨mM, trivial⟩ ?_
                    refine field_ptr ?_
                    refine field_ptr ?_
                    refine store4 3 0 rfl rfl (by decide) hvb'.one (by kernel_rfl) ?_
                    refine field_ptr ?_
                    refine field_ptr ?_
                    refine store4 3 1 rfl rfl (by decide) hvu'.one (by kernel_rfl) ?_
                    refine field_ptr ?_
                    refine store4 3 3 rfl rfl (by decide) hvl'.one (by kernel_rfl) ?_
                    exact again (lr, vb', vu', vl') ⟨hlr, hvb', hvu', hvl'⟩ trivial mF (Seals.sub (fun F hF => by repeat (first | exact hF | apply List.Mem.tail)))
                · refine ord_split 18 26 (by kernel_rfl) (by kernel_rfl) (by kernel_rfl) ?_ ?_
                  · refine ordE_go [own4 (ptr0 s.r 0) s.vb s.vu s.vd s.vl] [7, 15, 22, 24] [9, 10, 17, 18, 25, 26, 27] [] [0, 1, 2, 3, 4, 5, 6, 7, 8, 11, 12, 13, 14, 15, 16, 19, 20, 21, 22, 23, 24, 25, 17, 9, 10, 18, 26, 27, 28, 29, 30, 31, 32, 33, 34, 35, 36, 37, 38] (by kernel_rfl) (by kernel_rfl) (by kernel_rfl) ?_
                    refine field_ptr ?_
                    refine field_ptr ?_
                    refine lookD (v := s.vb) ⟨mM, trivial⟩ rfl (lookE4 0 rfl (by decide)) ?_
                    refine field_ptr ?_
                    refine field_ptr ?_
                    refine lookD (v := s.vu) ⟨mM, trivial⟩ rfl (lookE4 1 rfl (by decide)) ?_
                    refine field_ptr ?_
                    refine lookD (v := s.vl) ⟨mM, trivial⟩ rfl (lookE4 3 rfl (by decide)) ?_
                    refine lookD (v := .int .i64 a.length) ⟨mM, trivial⟩ rfl (fun _ _ _ => len_eq hsv rfl) ?_
                    refine make_rule (t := 36) (d := I false []) a.length rfl rfl (by omega) (by omega) fun lr hlr => ?_
                    refine eGo ⟨mM, trivial⟩ ?_
                    refine buildSlice_fact (size := 1) (n := 1) [su' i] [.one (su' i)] rfl rfl (by decide) (by decide) ⟨Reads.one hone.one, rfl, trivial⟩ fun q2 => ?_
                    refine eGo ⟨mM, trivial⟩ ?_
                    refine buildSlice_fact (size := 1) (n := 1) [sb' i] [.one (sb' i)] rfl rfl (by decide) (by decide) ⟨Reads.one hrow.one, rfl, trivial⟩ fun q1 => ?_
                    refine eGo ⟨mM, trivial⟩ ?_
                    first | refine append_one (size := 1) (n := i) (el' := fun y => [Dat.one (sb' i)].getD y (.one undef)) (e' := fun y => .one (sb' y)) 4 rfl hs.vb (Knw.fact mM) eb (by omega) (by omega) fun vb' hvb' => ?_ | refine append_one (size := 1) (n := i) (el' := fun y => [Dat.one (sb' i)].getD y (.one undef)) (e' := fun y => .one (sb' y)) 5 rfl hs.vb (Knw.fact mM) eb (by omega) (by omega) fun vb' hvb' => ?_
                    refine eGo ⟨mM, trivial⟩ ?_
                    first | refine append_one (size := 1) (n := i) (el' := fun y => [Dat.one (su' i)].getD y (.one undef)) (e' := fun y => .one (su' y)) 6 rfl hs.vu (Knw.fact mM) eu (by omega) (by omega) fun vu' hvu' => ?_ | refine append_one (size := 1) (n := i) (el' := fun y => [Dat.one (su' i)].getD y (.one undef)) (e' := fun y => .one (su' y)) 7 rfl hs.vu (Knw.fact mM) eu (by omega) (by omega) fun vu' hvu' => ?_
                    refine eGo ⟨mM, trivial⟩ ?_
                    refine buildSlice_fact (size := 1) (n := 1) [lr] [.one lr] rfl rfl (by decide) (by decide) ⟨Reads.one hlr.one, rfl, trivial⟩ fun q3 => ?_
                    refine eGo ⟨mM, trivial⟩ ?_
                    refine append_one (size := 1) (n := i) (el' := fun y => [Dat.one lr].getD y (.one undef)) (e' := fun y => .one (if y < i then s.sl y else lr)) 10 rfl hs.vl (Knw.fact mM) (fun y _ => by by_cases e : y < i <;> simp [e]) (by omega) (by omega) fun vl' hvl' => ?_
                    refine eGo ⟨mM, trivial⟩ ?_
                    refine field_ptr ?_
                    refine field_ptr ?_
                    refine store4 3 0 rfl rfl (by decide) hvb'.one (by kernel_rfl) ?_
                    refine field_ptr ?_
                    refine field_ptr ?_
                    refine store4 3 1 rfl rfl (by decide) hvu'.one (by kernel_rfl) ?_
                    refine field_ptr ?_
                    refine store4 3 3 rfl rfl (by decide) hvl'.one (by kernel_rfl) ?_
                    exact again (lr, vb', vu', vl') ⟨hlr, hvb', hvu', hvl'⟩ trivial mF (Seals.sub (fun F hF => by repeat (first | exact hF | apply List.Mem.tail)))
                  · refine ordE_go [own4 (ptr0 s.r 0) s.vb s.vu s.vd s.vl] [7, 15, 22, 24] [9, 10, 17, 18, 25, 26, 27] [] [0, 1, 2, 3, 4, 5, 6, 7, 8, 11, 12, 13, 14, 15, 16, 19, 20, 21, 22, 23, 24, 25, 17, 9, 10, 26, 18, 27, 28, 29, 30, 31, 32, 33, 34, 35, 36, 37, 38] (by kernel_rfl) (by kernel_rfl) (by kernel_rfl) ?_
                    refine field_ptr ?_
                    refine field_ptr ?_
                    refine lookD (v := s.vb) ⟨mM, trivial⟩ rfl (lookE4 0 rfl (by decide)) ?_
                    refine field_ptr ?_
                    refine field_ptr ?_
                    refine lookD (v := s.vu) ⟨mM, trivial⟩ rfl (lookE4 1 rfl (by decide)) ?_
                    refine field_ptr ?_
                    refine lookD (v := s.vl) ⟨mM, trivial⟩ rfl (lookE4 3 rfl (by decide)) ?_
                    refine lookD (v := .int .i64 a.length) ⟨mM, trivial⟩ rfl (fun _ _ _ => len_eq hsv rfl) ?_
                    refine make_rule (t := 36) (d := I false []) a.length rfl rfl (by omega) (by omega) fun lr hlr => ?_
                    refine eGo ⟨mM, trivial⟩ ?_
                    refine buildSlice_fact (size := 1) (n := 1) [su' i] [.one (su' i)] rfl rfl (by decide) (by decide) ⟨Reads.one hone.one, rfl, trivial⟩ fun q2 => ?_
                    refine eGo ⟨mM, trivial⟩ ?_
                    refine buildSlice_fact (size := 1) (n := 1) [sb' i] [.one (sb' i)] rfl rfl (by decide) (by decide) ⟨Reads.one hrow.one, rfl, trivial⟩ fun q1 => ?_
                    refine eGo ⟨mM, trivial⟩ ?_
                    first | refine append_one (size := 1) (n := i) (el' := fun y => [Dat.one (sb' i)].getD y (.one undef)) (e' := fun y => .one (sb' y)) 4 rfl hs.vb (Knw.fact mM) eb (by omega) (by omega) fun vb' hvb' => ?_ | refine append_one (size := 1) (n := i) (el' := fun y => [Dat.one (sb' i)].getD y (.one undef)) (e' := fun y => .one (sb' y)) 5 rfl hs.vb (Knw.fact mM) eb (by omega) (by omega) fun vb' hvb' => ?_
                    refine eGo ⟨mM, trivial⟩ ?_
                    refine buildSlice_fact (size := 1) (n := 1) [lr] [.one lr] rfl rfl (by decide) (by decide) ⟨Reads.one hlr.one, rfl, trivial⟩ fun q3 => ?_
                    refine eGo ⟨mM, trivial⟩ ?_
                    first | refine append_one (size := 1) (n := i) (el' := fun y => [Dat.one (su' i)].getD y (.one undef)) (e' := fun y => .one (su' y)) 6 rfl hs.vu (Knw.fact mM) eu (by omega) (by omega) fun vu' hvu' => ?_ | refine append_one (size := 1) (n := i) (el' := fun y => [Dat.one (su' i)].getD y (.one undef)) (e' := fun y => .one (su' y)) 7 rfl hs.vu (Knw.fact mM) eu (by omega) (by omega) fun vu' hvu' => ?_
                    refine eGo ⟨mM, trivial⟩ ?_
                    refine append_one (size := 1) (n := i) (el' := fun y => [Dat.one lr].getD y (.one undef)) (e' := fun y => .one (if y < i then s.sl y else lr)) 10 rfl hs.vl (Knw.fact mM) (fun y _ => by by_cases e : y < i <;> simp [e]) (by omega) (by omega) fun vl' hvl' => ?_
                    refine eGo ⟨mM, trivial⟩ ?_
                    refine field_ptr ?_
                    refine field_ptr ?_
                    refine store4 3 0 rfl rfl (by decide) hvb'.one (by kernel_rfl) ?_
                    refine field_ptr ?_
                    refine field_ptr ?_
                    refine store4 3 1 rfl rfl (by decide) hvu'.one (by kernel_rfl) ?_
                    refine field_ptr ?_
                    refine store4 3 3 rfl rfl (by decide) hvl'.one (by kernel_rfl) ?_
                    exact again (lr, vb', vu', vl') ⟨hlr, hvb', hvu', hvl'⟩ trivial mF (Seals.sub (fun F hF => by repeat (first | exact hF | apply List.Mem.tail)))
              · refine ord_split 17 25 (by kernel_rfl) (by kernel_rfl) (by kernel_rfl) ?_ ?_
                · refine ordE_go [own4 (ptr0 s.r 0) s.vb s.vu s.vd s.vl] [7, 15, 22, 24] [9, 10, 17, 18, 25, 26, 27] [] [0, 1, 2, 3, 4, 5, 6, 7, 8, 11, 12, 13, 14, 15, 16, 19, 20, 21, 22, 23, 24, 17, 25, 9, 26, 10, 18, 27, 28, 29, 30, 31, 32, 33, 34, 35, 36, 37, 38] (by kernel_rfl) (by kernel_rfl) (by kernel_rfl) ?_
                  refine field_ptr ?_
                  refine field_ptr ?_
                  refine lookD (v := s.vb) ⟨mM, trivial⟩ rfl (lookE4 0 rfl (by decide)) ?_
                  refine field_ptr ?_
                  refine field_ptr ?_
                  refine lookD (v := s.vu) ⟨mM, trivial⟩ rfl (lookE4 1 rfl (by decide)) ?_
                  refine field_ptr ?_
                  refine lookD (v := s.vl) ⟨mM, trivial⟩ rfl (lookE4 3 rfl (by decide)) ?_
                  refine lookD (v := .int .i64 a.length) ⟨mM, trivial⟩ rfl (fun _ _ _ => len_eq hsv rfl) ?_
                  refine buildSlice_fact (size := 1) (n := 1) [su' i] [.one (su' i)] rfl rfl (by decide) (by decide) ⟨Reads.one hone.one, rfl, trivial⟩ fun q2 => ?_
                  refine eGo ⟨mM, trivial⟩ ?_
                  refine make_rule (t := 36) (d := I false []) a.length rfl rfl (by omega) (by omega) fun lr hlr => ?_
                  refine eGo ⟨mM, trivial⟩ ?_
                  refine buildSlice_fact (size := 1) (n := 1) [sb' i] [.one (sb' i)] rfl rfl (by decide) (by decide) ⟨Reads.one hrow.one, rfl, trivial⟩ fun q1 => ?_
                  refine eGo ⟨mM, trivial⟩ ?_
                  refine buildSlice_fact (size := 1) (n := 1) [lr] [.one lr] rfl rfl (by decide) (by decide) ⟨Reads.one hlr.one, rfl, trivial⟩ fun q3 => ?_
                  refine eGo ⟨mM, trivial⟩ ?_
                  first | refine append_one (size := 1) (n := i) (el' := fun y => [Dat.one (sb' i)].getD y (.one undef)) (e' := fun y => .one (sb' y)) 4 rfl hs.vb (Knw.fact mM) eb (by omega) (by omega) fun vb' hvb' => ?_ | refine append_one (size := 1) (n := i) (el' := fun y => [Dat.one (sb' i)].getD y (.one undef)) (e' := fun y => .one (sb' y)) 5 rfl hs.vb (Knw.fact mM) eb (by omega) (by omega) fun vb' hvb' => ?_
                  refine eGo ⟨mM, trivial⟩ ?_
                  first | refine append_one (size := 1) (n := i) (el' := fun y => [Dat.one (su' i)].getD y (.one undef)) (e' := fun y => .one (su' y)) 6 rfl hs.vu (Knw.fact mM) eu (by omega) (by omega) fun vu' hvu' => ?_ | refine append_one (size := 1) (n := i) (el' := fun y => [Dat.one (su' i)].getD y (.one undef)) (e' := fun y => .one (su' y)) 7 rfl hs.vu (Knw.fact mM) eu (by omega) (by omega) fun vu' hvu' => ?_
                  refine eGo ⟨mM, trivial⟩ ?_
                  refine append_one (size := 1) (n := i) (el' := fun y => [Dat.one lr].getD y (.one undef)) (e' := fun y => .one (if y < i then s.sl y else lr)) 10 rfl hs.vl (Knw.fact mM) (fun y _ => by by_cases e : y < i <;> simp [e]) (by omega) (by omega) fun vl' hvl' => ?_
                  refine eGo ⟨mM, trivial⟩ ?_
                  refine field_ptr ?_
                  refine field_ptr ?_
                  refine store4 3 0 rfl rfl (by decide) hvb'.one (by kernel_rfl) ?_
                  refine field_ptr ?_
                  refine field_ptr ?_
                  refine store4 3 1 rfl rfl (by decide) hvu'.one (by kernel_rfl) ?_
                  refine field_ptr ?_
                  refine store4 3 3 rfl rfl (by decide) hvl'.one (by kernel_rfl) ?_
                  exact again (lr, vb', vu', vl') ⟨hlr, hvb', hvu', hvl'⟩ trivial mF (Seals.sub (fun F hF => by repeat (first | exact hF | apply List.Mem.tail)))
                · refine ordE_go [own4 (ptr0 s.r 0) s.vb s.vu s.vd s.vl] [7, 15, 22, 24] [9, 10, 17, 18, 25, 26, 27] [] [0, 1, 2, 3, 4, 5, 6, 7, 8, 11, 12, 13, 14, 15, 16, 19, 20, 21, 22, 23, 24, 25, 17, 9, 26, 10, 18, 27, 28, 29, 30, 31, 32, 33, 34, 35, 36, 37, 38] (by kernel_rfl) (by kernel_rfl) (by kernel_rfl) ?_
                  refine field_ptr ?_
                  refine field_ptr ?_
                  refine lookD (v := s.vb) ⟨mM, trivial⟩ rfl (lookE4 0 rfl (by decide)) ?_
                  refine field_ptr ?_
                  refine field_ptr ?_
                  refine lookD (v := s.vu) ⟨mM, trivial⟩ rfl (lookE4 1 rfl (by decide)) ?_
                  refine field_ptr ?_
                  refine lookD (v := s.vl) ⟨mM, trivial⟩ rfl (lookE4 3 rfl (by decide)) ?_
                  refine lookD (v := .int .i64 a.length) ⟨mM, trivial⟩ rfl (fun _ _ _ => len_eq hsv rfl) ?_
                  refine make_rule (t := 36) (d := I false []) a.length rfl rfl (by omega) (by omega) fun lr hlr => ?_
                  refine eGo ⟨mM, trivial⟩ ?_
                  refine buildSlice_fact (size := 1) (n := 1) [su' i] [.one (su' i)] rfl rfl (by decide) (by decide) ⟨Reads.one hone.one, rfl, trivial⟩ fun q2 => ?_
                  refine eGo ⟨mM, trivial⟩ ?_
                  refine buildSlice_fact (size := 1) (n := 1) [sb' i] [.one (sb' i)] rfl rfl (by decide) (by decide) ⟨Reads.one hrow.one, rfl, trivial⟩ fun q1 => ?_
                  refine eGo ⟨mM, trivial⟩ ?_
                  refine buildSlice_fact (size := 1) (n := 1) [lr] [.one lr] rfl rfl (by decide) (by decide) ⟨Reads.one hlr.one, rfl, trivial⟩ fun q3 => ?_
                  refine eGo ⟨mM, trivial⟩ ?_
                  first | refine append_one (size := 1) (n := i) (el' := fun y => [Dat.one (sb' i)].getD y (.one undef)) (e' := fun y => .one (sb' y)) 4 rfl hs.vb (Knw.fact mM) eb (by omega) (by omega) fun vb' hvb' => ?_ | refine append_one (size := 1) (n := i) (el' := fun y => [Dat.one (sb' i)].getD y (.one undef)) (e' := fun y => .one (sb' y)) 5 rfl hs.vb (Knw.fact mM) eb (by omega) (by omega) fun vb' hvb' => ?_
                  refine eGo ⟨mM, trivial⟩ ?_
                  first | refine append_one (size := 1) (n := i) (el' := fun y => [Dat.one (su' i)].getD y (.one undef)) (e' := fun y => .one (su' y)) 6 rfl hs.vu (Knw.fact mM) eu (by omega) (by omega) fun vu' hvu' => ?_ | refine append_one (size := 1) (n := i) (el' := fun y => [Dat.one (su' i)].getD y (.one undef)) (e' := fun y => .one (su' y)) 7 rfl hs.vu (Knw.fact mM) eu (by omega) (by omega) fun vu' hvu' => ?_
                  refine eGo ⟨mM, trivial⟩ ?_
                  refine append_one (size := 1) (n := i) (el' := fun y => [Dat.one lr].getD y (.one undef)) (e' := fun y => .one (if y < i then s.sl y else lr)) 10 rfl hs.vl (Knw.fact mM) (fun y _ => by by_cases e : y < i <;> simp [e]) (by omega) (by omega) fun vl' hvl' => ?_
                  refine eGo ⟨mM, trivial⟩ ?_
                  refine field_ptr ?_
                  refine field_ptr ?_
                  refine store4 3 0 rfl rfl (by decide) hvb'.one (by kernel_rfl) ?_
                  refine field_ptr ?_
                  refine field_ptr ?_
                  refine store4 3 1 rfl rfl (by decide) hvu'.one (by kernel_rfl) ?_
                  refine field_ptr ?_
                  refine store4 3 3 rfl rfl (by decide) hvl'.one (by kernel_rfl) ?_
                  exact again (lr, vb', vu', vl') ⟨hlr, hvb', hvu', hvl'⟩ trivial mF (Seals.sub (fun F hF => by repeat (first | exact hF | apply List.Mem.tail)))
            · refine ord_split 17 25 (by kernel_rfl) (by kernel_rfl) (by kernel_rfl) ?_ ?_
              · refine ordE_go [own4 (ptr0 s.r 0) s.vb s.vu s.vd s.vl] [7, 15, 22, 24] [9, 10, 17, 18, 25, 26, 27] [] [0, 1, 2, 3, 4, 5, 6, 7, 8, 11, 12, 13, 14, 15, 16, 19, 20, 21, 22, 23, 24, 17, 25, 26, 9, 10, 18, 27, 28, 29, 30, 31, 32, 33, 34, 35, 36, 37, 38] (by kernel_rfl) (by kernel_rfl) (by kernel_rfl) ?_
                refine field_ptr ?_
                refine field_ptr ?_
                refine lookD (v := s.vb) ⟨mM, trivial⟩ rfl (lookE4 0 rfl (by decide)) ?_
                refine field_ptr ?_
                refine field_ptr ?_
                refine lookD (v := s.vu) ⟨mM, trivial⟩ rfl (lookE4 1 rfl (by decide)) ?_
                refine field_ptr ?_
                refine lookD (v := s.vl) ⟨mM, trivial⟩ rfl (lookE4 3 rfl (by decide)) ?_
                refine lookD (v := .int .i64 a.length) ⟨mM, trivial⟩ rfl (fun _ _ _ => len_eq hsv rfl) ?_
                refine buildSlice_fact (size := 1) (n := 1) [su' i] [.one (su' i)] rfl rfl (by decide) (by decide) ⟨Reads.one hone.one, rfl, trivial⟩ fun q2 => ?_
                refine eGo ⟨mM, trivial⟩ ?_
                refine make_rule (t := 36) (d := I false []) a.length rfl rfl (by omega) (by omega) fun lr hlr => ?_
                refine eGo ⟨mM, trivial⟩ ?_
                refine buildSlice_fact (size := 1) (n := 1) [lr] [.one lr] rfl rfl (by decide) (by decide) ⟨Reads.one hlr.one, rfl, trivial⟩ fun q3 => ?_
                refine eGo ⟨mM, trivial⟩ ?_
                refine buildSlice_fact (size := 1) (n := 1) [sb' i] [.one (sb' i)] rfl rfl (by decide) (by decide) ⟨Reads.one hrow.one, rfl, trivial⟩ fun q1 => ?_
                refine eGo ⟨mM, trivial⟩ ?_
                first | refine append_one (size := 1) (n := i) (el' := fun y => [Dat.one (sb' i)].getD y (.one undef)) (e' := fun y => .one (sb' y)) 4 rfl hs.vb (Knw.fact mM) eb (by omega) (by omega) fun vb' hvb' => ?_ | refine append_one (size := 1) (n := i) (el' := fun y => [Dat.one (sb' i)].getD y (.one undef)) (e' := fun y => .one (sb' y)) 5 rfl hs.vb (Knw.fact mM) eb (by omega) (by omega) fun vb' hvb' => ?_
                refine eGo ⟨mM, trivial⟩ ?_
                first | refine append_one (size := 1) (n := i) (el' := fun y => [Dat.one (su' i)].getD y (.one undef)) (e' := fun y => .one (su' y)) 6 rfl hs.vu (Knw.fact mM) eu (by omega) (by omega) fun vu' hvu' => ?_ | refine append_one (size := 1) (n := i) (el' := fun y => [Dat.one (su' i)].getD y (.one undef)) (e' := fun y => .one (su' y)) 7 rfl hs.vu (Knw.fact mM) eu (by omega) (by omega) fun vu' hvu' => ?_
                refine eGo ⟨mM, trivial⟩ ?_
                refine append_one (size := 1) (n := i) (el' := fun y => [Dat.one lr].getD y (.one undef)) (e' := fun y => .one (if y < i then s.sl y else lr)) 10 rfl hs.vl (Knw.fact mM) (fun y _ => by by_cases e : y < i <;> simp [e]) (by omega) (by omega) fun vl' hvl' => ?_
                refine eGo ⟨mM, trivial⟩ ?_
                refine field_ptr ?_
                refine field_ptr ?_
                refine store4 3 0 rfl rfl (by decide) hvb'.one (by kernel_rfl) ?_
                refine field_ptr ?_
                refine field_ptr ?_
                refine store4 3 1 rfl rfl (by decide) hvu'.one (by kernel_rfl) ?_
                refine field_ptr ?_
                refine store4 3 3 rfl rfl (by decide) hvl'.one (by kernel_rfl) ?_
                exact again (lr, vb', vu', vl') ⟨hlr, hvb', hvu', hvl'⟩ trivial mF (Seals.sub (fun F hF => by repeat (first | exact hF | apply List.Mem.tail)))
              · refine ord_split 17 26 (by kernel_rfl) (by kernel_rfl) (by kernel_rfl) ?_ ?_
                · refine ordE_go [own4 (ptr0 s.r 0) s.vb s.vu s.vd s.vl] [7, 15, 22, 24] [9, 10, 17, 18, 25, 26, 27] [] [0, 1, 2, 3, 4, 5, 6, 7, 8, 11, 12, 13, 14, 15, 16, 19, 20, 21, 22, 23, 24, 25, 17, 26, 9, 10, 18, 27, 28, 29, 30, 31, 32, 33, 34, 35, 36, 37, 38] (by kernel_rfl) (by kernel_rfl) (by kernel_rfl) ?_
                  refine field_ptr ?_
                  refine field_ptr ?_
                  refine lookD (v := s.vb) ⟨mM, trivial⟩ rfl (lookE4 0 rfl (by decide)) ?_
                  refine field_ptr ?_
                  refine field_ptr ?_
                  refine lookD (v := s.vu) ⟨mM, trivial⟩ rfl (lookE4 1 rfl (by decide)) ?_
                  refine field_ptr ?_
                  refine lookD (v := s.vl) ⟨mM, trivial⟩ rfl (lookE4 3 rfl (by decide)) ?_
                  refine lookD (v := .int .i64 a.length) ⟨mM, trivial⟩ rfl (fun _ _ _ => len_eq hsv rfl) ?_
                  refine make_rule (t := 36) (d := I false []) a.length rfl rfl (by omega) (by omega) fun lr hlr => ?_
                  refine eGo ⟨mM, trivial⟩ ?_
                  refine buildSlice_fact (size := 1) (n := 1) [su' i] [.one (su' i)] rfl rfl (by decide) (by decide) ⟨Reads.one hone.one, rfl, trivial⟩ fun q2 => ?_
                  refine eGo ⟨mM, trivial⟩ ?_
                  refine buildSlice_fact (size := 1) (n := 1) [lr] [.one lr] rfl rfl (by decide) (by decide) ⟨Reads.one hlr.one, rfl, trivial⟩ fun q3 => ?_
                  refine eGo ⟨mM, trivial⟩ ?_
                  refine buildSlice_fact (size := 1) (n := 1) [sb' i] [.one (sb' i)] rfl rfl (by decide) (by decide) ⟨Reads.one hrow.one, rfl, trivial⟩ fun q1 => ?_
                  refine eGo ⟨mM, trivial⟩ ?_
                  first | refine append_one (size := 1) (n := i) (el' := fun y => [Dat.one (sb' i)].getD y (.one undef)) (e' := fun y => .one (sb' y)) 4 rfl hs.vb (Knw.fact mM) eb (by omega) (by omega) fun vb' hvb' => ?_ | refine append_one (size := 1) (n := i) (el' := fun y => [Dat.one (sb' i)].getD y (.one undef)) (e' := fun y => .one (sb' y)) 5 rfl hs.vb (Knw.fact mM) eb (by omega) (by omega) fun vb' hvb' => ?_
                  refine eGo ⟨mM, trivial⟩ ?_
                  first | refine append_one (size := 1) (n := i) (el' := fun y => [Dat.one (su' i)].getD y (.one undef)) (e' := fun y => .one (su' y)) 6 rfl hs.vu (Knw.fact mM) eu (by omega) (by omega) fun vu' hvu' => ?_ | refine append_one (size := 1) (n := i) (el' := fun y => [Dat.one (su' i)].getD y (.one undef)) (e' := fun y => .one (su' y)) 7 rfl hs.vu (Knw.fact mM) eu (by omega) (by omega) fun vu' hvu' => ?_
                  refine eGo ⟨mM, trivial⟩ ?_
                  refine append_one (size := 1) (n := i) (el' := fun y => [Dat.one lr].getD y (.one undef)) (e' := fun y => .one (if y < i then s.sl y else lr)) 10 rfl hs.vl (Knw.fact mM) (fun y _ => by by_cases e : y < i <;> simp [e]) (by omega) (by omega) fun vl' hvl' => ?_
                  refine eGo ⟨mM, trivial⟩ ?_
                  refine field_ptr ?_
                  refine field_ptr ?_
                  refine store4 3 0 rfl rfl (by decide) hvb'.one (by kernel_rfl) ?_
                  refine field_ptr ?_
                  refine field_ptr ?_
                  refine store4 3 1 rfl rfl (by decide) hvu'.one (by kernel_rfl) ?_
                  refine field_ptr ?_
                  refine store4 3 3 rfl rfl (by decide) hvl'.one (by kernel_rfl) ?_
                  exact again (lr, vb', vu', vl') ⟨hlr, hvb', hvu', hvl'⟩ trivial mF (Seals.sub (fun F hF => by repeat (first | exact hF | apply List.Mem.tail)))
                · refine ordE_go [own4 (ptr0 s.r 0) s.vb s.vu s.vd s.vl] [7, 15, 22, 24] [9, 10, 17, 18, 25, 26, 27] [] [0, 1, 2, 3, 4, 5, 6, 7, 8, 11, 12, 13, 14, 15, 16, 19, 20, 21, 22, 23, 24, 25, 26, 17, 9, 10, 18, 27, 28, 29, 30, 31, 32, 33, 34, 35, 36, 37, 38] (by kernel_rfl) (by kernel_rfl) (by kernel_rfl) ?_
                  refine field_ptr ?_
                  refine field_ptr ?_
                  refine lookD (v := s.vb) ⟨mM, trivial⟩ rfl (lookE4 0 rfl (by decide)) ?_
                  refine field_ptr ?_
                  refine field_ptr ?_
                  refine lookD (v := s.vu) ⟨mM, trivial⟩ rfl (lookE4 1 rfl (by decide)) ?_
                  refine field_ptr ?_
                  refine lookD (v := s.vl) ⟨mM, trivial⟩ rfl (lookE4 3 rfl (by decide)) ?_
                  refine lookD (v := .int .i64 a.length) ⟨mM, trivial⟩ rfl (fun _ _ _ => len_eq hsv rfl) ?_
                  refine make_rule (t := 36) (d := I false []) a.length rfl rfl (by omega) (by omega) fun lr hlr => ?_
                  refine eGo ⟨mM, trivial⟩ ?_
                  refine buildSlice_fact (size := 1) (n := 1) [lr] [.one lr] rfl rfl (by decide) (by decide) ⟨Reads.one hlr.one, rfl, trivial⟩ fun q3 => ?_
                  refine eGo ⟨mM, trivial⟩ ?_
                  refine buildSlice_fact (size := 1) (n := 1) [su' i] [.one (su' i)] rfl rfl (by decide) (by decide) ⟨Reads.one hone.one, rfl, trivial⟩ fun q2 => ?_
                  refine eGo ⟨mM, trivial⟩ ?_
                  refine buildSlice_fact (size := 1) (n := 1) [sb' i] [.one (sb' i)] rfl rfl (by decide) (by decide) ⟨Reads.one hrow.one, rfl, trivial⟩ fun q1 => ?_
                  refine eGo ⟨mM, trivial⟩ ?_
                  first | refine append_one (size := 1) (n := i) (el' := fun y => [Dat.one (sb' i)].getD y (.one undef)) (e' := fun y => .one (sb' y)) 4 rfl hs.vb (Knw.fact mM) eb (by omega) (by omega) fun vb' hvb' => ?_ | refine append_one (size := 1) (n := i) (el' := fun y => [Dat.one (sb' i)].getD y (.one undef)) (e' := fun y => .one (sb' y)) 5 rfl hs.vb (Knw.fact mM) eb (by omega) (by omega) fun vb' hvb' => ?_
                  refine eGo ⟨mM, trivial⟩ ?_
                  first | refine append_one (size := 1) (n := i) (el' := fun y => [Dat.one (su' i)].getD y (.one undef)) (e' := fun y => .one (su' y)) 6 rfl hs.vu (Knw.fact mM) eu (by omega) (by omega) fun vu' hvu' => ?_ | refine append_one (size := 1) (n := i) (el' := fun y => [Dat.one (su' i)].getD y (.one undef)) (e' := fun y => .one (su' y)) 7 rfl hs.vu (Knw.fact mM) eu (by omega) (by omega) fun vu' hvu' => ?_
                  refine eGo ⟨mM, trivial⟩ ?_
                  refine append_one (size := 1) (n := i) (el' := fun y => [Dat.one lr].getD y (.one undef)) (e' := fun y => .one (if y < i then s.sl y else lr)) 10 rfl hs.vl (Knw.fact mM) (fun y _ => by by_cases e : y < i <;> simp [e]) (by omega) (by omega) fun vl' hvl' => ?_
                  refine eGo ⟨mM, trivial⟩ ?_
                  refine field_ptr ?_
                  refine field_ptr ?_
                  refine store4 3 0 rfl rfl (by decide) hvb'.one (by kernel_rfl) ?_
                  refine field_ptr ?_
                  refine field_ptr ?_
                  refine store4 3 1 rfl rfl (by decide) hvu'.one (by kernel_rfl) ?_
                  refine field_ptr ?_
                  refine store4 3 3 rfl rfl (by decide) hvl'.one (by kernel_rfl) ?_
                  exact again (lr, vb', vu', vl') ⟨hlr, hvb', hvu', hvl'⟩ trivial mF (Seals.sub (fun F hF => by repeat (first | exact hF | apply List.Mem.tail)))
      rintro ⟨lr, vb', vu', vl'⟩ ⟨hlr, hvb', hvu', hvl'⟩
      simp only at hlr hvb' hvu' hvl' ⊢
      obtain ⟨sl', e5, e6⟩ : ∃ f : Nat → Value, f i = lr ∧ ∀ y, y < i → f y = s.sl y := ⟨fun y => if y = i then lr else s.sl y, if_pos rfl, fun y hy => if_neg (by omega)⟩
      subst e5
      have hsn : BS.ok ⟨s.r, vb', vu', s.vd, vl', sb', su', sl'⟩ (i + 1) := ⟨hvb', hvu', hs.vd, hvl', fun y hy => by
          by_cases e : y < i
          · show isSl (sb' y); rw [e2 y e]; exact hs.sb y e
          · show isSl (sb' y); rw [show y = i by omega]; exact hrow, fun y hy => by
          by_cases e : y < i
          · show isSl (su' y); rw [e4 y e]; exact hs.su y e
          · show isSl (su' y); rw [show y = i by omega]; exact hone, fun y hy => by
          by_cases e : y < i
          · show isSl (sl' y); rw [e6 y e]; exact hs.sl y e
          · show isSl (sl' y); rw [show y = i by omega]; exact hlr⟩
      -- the rows join the others
      refine ar rfl mI ?_
      refine loop_rule (X := Nat × Nat × BS) (fun x => ([(0, v), (3, ptr0 x.2.2.r 0), (4, .int .i64 (i : Nat)), (5, x.2.2.sb i), (15, .int .i64 (a.length : Nat)), (16, .int .i64 (i : Nat)), (75, .int .i64 ((i + 1 : Nat) : Nat)), (76, .int .i64 (x.1 : Nat))],
          bak x.2.2 C a.length (i + 1) x.2.1 (rawJ a) uniJ (dG G) (ltb C (rvm a) i x.1) [], [(v, W a)]))
        (fun x => x.1 ≤ i + 1 ∧ x.2.1 = i + 1 + (x.1 - i) ∧ x.2.2.ok (i + 1) ∧ ∀ t, t < x.2.1 → 0 < dG G t) (fun x => i + 1 - x.1) rfl ?_ ?_
      · refine again (0, i + 1, ⟨s.r, vb', vu', s.vd, vl', sb', su', sl'⟩) ⟨Nat.zero_le _, by simp only; omega, hsn, fun t ht => hpos t (by simp only at ht; omega)⟩ trivial mF ?_
        refine Seals.trans (Seals.own_cong (os := [_, _, _, _, _, _, _, _, _, _, _]) 10 (fun y => .one (sl' y)) rfl rfl (fun y hy => ?_)) (Seals.trans (Seals.pick [2, 4, 0, 1, 3, 5, 6, 7, 8, 9, 10] 11 rfl (by decide))
          (Seals.trans (Seals.join (F' := famJ sb' (i + 1) C (rawJ a)) rfl rfl rfl (fun y hy => ⟨e2 y hy, rfl, fun _ _ => rfl⟩) ⟨rfl, rfl, fun c hc => ?_⟩) (Seals.trans (Seals.pick [2, 5, 0, 1, 3, 4, 6, 7, 8, 9] 10 rfl (by decide))
          (Seals.trans (Seals.join (F' := famJ su' (i + 1) a.length uniJ) rfl rfl rfl (fun y hy => ⟨e4 y hy, rfl, fun _ _ => rfl⟩) ⟨rfl, rfl, fun c hc => ?_⟩) (Seals.trans (Seals.pick [2, 7, 0, 1, 3, 4, 5, 6, 8] 9 rfl (by decide))
          (Seals.trans (Seals.join (F' := famZ sl' (i + 1) a.length (ltb C (rvm a) i 0)) rfl rfl rfl (fun y hy => ⟨e6 y hy, rfl, fun _ _ => rfl⟩) ⟨rfl, rfl, fun c hc => ?_⟩) (Seals.trans (Seals.pick [3, 2, 4, 1, 5, 6, 0, 7] 8 rfl (by decide)) (Seals.sub mS))))))))
        · by_cases e : y < i
          · rw [if_pos e, e6 y e]
          · rw [if_neg e, show y = i by omega]
        · show J (rawJ a i c) = if c < C then _ else _
          rw [if_pos hc]; rfl
        · show J (uniJ i c) = upd (fun _ => I false []) i (zd 1) c
          unfold uniJ upd
          split <;> rfl
        · show J (cn (ltb C (rvm a) i 0 i c)) = I false []
          unfold ltb
          rw [if_neg (by omega), cn0]; rfl
      · rintro ⟨j, dn, s⟩ ⟨hj, hdn, hs, hps⟩
        simp only at hj hdn hs hps ⊢
        refine cmp_split _ rfl (fun hc => ?_) (fun hc => ?_)
        · have hji : j ≤ i := by omega
          refine field_ptr ?_
          refine field_ptr ?_
          refine ld4b 0 rfl rfl ?_
          refine index_elem 2 rfl hs.vb j rfl (by omega) ?_
          refine load_one_elem 2 rfl j (by omega) (u := s.sb j) rfl ?_
          refine dot_call 1 i j rfl (by omega) (by omega) hs.sb (k := k) (fun x c _ _ => hrx x c) (by omega) (by omega) fun x1 => ?_
          refine alloc_rule (d := I false []) fun xb hxb => ?_
          refine store_box (d := zd (mi G 0 i j)) 0 rfl hxb rfl (by kernel_rfl) (by rw [← e0 i j]; exact Reads.fact mM) ?_
          refine loop_rule (X := Nat) (fun t => ([(0, v), (3, ptr0 s.r 0), (4, .int .i64 (i : Nat)), (5, s.sb i), (7, .int .i64 (j : Nat)), (8, xb), (15, .int .i64 (a.length : Nat)), (16, .int .i64 (i : Nat)), (75, .int .i64 ((i + 1 : Nat) : Nat)), (76, .int .i64 (j : Nat)), (89, .int .i64 (j : Nat)), (90, .int .i64 (t : Nat))],
              own1 xb 2 1 (fun _ => zd (mi G t i j)) :: bak s C a.length (i + 1) dn (rawJ a) uniJ (dG G) (ltb C (rvm a) i j) [], [(v, W a)])) (fun t => t ≤ j) (fun t => j - t) rfl ?_ ?_
          · exact again 0 (Nat.zero_le _) trivial mF (Seals.trans (Seals.box0 rfl) (Seals.sub (fs' := [(v, W a)]) mS))
          · rintro t ht
            refine cmp_split _ rfl (fun hlt => ?_) (fun hlt => ?_)
            · have htj : t < j := by omega
              have g0 := hdz t (by omega)
              have g1 := hdz (t + 1) (by omega)
              have m1 := hmz t i j (by omega)
              have m2 := hmz t i t (by omega)
              have m3 := hmz t j t (by omega)
              have n0 : dG G t ≠ 0 := by have := hps t (by omega); omega
              have hq := fun z y => lquot_meets z y (dG G (t + 1) * mi G t i j - mi G t i t * mi G t j t) (dG G t) _ _ (sz_sub (g1.mul m1) (m2.mul m3)) g0 (by decide) (by decide) n0
              rw [hstep t i j n0] at hq
              refine draw_rule [0, 1, 2, 3, 4, 5, 6, 7, 8, 10, 11, 12, 13, 14, 15, 16, 17, 18, 19, 20, 21, 22, 23, 24, 25, 26, 27, 28, 29, 32, 33, 34, 35, 36, 37, 38, 9, 30, 31, 39, 40] [0, 1, 2, 3, 4, 5, 6, 7, 8, 9, 10, 11, 12, 13, 14, 15, 16, 17, 18, 19, 20, 21, 22, 23, 24, 25, 26, 27, 28, 29, 30, 31, 32, 33, 34, 35, 36, 37, 38, 39, 40] (by kernel_rfl) (by kernel_rfl) ?_
              refine field_ptr ?_
              refine ld4d 1 rfl rfl ?_
              refine ar rfl mI ?_
              refine index_elem 6 rfl hs.vd (t + 1) (by omega) (by omega) ?_
              refine load_elem' (d := zd (dG G (t + 1))) 6 rfl (t + 1) (by omega) rfl (load_I _ _) fun y1 => ?_
              refine load_box (d := zd (mi G t i j)) 0 rfl hxb rfl (load_I _ _) fun y2 => ?_
              refine field_ptr ?_
              refine ld4l 1 rfl rfl ?_
              refine index_elem 8 rfl hs.vl (i) (by omega) (by omega) ?_
              refine load_one_elem 8 rfl (i) (by omega) (u := s.sl (i)) rfl ?_
              refine index_fj 7 (i) rfl (by omega) (hs.sl (i) (by omega)) (t) (by omega) (by omega) ?_
              refine load_fj 7 i t rfl (by omega) (by omega) (cn (mi G t i t)) (by unfold ltb; rw [if_pos (by omega), hlm]) fun y3 => ?_
              refine field_ptr ?_
              refine ld4l 1 rfl rfl ?_
              refine index_elem 8 rfl hs.vl (j) (by omega) (by omega) ?_
              refine load_one_elem 8 rfl (j) (by omega) (u := s.sl (j)) rfl ?_
              refine index_fj 7 (j) rfl (by omega) (hs.sl (j) (by omega)) (t) (by omega) (by omega) ?_
              refine load_fj 7 j t rfl (by omega) (by omega) (cn (mi G t j t)) (by unfold ltb; rw [if_pos (by omega), hlm]) fun y4 => ?_
              refine field_ptr ?_
              refine ld4d 1 rfl rfl ?_
              refine index_elem 6 rfl hs.vd t (by omega) (by omega) ?_
              refine load_elem' (d := zd (dG G t)) 6 rfl t (by omega) rfl (load_I _ _) fun y5 => ?_
              refine call_fn (zMulZ y1 y2 (dG G (t + 1)) (mi G t i j) _ _ g1 m1 (by decide) (by decide)) (Seals.refl _ _) mS ?_
              rintro z1 _ _ ⟨rfl, rfl⟩
              refine call_fn (zMulZ y3 y4 (mi G t i t) (mi G t j t) _ _ m2 m3 (by decide) (by decide)) (Seals.refl _ _) mS ?_
              rintro z2 _ _ ⟨rfl, rfl⟩
              refine call_fn (zSubZ z1 z2 _ _ _ _ (g1.mul m1) (m2.mul m3) (by decide) (by decide)) (Seals.refl _ _) mS ?_
              rintro z3 _ _ ⟨rfl, rfl⟩
              refine call_fn (hq z3 y5) (Seals.refl _ _) mS ?_
              rintro z4 _ _ ⟨rfl, rfl⟩
              refine store_box (d := zd (mi G (t + 1) i j)) 0 rfl hxb rfl (by kernel_rfl) ?_ ?_; exact Reads.fact mM
              refine ar rfl mI ?_
              exact again (t + 1) (by omega) (by simp only; omega) mF (Seals.trans (Seals.box0 rfl) (Seals.sub (fs' := [(v, W a)]) mS))
            · have htj : t = j := by omega
              subst htj
              refine cmp_split _ rfl (fun hlt2 => ?_) (fun hlt2 => ?_)
              · have hti : t < i := by omega
                refine draw_rule [0, 1, 2, 3, 4, 5, 6, 7, 8, 9, 10] [0, 1, 2, 3, 4, 5, 6, 7, 8, 9, 10] (by kernel_rfl) (by kernel_rfl) ?_
                refine field_ptr ?_
                refine ld4l 1 rfl rfl ?_
                refine index_elem 8 rfl hs.vl (i) (by omega) (by omega) ?_
                refine load_one_elem 8 rfl (i) (by omega) (u := s.sl (i)) rfl ?_
                refine load_box (d := zd (mi G t i t)) 0 rfl hxb rfl (load_I _ _) fun y2 => ?_
                refine index_fj 7 (i) rfl (by omega) (hs.sl (i) (by omega)) (t) (by omega) (by omega) ?_
                refine store_fj 7 i t rfl (by omega) (by omega) (cn (mi G t i t)) (fun x y => cn (ltb C (rvm a) i (t + 1) x y)) (Reads.fact (d := zd (mi G t i t)) mM) (fun x y hx hy => ?_) ?_
                · by_cases e : x = i ∧ y = t
                  · rw [if_pos e, e.1, e.2]; unfold ltb; rw [if_pos (by omega), hlm]
                  · rw [if_neg e]; unfold ltb
                    by_cases e2 : y < x ∧ (x < i ∨ y < t)
                    · rw [if_pos e2, if_pos (by omega)]
                    · rw [if_neg e2, if_neg (by omega)]
                refine ar rfl mI ?_
                exact again (t + 1, dn, s) ⟨by simp only; omega, by simp only; omega, hs, hps⟩ (by simp only; omega) mF (Seals.trans (Seals.drop 0 _ _) (Seals.sub (fs' := [(v, W a)]) mS))
              · have hti : t = i := by omega
                subst hti
                have hms := hmz t t t (by omega)
                refine load_box (d := zd (mi G t t t)) 0 rfl hxb rfl (load_I _ _) fun y2 => ?_
                refine call_fn (zSignZ y2 _ _ hms (by decide)) (Seals.refl _ _) mS ?_
                rintro _ _ _ ⟨rfl, rfl, rfl⟩
                refine cmp_split _ rfl (fun h0 => ?_) (fun h0 => ?_)
                · have h0' : mi G t t t = 0 := Int.sign_eq_zero_iff_zero.1 h0
                  refine fin (.inl ⟨fun hI => ?_, rfl, rfl, rfl⟩) (by repeat (first | exact Seals.nil _ _ | refine Seals.trans (Seals.drop 0 _ _) ?_))
                  have h9 := hI (t + 1) (by omega)
                  rw [hdm, dG_succ, h0'] at h9
                  omega
                · have h0' : mi G t t t ≠ 0 := fun e => h0 (by rw [e]; rfl)
                  have hp1 : 0 < dG G (t + 1) := by
                    have h8 := hnn t
                    rw [hdm, hdm] at h8
                    have h7 := hps t (by omega)
                    have h6 : dG G (t + 1) ≠ 0 := by rw [dG_succ]; exact h0'
                    by_cases h5 : dG G (t + 1) < 0
                    · have := Int.mul_neg_of_pos_of_neg h7 h5
                      omega
                    · omega
                  refine draw_rule [0, 1, 2, 3, 4, 5, 6, 7, 8, 9, 10] [0, 1, 2, 3, 4, 5, 6, 7, 8, 9, 10] (by kernel_rfl) (by kernel_rfl) ?_
                  refine field_ptr ?_
                  refine ld4d 1 rfl rfl ?_
                  refine load_box (d := zd (mi G t t t)) 0 rfl hxb rfl (load_I _ _) fun y3 => ?_
                  refine lit_L (size := 2) J z0 (cn (mi G t t t)) (by decide) (Reads.fact (d := zd (mi G t t t)) mM) rfl fun l1 => ?_
                  refine append_one (size := 2) (n := dn) (el' := fun y => J ([cn (mi G t t t)].getD y z0)) (e' := fun y => zd (dG G y)) 6 rfl hs.vd (Knw.fact mM) (fun y hy => ?_) (by omega) (by omega) fun vd2 hvd2 => ?_
                  · by_cases hyj : y < dn
                    · rw [if_pos hyj]
                    · rw [if_neg hyj, show y = t + 1 by omega, dG_succ]; rfl
                  refine field_ptr ?_
                  refine store4 1 2 rfl rfl (by decide) hvd2.one (by kernel_rfl) ?_
                  refine ar rfl mI ?_
                  refine again (t + 1, dn + 1, { s with vd := vd2 }) ⟨by simp only; omega, by simp only; omega, ⟨hs.vb, hs.vu, hvd2, hs.vl, hs.sb, hs.su, hs.sl⟩, fun y hy => by
                    by_cases e : y < dn
                    · exact hps y e
                    · rw [show y = t + 1 by simp only at hy; omega]; exact hp1⟩ (by simp only; omega) mF (Seals.trans (Seals.drop 0 _ _) (Seals.trans (Seals.fjcong (vs := s.sl) (vs' := s.sl) (x := fun x y => cn (ltb C (rvm a) t t x y)) (x' := fun x y => cn (ltb C (rvm a) t (t + 1) x y)) (os := [_, _, _, _, _, _, _, _]) 6 rfl (fun x => x) (fun x hx => ⟨hx, rfl, fun y hy => ?_⟩) (fun _ _ _ _ e => e)) (Seals.sub mS)))
                  show cn _ = cn _
                  congr 1
                  unfold ltb
                  by_cases e : y < x
                  · rw [if_pos (by omega), if_pos (by omega)]
                  · rw [if_neg (fun h => e h.1), if_neg (fun h => e h.1)]
        · have hji : j = i + 1 := by omega
          subst hji
          have hd2 : dn = i + 1 + 1 := by omega
          subst hd2
          refine ar rfl mI ?_
          refine again (i + 1, s) ⟨by simp only; omega, hs, fun t ht => hps t (by simp only at ht; omega)⟩ (by simp only; omega) mF (Seals.trans (Seals.fjcong (vs := s.sl) (vs' := s.sl) (x := fun x y => cn (ltb C (rvm a) i (i + 1) x y)) (x' := fun x y => cn (ltb C (rvm a) (i + 1) 0 x y)) (os := [_, _, _, _, _, _, _, _]) 6 rfl (fun x => x) (fun x hx => ⟨hx, rfl, fun y hy => ?_⟩) (fun _ _ _ _ e => e)) (Seals.sub mS))
          show cn _ = cn _
          congr 1
          unfold ltb
          by_cases e : y < x
          · rw [if_pos (by omega), if_pos (by omega)]
          · rw [if_neg (fun h => e h.1), if_neg (fun h => e h.1)]
    · have hin : i = a.length := by omega
      subst hin
      subst hG
      exact fin (.inr ⟨fun t ht => hpos t ht, s, hs, rfl, rfl, rfl⟩) (Seals.sub (fs' := []) mS)
end Go.Proofs.Ytabdfhdddmbmlaa

namespace Go.Proofs.Ytabdfhdddmbmlaa
section
variable {m n : Nat} {b : Mx}
theorem sq_half {l d : Int} (h1 : - d ≤ 2 * l) (h2 : 2 * l ≤ d) : 4 * (l * l) ≤ d * d := by
  have h : 0 ≤ (d - 2 * l) * (d + 2 * l) := Int.mul_nonneg (by omega) (by omega)
  have e : (d - 2 * l) * (d + 2 * l) = d * d - 4 * (l * l) := by grind
  omega
/-- Each straightened row is at least half as long as the one ahead. -/
theorem half_next (h : Rdc m b n) {k : Nat} (hk : k + 1 < n) : dm m b (k + 1) * dm m b (k + 1) ≤ 2 * (dm m b (k + 2) * dm m b k) := by
  obtain ⟨hs, hf⟩ := h (k + 1) (by omega) hk
  have h1 := hs k (by omega) (by omega)
  have h2 := sq_half h1.1 (Int.le_of_lt h1.2)
  unfold farL at hf
  rw [Nat.add_sub_cancel] at hf
  have e : dm m b (k + 1 + 1) = dm m b (k + 2) := rfl
  rw [e] at hf
  omega
theorem half_all (hi : Ind m n b) (h : Rdc m b n) {t : Nat} : ∀ {e : Nat}, t + e < n → dm m b (t + 1) * dm m b (t + e) ≤ 2 ^ e * (dm m b (t + e + 1) * dm m b t)
  | 0, ht => by simp
  | e + 1, ht => by
    have ih := half_all hi h (t := t) (e := e) (by omega)
    have hn := half_next h (k := t + e) (by omega)
    have p1 := hi (t + e) (by omega)
    have p2 := hi (t + e + 1) (by omega)
    have p3 := hi t (by omega)
    have p4 := hi (t + e + 2) (by omega)
    have p5 := hi (t + 1) (by omega)
    show dm m b (t + 1) * dm m b (t + e + 1) ≤ 2 ^ (e + 1) * (dm m b (t + e + 2) * dm m b t)
    generalize dm m b (t + e) = A at *
    generalize dm m b (t + e + 1) = B at *
    generalize dm m b t = C at *
    generalize dm m b (t + e + 2) = E at *
    generalize dm m b (t + 1) = F at *
    have hP : (0 : Int) < 2 ^ e := Int.pow_pos (by decide)
    refine Int.le_of_mul_le_mul_left (a := A) ?_ p1
    have s1 : A * (F * B) = B * (F * A) := by grind
    have s2 : B * (F * A) ≤ B * (2 ^ e * (B * C)) := Int.mul_le_mul_of_nonneg_left ih (by omega)
    have s3 : B * (2 ^ e * (B * C)) = 2 ^ e * C * (B * B) := by grind
    have s4 : 2 ^ e * C * (B * B) ≤ 2 ^ e * C * (2 * (E * A)) := Int.mul_le_mul_of_nonneg_left hn (Int.mul_nonneg (by omega) (by omega))
    have s5 : 2 ^ e * C * (2 * (E * A)) = A * (2 ^ (e + 1) * (E * C)) := by rw [Int.pow_succ]; grind
    omega
theorem first_le (hi : Ind m n b) (h : Rdc m b n) {i : Nat} (hn : i < n) : dm m b 1 * dm m b i ≤ 2 ^ i * dm m b (i + 1) := by
  have := half_all hi h (t := 0) (e := i) (by omega)
  have e0 : dm m b 0 = 1 := rfl
  rw [Nat.zero_add, Nat.zero_add, e0, Int.mul_one] at this
  exact this
/-- A sum of the rows, each some times. -/
def comb (n : Nat) (c : Nat → Int) (b : Mx) : Nat → Int := fun x => isum (fun i => c i * b i x) n
theorem ip_comb (c : Nat → Int) (u : Nat → Int) : ip m u (comb n c b) = isum (fun i => c i * ip m u (b i)) n := by
  unfold ip comb
  rw [isum_congr (g' := fun x => isum (fun i => c i * (u x * b i x)) n) fun x _ => by rw [← isum_mul]; exact isum_congr fun i _ => by grind]
  rw [isum_swap]
  exact isum_congr fun i _ => isum_mul _ _ _
/-- The longest straightened row that takes part is no longer than the sum. -/
theorem comb_long (hi : Ind m n b) {c : Nat → Int} {i : Nat} (hn : i < n) (hc : c i ≠ 0) (hz : ∀ s, i < s → s < n → c s = 0) : dm m b (i + 1) ≤ dm m b i * ip m (comb n c b) (comb n c b) := by
  have h1 : ip m (wv m b i) (comb n c b) = c i * dm m b (i + 1) := by
    rw [ip_comb, isum_one (r := i) hn fun s hs hsi => by
      by_cases h : s < i
      · rw [wv_row, mi_low h, Int.mul_zero]
      · rw [hz s (by omega) hs, Int.zero_mul], wv_row]
    rfl
  have h2 := cauchy m (wv m b i) (comb n c b)
  rw [wv_wv, h1] at h2
  have p1 := hi i (by omega)
  have p2 := hi (i + 1) (by omega)
  have hv := ip_nn m (comb n c b)
  have hcc : 1 ≤ c i * c i := by
    have h3 := sq_nn (c i)
    have h4 : c i * c i ≠ 0 := Int.mul_ne_zero hc hc
    omega
  show dm m b (i + 1) ≤ dm m b i * ip m (comb n c b) (comb n c b)
  change c i * dm m b (i + 1) * (c i * dm m b (i + 1)) ≤ dm m b i * dm m b (i + 1) * ip m (comb n c b) (comb n c b) at h2
  generalize ip m (comb n c b) (comb n c b) = v at *
  generalize dm m b (i + 1) = B at *
  generalize dm m b i = A at *
  refine Int.le_of_mul_le_mul_left (a := B) ?_ p2
  have s1 : 1 * (B * B) ≤ c i * c i * (B * B) := Int.mul_le_mul_of_nonneg_right hcc (sq_nn B)
  have s2 : c i * c i * (B * B) = c i * B * (c i * B) := by grind
  have s3 : A * B * v = B * (A * v) := by grind
  omega
theorem last_some {c : Nat → Int} : ∀ {n : Nat}, (∃ i, i < n ∧ c i ≠ 0) → ∃ i, i < n ∧ c i ≠ 0 ∧ ∀ s, i < s → s < n → c s = 0
  | 0, ⟨i, h, _⟩ => by omega
  | n + 1, ⟨i, h, hc⟩ => by
    by_cases e : c n = 0
    · have hin : i < n := by
        by_cases h' : i = n
        · rw [h'] at hc; exact absurd e hc
        · omega
      obtain ⟨j, h1, h2, h3⟩ := last_some ⟨i, hin, hc⟩
      refine ⟨j, by omega, h2, fun s h4 h5 => ?_⟩
      by_cases h6 : s = n
      · rw [h6]; exact e
      · exact h3 s h4 (by omega)
    · exact ⟨n, by omega, e, fun s h1 h2 => by omega⟩
/-- The first reduced row is nearly the shortest. -/
theorem short_first (hi : Ind m n b) (h : Rdc m b n) {c : Nat → Int} (hv : ip m (comb n c b) (comb n c b) ≠ 0) : ip m (b 0) (b 0) ≤ 2 ^ (n - 1) * ip m (comb n c b) (comb n c b) := by
  have hex : ∃ i, i < n ∧ c i ≠ 0 := Classical.byContradiction fun hno => hv (by
    have hz : ∀ x, comb n c b x = 0 := fun x => isum_zero fun i hi' => by
      have : c i = 0 := Classical.byContradiction fun h' => hno ⟨i, hi', h'⟩
      rw [this, Int.zero_mul]
    exact isum_zero fun x _ => by rw [hz, Int.zero_mul])
  obtain ⟨i, h1, h2, h3⟩ := last_some hex
  have a1 := comb_long hi h1 h2 h3
  have a2 := first_le hi h h1
  have e0 : dm m b 1 = ip m (b 0) (b 0) := by
    show dG (gr m b) (0 + 1) = _
    rw [dG_succ, mi_none]; rfl
  rw [e0] at a2
  have hn0 := ip_nn m (comb n c b)
  generalize ip m (comb n c b) (comb n c b) = v at *
  have p1 := hi i (by omega)
  have hp : (2 : Int) ^ i ≤ 2 ^ (n - 1) := by
    obtain ⟨d, hd⟩ : ∃ d, n - 1 = i + d := ⟨n - 1 - i, by omega⟩
    rw [hd, Int.pow_add]
    have : (1 : Int) ≤ 2 ^ d := Int.pow_pos (by decide)
    have h4 : (0 : Int) ≤ 2 ^ i := Int.le_of_lt (Int.pow_pos (by decide))
    have := Int.mul_le_mul_of_nonneg_left this h4
    omega
  have hP : (0 : Int) < 2 ^ i := Int.pow_pos (by decide)
  have s1 : 2 ^ i * dm m b (i + 1) ≤ 2 ^ i * (dm m b i * v) := Int.mul_le_mul_of_nonneg_left a1 (by omega)
  have s2 : ip m (b 0) (b 0) * dm m b i ≤ (2 ^ i * v) * dm m b i := by
    have : 2 ^ i * (dm m b i * v) = (2 ^ i * v) * dm m b i := by grind
    omega
  have s3 : ip m (b 0) (b 0) ≤ 2 ^ i * v := Int.le_of_mul_le_mul_right s2 p1
  have s4 : 2 ^ i * v ≤ 2 ^ (n - 1) * v := Int.mul_le_mul_of_nonneg_right hp hn0
  omega
-- Beside the volume.
end
end Go.Proofs.Ytabdfhdddmbmlaa

namespace Go.Proofs.Ytabdfhdddmbmlaa
open Go.RowKit
/-- Raw numbers as they came, or canonical. -/
def Rq (R C : Nat) (x : Jx) (B : Mx) (k0 : Nat) : Prop := ∀ i c, i < R → c < C → jv (x i c) = B i c ∧ Lim (x i c).2 ∧ ((x i c).2.length ≤ k0 ∨ x i c = cn (B i c))
theorem Rq.rp {R C : Nat} {x : Jx} {B : Mx} {k0 K : Nat} (h : Rq R C x B k0) (hz : ∀ i c, i < R → c < C → sz (B i c) K) (hk : k0 ≤ K) : Rp R C x B K := fun i c hi hc => by
  obtain ⟨h1, h2, h3⟩ := h i c hi hc
  refine ⟨h1, h2, ?_⟩
  rcases h3 with h3 | h3
  · omega
  · rw [h3]; exact (hz i c hi hc).len
theorem Rq.red {R C : Nat} {x x2 : Jx} {B : Mx} {k0 k j : Nat} {q : Int} (h : Rq R C x B k0) (hk : k < R) (hj : j < R) (h2 : x2 = x ∧ q = 0 ∨ x2 = mid x k j q C) : Rq R C x2 (redq B k j q) k0 := by
  rcases h2 with ⟨rfl, rfl⟩ | rfl
  · rw [redq_zero]; exact h
  · intro i c hi hc
    unfold mid redq
    by_cases e : i = k
    · rw [if_pos ⟨e, hc⟩, if_pos e, jv_cn, (h k c hk hc).1, (h j c hj hc).1]
      exact ⟨rfl, Lim_lims _, .inr rfl⟩
    · rw [if_neg (fun h => e h.1), if_neg e]
      exact h i c hi hc
theorem Rq.swb {R C : Nat} {x : Jx} {B : Mx} {k0 p : Nat} (h : Rq R C x B k0) (hp : p + 1 < R) : Rq R C (fun i c => x (sx p i) c) (swb B p) k0 := fun i c hi hc => h (sx p i) c (sx_lt hp hi) hc
/-- A basis's numbers and the rows that they stand for. -/
structure Sv (m n : Nat) (a : Mx) (D K k0 : Nat) (x y : Jx) (d : Nat → Int) (l : Mx) (B U : Mx) : Prop where
  lb : LB a m n D K B U
  rb : Rq n m x B k0
  ru : Rq n n y U k0
  hd : ∀ t, t ≤ n → d t = dm m B t
  hl : ∀ i t, t < i → i < n → l i t = lm m B i t
section
variable {m n : Nat} {a : Mx} {D K k0 A Z : Nat} {x y : Jx} {d : Nat → Int} {l : Mx} {B U : Mx}
/-- Sizes. -/
structure Szs (m n : Nat) (a : Mx) (D K k0 A Z : Nat) : Prop where
  hm : m ≤ 1048576
  hn : n ≤ 1048575
  ha : ∀ i c, i < n → c < m → sz (a i c) A
  hd : dm m a n ≠ 0
  hk : k0 ≤ Z
  hz : D + K + 2 ≤ Z ∧ K + A + 1 + ((A + A + 2) * n + 1) + 1 ≤ Z
  big : Z ≤ 268435456
theorem Szs.mono {K' : Nat} (h : Szs m n a D K' k0 A Z) (hk : K ≤ K') : Szs m n a D K k0 A Z :=
  ⟨h.hm, h.hn, h.ha, h.hd, h.hk, by have := h.hz; omega, h.big⟩
theorem Sv.mono {K' : Nat} (h : Sv m n a D K k0 x y d l B U) (hk : K ≤ K') : Sv m n a D K' k0 x y d l B U :=
  ⟨⟨h.lb.ind, h.lb.dz, fun i c hi hc => (h.lb.bz i c hi hc).mono hk, h.lb.ua, h.lb.un⟩, h.rb, h.ru, h.hd, h.hl⟩
theorem Sv.dz (h : Sv m n a D K k0 x y d l B U) (t : Nat) (ht : t ≤ n) : sz (d t) D := by rw [h.hd t ht]; exact h.lb.dz t ht
theorem Sv.lz (h : Sv m n a D K k0 x y d l B U) (z : Szs m n a D K k0 A Z) (i j : Nat) (hj : j < i) (hi : i < n) : sz (l i j) (D + K + 1) := by
  rw [h.hl i j hj hi]; exact h.lb.lz (by have := z.hm; omega) hi hj
theorem Sv.bp (h : Sv m n a D K k0 x y d l B U) (z : Szs m n a D K k0 A Z) : Rp n m x B Z := h.rb.rp (fun i c hi hc => (h.lb.bz i c hi hc).mono (by have := z.hz; omega)) z.hk
theorem Sv.uz (h : Sv m n a D K k0 x y d l B U) (z : Szs m n a D K k0 A Z) (i j : Nat) (hi : i < n) (hj : j < n) : sz (U i j) Z :=
  (h.lb.uz (by have := z.hm; omega) (by have := z.hn; omega) z.ha z.hd hi hj).mono z.hz.2
theorem Sv.up (h : Sv m n a D K k0 x y d l B U) (z : Szs m n a D K k0 A Z) : Rp n n y U Z := h.ru.rp (h.uz z) z.hk
theorem Sv.red {k j : Nat} {x2 y2 : Jx} (h : Sv m n a D K k0 x y d l B U) (z : Szs m n a D K k0 A Z) (hk : k < n) (hj : j < k) (hx : x2 = x ∧ rnd (l k j) (d (j + 1)) = 0 ∨ x2 = mid x k j (rnd (l k j) (d (j + 1))) m) (hy : y2 = y ∧ rnd (l k j) (d (j + 1)) = 0 ∨ y2 = mid y k j (rnd (l k j) (d (j + 1))) n) :
    Sv m n a D (D + K + K + 3) k0 x2 y2 d (lmid l d k j (rnd (l k j) (d (j + 1))) j) (redq B k j (rnd (lm m B k j) (dm m B (j + 1)))) (redq U k j (rnd (lm m B k j) (dm m B (j + 1)))) := by
  have e1 := h.hl k j hj hk
  have e2 := h.hd (j + 1) (by omega)
  rw [e1, e2] at hx hy ⊢
  have hm : m < 18446744073709551616 := by have := z.hm; omega
  refine ⟨h.lb.redq hk hj (h.lb.qz hm hk hj), h.rb.red hk (by omega) hx, h.ru.red hk (by omega) hy, fun t ht => by rw [dm_redq h.lb.ind hj ht]; exact h.hd t ht, fun i t ht hi => ?_⟩
  rw [lm_redq h.lb.ind hj ht hi]
  unfold lmid
  by_cases ei : i = k
  · rw [if_pos ei, if_pos ei]
    by_cases et : t = j
    · rw [if_pos et, if_neg (by omega), if_pos et, e1, e2]
    · rw [if_neg et]
      by_cases et2 : t < j
      · rw [if_pos et2, if_pos et2, h.hl k t (by omega) hk, h.hl j t et2 (by omega)]
      · rw [if_neg et2, if_neg et2, if_neg et, h.hl k t (by omega) hk]
  · rw [if_neg ei, if_neg ei, h.hl i t ht hi]
theorem Sv.turn {k : Nat} (h : Sv m n a D K k0 x y d l B U) (h1 : 1 ≤ k) (hk : k < n) (hf : ¬ farL m B k) :
    Sv m n a D K k0 (fun i c => x (sx (k - 1) i) c) (fun i c => y (sx (k - 1) i) c) (tdd d l k) (trw d l k n) (swb B (k - 1)) (swb U (k - 1)) := by
  obtain ⟨p, rfl⟩ : ∃ p, k = p + 1 := ⟨k - 1, by omega⟩
  rw [Nat.add_sub_cancel]
  have hi := h.lb.ind
  have e0 := h.hd p (by omega)
  have e1 := h.hd (p + 1) (by omega)
  have e2 := h.hd (p + 2) (by omega)
  have el := h.hl (p + 1) p (by omega) hk
  have n1 : dm m B (p + 1) ≠ 0 := by have := hi (p + 1) (by omega); omega
  have n2 : dm m B (p + 2) ≠ 0 := by have := hi (p + 2) (by omega); omega
  have hT : tD d l (p + 1) = mi (gr m B) p (p + 1) (p + 1) := by
    unfold tD
    rw [Nat.add_sub_cancel, e0, e1, e2, el, ← dd hi hk, Int.mul_ediv_cancel_left _ n1]
  have hlb := h.lb.swb (k := p + 1) (by omega) hk hf
  rw [Nat.add_sub_cancel] at hlb
  have hN1 : ∀ i, p + 1 < i → i < n → tN1 d l (p + 1) i = lm m (swb B p) i (p + 1) := fun i g1 g2 => by
    unfold tN1
    rw [Nat.add_sub_cancel, e1, e2, el, h.hl i p (by omega) g2, h.hl i (p + 1) g1 g2, ← lm_swb_one hi hk g1 g2, Int.mul_ediv_cancel_left _ n1]
  refine ⟨hlb, h.rb.swb hk, h.ru.swb hk, fun t ht => ?_, fun i t ht hi' => ?_⟩
  · unfold tdd
    rw [dm_swb hi hk ht]
    split
    · exact hT
    · exact h.hd t ht
  · unfold trw
    by_cases c1 : p + 1 < i
    · rw [if_pos ⟨c1, hi'⟩]
      by_cases c2 : t = p + 1
      · rw [if_pos c2, hN1 i c1 hi', c2]
      · rw [if_neg c2, Nat.add_sub_cancel]
        by_cases c3 : t = p
        · rw [if_pos c3]
          unfold tN2
          rw [hN1 i c1 hi', hT, Nat.add_sub_cancel, e2, el, h.hl i (p + 1) c1 hi', ← lm_swb_two hi hk c1 hi', Int.mul_ediv_cancel_left _ n2, c3]
        · rw [if_neg c3, lm_swb hi hk ht hi', if_neg (by omega), if_neg c3, if_neg c2, sx_high (by omega), h.hl i t ht hi']
    · rw [if_neg (fun h => c1 h.1), Nat.add_sub_cancel]
      unfold tsw
      by_cases c2 : i = p + 1
      · subst c2
        by_cases c3 : t < p
        · rw [if_pos ⟨rfl, c3⟩, Nat.add_sub_cancel, lm_swb hi hk ht hi', if_neg (by omega), if_neg (by omega), if_neg (by omega), sx_at', h.hl p t c3 (by omega)]
        · rw [if_neg (fun h => c3 h.2), if_neg (by omega), lm_swb hi hk ht hi', if_pos (by omega), show t = p by omega, el]
      · rw [if_neg (fun h => c2 h.1), Nat.add_sub_cancel]
        by_cases c4 : i = p
        · subst c4
          rw [if_pos (by omega), lm_swb hi hk ht hi', if_neg (by omega), if_neg (by omega), if_neg (by omega), sx_at, h.hl (i + 1) t (by omega) hk]
        · rw [if_neg (fun h => c4 h.1), lm_swb hi hk ht hi', if_neg (by omega), if_neg (by omega), if_neg (by omega), sx_low (by omega), h.hl i t ht hi']
theorem Sv.far {k : Nat} (h : Sv m n a D K k0 x y d l B U) (h1 : 1 ≤ k) (hk : k < n) : decide (farN d l k) = decide (farL m B k) := by
  refine decide_eq_decide.2 ?_
  unfold farN farL
  rw [h.hd k (by omega), h.hd (k + 1) (by omega), h.hd (k - 1) (by omega), h.hl k (k - 1) (by omega) hk]
end
end Go.Proofs.Ytabdfhdddmbmlaa

namespace Go.Proofs.Ytabdfhdddmbmlaa
open Go.RowKit
def lD (k n : Nat) : Nat := (k + k + 2) * n + 1
def lK (k n : Nat) : Nat := n * (lD k n + 1) + k
theorem mm_one_left {n : Nat} (A : Mx) {i : Nat} (c : Nat) (hi : i < n) : mm n one A i c = A i c := by
  unfold mm
  rw [isum_one (r := i) hi fun s _ hs => by unfold one; rw [if_neg (fun e => hs e.symm), Int.zero_mul]]
  unfold one; rw [if_pos rfl, Int.one_mul]
theorem Sv.start {a : List Row} {k : Nat} (hf : Fits k a) (lc : (a.getD 0 []).length ≤ 1048576) (ln : a.length ≤ 1024) (hI : Ind (a.getD 0 []).length a.length (rvm a)) :
    Sv (a.getD 0 []).length a.length (rvm a) (lD k a.length) (lK k a.length) k (rawJ a) uniJ (dm (a.getD 0 []).length (rvm a)) (ltb (a.getD 0 []).length (rvm a) a.length 0) (rvm a) one := by
  have hg : ∀ i j, sz (gr (a.getD 0 []).length (rvm a) i j) (k + k + 1) := gmx_sz hf lc
  refine ⟨⟨hI, fun t ht => ?_, fun i c _ _ => (rv_sz (hf.get i) c).mono (by unfold lK; omega), fun i c hi _ => mm_one_left _ c hi, .inl (det_one _)⟩, fun i c _ _ => ?_, fun i c _ _ => ?_, fun _ _ => rfl, fun i t h1 h2 => ?_⟩
  · unfold dm dG
    refine (det_sz t (by omega) (k := k + k + 1) fun x y _ _ => hg _ _).mono ?_
    have : (k + k + 1 + 1) * t ≤ (k + k + 2) * a.length := Nat.mul_le_mul (by omega) ht
    unfold lD; omega
  · exact ⟨rfl, ((hf.get i).get c).1, .inl ((hf.get i).get c).2⟩
  · have e : uniJ i c = cn (one i c) := by
      unfold uniJ one
      by_cases h : c = i
      · rw [if_pos h, if_pos h.symm]
      · rw [if_neg h, if_neg (fun e => h e.symm), cn0]
    rw [e, jv_cn]
    exact ⟨rfl, Lim_lims _, .inr rfl⟩
  · unfold ltb
    rw [if_pos ⟨h1, .inl h2⟩]
/-- Reduced, as the program asks. -/
def lsm (m : Nat) (b : Mx) (k j : Nat) : Prop := ((lm m b k j).natAbs : Int) * 2 ≤ dm m b (j + 1)
def lrdc (m n : Nat) (b : Mx) : Prop := Ind m n b ∧ ∀ k, 1 ≤ k → k < n → (∀ j, j < k → lsm m b k j) ∧ farL m b k
theorem lReduced_meets (v : Value) (a : List Row) (k : Nat) (hf : Fits k a) (hk : k ≤ 1048576) (ln : a.length ≤ 1024) (lc : (a.getD 0 []).length ≤ 1048576) (hD : lD k a.length + lK k a.length + 2 ≤ 268435456) :
    Meets Try.prog 12 [v] [(v, W a)] (fun r os fs => os = [] ∧ fs = [] ∧ ∃ p : Bool, (p = true ↔ right a ∧ lrdc (a.getD 0 []).length a.length (rvm a)) ∧ r = .tuple #[.bool p, .int .i64 (if right a then 0 else 1)]) := by
  refine meets_of_vc Try.func12 (by kernel_rfl) rfl (by kernel_rfl) (Nat.le_of_ble_eq_true rfl) ?_
  refine call_fn (mRight_meets v a) (Seals.refl _ _) mS ?_
  rintro _ _ _ ⟨rfl, rfl, rfl⟩
  by_cases hr : right a
  case neg =>
    rw [decide_eq_false hr, if_neg hr]
    exact fin ⟨rfl, rfl, false, ⟨fun h => by simp at h, fun h => absurd h.1 hr⟩, rfl⟩ (Seals.nil _ _)
  rw [decide_eq_true hr, if_pos hr]
  refine call_fn (lmade_meets v a k hf hr hk ln lc) (Seals.refl _ _) mS ?_
  rintro _ _ _ (⟨hI, rfl, rfl, rfl⟩ | ⟨hI, s, hs, rfl, rfl, rfl⟩)
  · refine eq_ptr ?_
    exact fin ⟨rfl, rfl, false, ⟨fun h => by simp at h, fun h => absurd h.2.1 hI⟩, rfl⟩ (Seals.nil _ _)
  have hv := Sv.start hf lc ln hI
  have hn1 := hr.1
  generalize hC : (a.getD 0 []).length = C at *
  generalize dm C (rvm a) = d at *
  generalize ltb C (rvm a) a.length 0 = l at *
  have hdz := hv.dz
  have hlz : ∀ i j, j < i → i < a.length → sz (l i j) (lD k a.length + lK k a.length + 1) := fun i j h1 h2 => by
    rw [hv.hl i j h1 h2]; exact hv.lb.lz (by omega) h2 h1
  generalize hDD : lD k a.length = D at *
  generalize hKK : lK k a.length = K at *
  refine eq_ptr ?_
  refine loop_rule (X := Nat) (fun i => ([(0, v), (4, ptr0 s.r 0), (5, .int .i64 (i : Nat))], bas s C a.length (rawJ a) uniJ d l [], [(v, W a)]))
    (fun i => 1 ≤ i ∧ i ≤ a.length ∧ ∀ t, 1 ≤ t → t < i → (∀ j, j < t → lsm C (rvm a) t j) ∧ farL C (rvm a) t) (fun i => a.length - i) rfl ?_ ?_
  · exact again 1 ⟨Nat.le_refl _, hn1, fun t h1 h2 => by omega⟩ trivial mF (Seals.sub mS)
  · rintro i ⟨hi1, hi2, hb⟩
    refine len_fact (v := v) (n := a.length) mM fun _ => ?_
    refine cmp_split _ rfl (fun hc => ?_) (fun hc => ?_)
    · have hin : i < a.length := by omega
      refine loop_rule (X := Nat) (fun j => ([(0, v), (4, ptr0 s.r 0), (5, .int .i64 (i : Nat)), (20, .int .i64 (i : Nat)), (21, .int .i64 (j : Nat))], bas s C a.length (rawJ a) uniJ d l [], [(v, W a)]))
        (fun j => j ≤ i ∧ ∀ t, t < j → lsm C (rvm a) i t) (fun j => i - j) rfl ?_ ?_
      · exact again 0 ⟨Nat.zero_le _, fun t h1 => by omega⟩ trivial mF (Seals.sub mS)
      · rintro j ⟨hj, hjs⟩
        refine cmp_split _ rfl (fun hlt => ?_) (fun hlt => ?_)
        · have hji : j < i := by omega
          have g1 := hlz i j hji hin
          have g2 := hdz (j + 1) (by omega)
          have g3 : sz ((l i j).natAbs : Int) (D + K + 1) := by unfold sz at *; rw [Int.natAbs_natCast]; exact g1
          have f1 : (2 : Int) ^ far 1 = 2 := by decide
          have c2 := fun y => zShlZ y ((l i j).natAbs : Int) 1 _ g3 (by omega)
          rw [f1] at c2
          refine draw_rule [0, 1, 2, 3, 4, 5, 6, 7, 8, 9, 12, 13, 14, 15, 16, 17, 18, 19, 10, 11, 20, 21] [0, 1, 2, 3, 4, 5, 6, 7, 8, 9, 10, 11, 12, 13, 14, 15, 16, 17, 18, 19, 20, 21] (by kernel_rfl) (by kernel_rfl) ?_
          refine field_ptr ?_
          refine ld4l 0 rfl rfl ?_
          refine index_elem 7 rfl hs.vl (i) (by omega) (by omega) ?_
          refine load_one_elem 7 rfl (i) (by omega) (u := s.sl (i)) rfl ?_
          refine index_fj 6 (i) rfl (by omega) (hs.sl (i) (by omega)) (j) (by omega) (by omega) ?_
          refine load_fz 6 (i) (j) rfl (by omega) (by omega) fun y1 => ?_
          refine field_ptr ?_
          refine ld4d 0 rfl rfl ?_
          refine ar rfl mI ?_
          refine index_elem 5 rfl hs.vd (j + 1) (by omega) (by omega) ?_
          refine load_elem' (d := zd (d (j + 1))) 5 rfl (j + 1) (by omega) rfl (load_I _ _) fun y2 => ?_
          refine call_fn (zAbsZ y1 (l i j) _ g1 (by omega)) (Seals.refl _ _) mS ?_
          rintro z1 _ _ ⟨rfl, rfl⟩
          refine call_fn (c2 z1) (Seals.refl _ _) mS ?_
          rintro z2 _ _ ⟨rfl, rfl⟩
          refine call_fn (zCmpSZ z2 y2 _ _ (D + K + 1 + 1) D (g3.mul (sz_num 2 (by decide))) g2 (by omega) (by omega)) (Seals.refl _ _) mS ?_
          rintro _ _ _ ⟨rfl, rfl, rfl⟩
          have e : ((l i j).natAbs * 2 : Int) - d (j + 1) = ((lm C (rvm a) i j).natAbs : Int) * 2 - dm C (rvm a) (j + 1) := by rw [hv.hl i j hji hin, hv.hd (j + 1) (by omega)]
          rw [e]
          refine cmp_split _ rfl (fun hg => ?_) (fun hg => ?_)
          · refine fin ⟨rfl, rfl, false, ⟨fun h => by simp at h, fun h => ?_⟩, rfl⟩ ?_
            · have h1 := (h.2.2 i hi1 hin).1 j hji
              have h2 := Int.sign_pos_iff_pos' hg
              unfold lsm at h1; omega
            ·
              repeat (first | exact Seals.nil _ _ | refine Seals.trans (Seals.drop 0 _ _) ?_)
          · have hs2 : lsm C (rvm a) i j := by
              unfold lsm
              rcases Int.lt_trichotomy (((lm C (rvm a) i j).natAbs : Int) * 2 - dm C (rvm a) (j + 1)) 0 with h | h | h
              · omega
              · omega
              · rw [Int.sign_eq_one_of_pos h] at hg; omega
            refine ar rfl mI ?_
            exact again (j + 1) ⟨by omega, fun t ht => by
              by_cases e2 : t = j
              · rw [e2]; exact hs2
              · exact hjs t (by omega)⟩ (by simp only; omega) mF (Seals.sub (fs' := [(v, W a)]) mS)
        · have hji : j = i := by omega
          subst hji
          refine far_call j D (D + K + 1) hi1 hin (by omega) hs hdz hlz (by omega) (by omega) ?_
          rw [hv.far hi1 hin]
          by_cases hfar : farL C (rvm a) j
          · rw [decide_eq_true hfar]
            refine ar rfl mI ?_
            exact again (j + 1) ⟨by omega, by omega, fun t h1 h2 => by
              by_cases e2 : t = j
              · rw [e2]; exact ⟨hjs, hfar⟩
              · exact hb t h1 (by omega)⟩ (by simp only; omega) mF (Seals.sub (fs' := [(v, W a)]) mS)
          · rw [decide_eq_false hfar]
            refine fin ⟨rfl, rfl, false, ⟨fun h => by simp at h, fun h => absurd (h.2.2 j hi1 hin).2 hfar⟩, rfl⟩ ?_
            repeat (first | exact Seals.nil _ _ | refine Seals.trans (Seals.drop 0 _ _) ?_)
    · have hin : i = a.length := by omega
      refine fin ⟨rfl, rfl, true, ⟨fun _ => ⟨hr, hI, fun t h1 h2 => hb t h1 (by omega)⟩, fun _ => rfl⟩, rfl⟩ ?_
      repeat (first | exact Seals.nil _ _ | refine Seals.trans (Seals.drop 0 _ _) ?_)
where
  Int.sign_pos_iff_pos' {x : Int} (h : x.sign > 0) : 0 < x := by
    rcases Int.lt_trichotomy x 0 with e | e | e
    · rw [Int.sign_eq_neg_one_of_neg e] at h; omega
    · rw [e] at h; simp at h
    · exact e
end Go.Proofs.Ytabdfhdddmbmlaa

namespace Go.Proofs.Ytabdfhdddmbmlaa
open Go.RowKit
def kt (D K : Nat) : Nat → Nat
  | 0 => K
  | t + 1 => D + kt D K t + kt D K t + 3
theorem kt_mono {D K : Nat} : ∀ {s t : Nat}, s ≤ t → kt D K s ≤ kt D K t
  | s, 0, h => by rw [show s = 0 by omega]; exact Nat.le_refl _
  | s, t + 1, h => by
    by_cases e : s = t + 1
    · rw [e]; exact Nat.le_refl _
    · have := kt_mono (D := D) (K := K) (s := s) (t := t) (by omega)
      show kt D K s ≤ D + kt D K t + kt D K t + 3
      omega
/-- What bounds all sizes of a reduction of n rows, of numbers of k limbs. -/
def lZ (k n : Nat) : Nat := kt (lD k n) (lK k n) n + lD k n + k + ((k + k + 2) * n + 1) + 4
theorem lrun_step {m n f : Nat} {b u : Mx} {k : Nat} {R : Mx × Mx} (h : lrun m n f b u k = some R) (hk : k < n) :
    ∃ g, f = g + 1 ∧ (if farL m (redr m k k b u).1 k then lrun m n g (redr m k k b u).1 (redr m k k b u).2 (k + 1)
    else lrun m n g (swb (redr m k k b u).1 (k - 1)) (swb (redr m k k b u).2 (k - 1)) (max 1 (k - 1))) = some R := by
  cases f with
  | zero => simp [lrun] at h
  | succ g =>
    rw [lrun, if_neg (by omega)] at h
    exact ⟨g, rfl, h⟩
theorem lrun_end {m n f : Nat} {b u : Mx} {k : Nat} {R : Mx × Mx} (h : lrun m n f b u k = some R) (hk : n ≤ k) : R = (b, u) := by
  cases f with
  | zero => simp [lrun] at h
  | succ g =>
    rw [lrun, if_pos hk] at h
    simpa using h.symm
theorem redr_row {m k : Nat} : ∀ (j : Nat) (b u : Mx) (i c : Nat), i ≠ k → (redr m k j b u).1 i c = b i c
  | 0, _, _, _, _, _ => rfl
  | j + 1, b, u, i, c, h => by
    rw [redr_succ, redr_row j _ _ i c h]
    unfold redq; rw [if_neg h]
/-- A row brought to its size. -/
theorem Sv.full {m n : Nat} {a : Mx} {D K K' k0 k : Nat} {x y : Jx} {d : Nat → Int} {l : Mx} {B0 U0 B U : Mx} (h0 : LB a m n D K B0 U0) (h : Sv m n a D K' k0 x y d l B U) (hk : k < n) (hK : n * (D + 1) ≤ K)
    (he : (B, U) = redr m k k B0 U0) : Sv m n a D K k0 x y d l B U := by
  obtain ⟨w, ws⟩ := redr_full (u := U0) hk h0.ind
  have eB : B = (redr m k k B0 U0).1 := by rw [← he]
  have eU : U = (redr m k k B0 U0).2 := by rw [← he]
  rw [← eB] at w ws
  exact ⟨h0.full hk hK w ws (fun i c hi => by rw [eB]; exact redr_row k _ _ i c hi) h.lb.ua h.lb.un, h.rb, h.ru, h.hd, h.hl⟩
structure RdS where
  k : Nat
  s : BS
  b : Jx
  u : Jx
  d : Nat → Int
  l : Mx
  B : Mx
  U : Mx
  f : Nat
structure RdI where
  z : Int
  j : Nat
  b : Jx
  u : Jx
  l : Mx
  B : Mx
  U : Mx
/-- Canonical up to row i, place c. -/
def nrmJ (x : Jx) (i c : Nat) : Jx := fun a e => if a < i ∨ (a = i ∧ e < c) then cn (jv (x a e)) else x a e
theorem nrmJ_zero (x : Jx) : nrmJ x 0 0 = x := by
  funext a e; unfold nrmJ; rw [if_neg (by omega)]
theorem lReduce_meets (v : Value) (a : List Row) (k : Nat) (R : Mx × Mx) (hf : Fits k a) (hk : k ≤ 1048576) (ln : a.length ≤ 1024) (lc : (a.getD 0 []).length ≤ 1048576) (hZ : lZ k a.length ≤ 268435456)
    (hR : right a → Ind (a.getD 0 []).length a.length (rvm a) → ∃ f, lrun (a.getD 0 []).length a.length f (rvm a) one 1 = some R) :
    Meets Try.prog 11 [v] [(v, W a)] (fun r os fs => fs = [] ∧
      ((¬ right a ∧ r = .tuple #[.slice none 0 0, .slice none 0 0, .int .i64 1] ∧ os = []) ∨ (right a ∧ ¬ Ind (a.getD 0 []).length a.length (rvm a) ∧ r = .tuple #[.slice none 0 0, .slice none 0 0, .int .i64 8] ∧ os = []) ∨
       (right a ∧ Ind (a.getD 0 []).length a.length (rvm a) ∧ ∃ q w vs ws, isSl q ∧ isSl w ∧ (∀ i, i < a.length → isSl (vs i)) ∧ (∀ i, i < a.length → isSl (ws i)) ∧ r = .tuple #[q, w, .int .i64 0] ∧
        os = [famO vs a.length (a.getD 0 []).length R.1, outer q a.length vs, famO ws a.length a.length R.2, outer w a.length ws]))) := by
  refine meets_of_vc Try.func11 (by kernel_rfl) rfl (by kernel_rfl) (Nat.le_of_ble_eq_true rfl) ?_
  refine call_fn (mRight_meets v a) (Seals.refl _ _) mS ?_
  rintro _ _ _ ⟨rfl, rfl, rfl⟩
  by_cases hr : right a
  case neg =>
    rw [decide_eq_false hr]
    exact fin ⟨rfl, .inl ⟨hr, rfl, rfl⟩⟩ (Seals.nil _ _)
  rw [decide_eq_true hr]
  refine call_fn (lmade_meets v a k hf hr hk ln lc) (Seals.refl _ _) mS ?_
  rintro _ _ _ (⟨hI, rfl, rfl, rfl⟩ | ⟨hI, s0, hs0, rfl, rfl, rfl⟩)
  · refine eq_ptr ?_
    exact fin ⟨rfl, .inr (.inl ⟨hr, hI, rfl, rfl⟩)⟩ (Seals.nil _ _)
  have hv := Sv.start hf lc ln hI
  have hn1 := hr.1
  obtain ⟨f0, hf0⟩ := hR hr hI
  have hA : ∀ i c, sz (rvm a i c) k := fun i c => rv_sz (hf.get i) c
  have hdn : dm (a.getD 0 []).length (rvm a) a.length ≠ 0 := by have := hI a.length (Nat.le_refl _); omega
  have hnK : a.length * (lD k a.length + 1) ≤ lK k a.length := by unfold lK; omega
  have hzz : kt (lD k a.length) (lK k a.length) a.length + lD k a.length + k + ((k + k + 2) * a.length + 1) + 4 ≤ 268435456 := hZ
  generalize hC : (a.getD 0 []).length = C at *
  generalize dm C (rvm a) = d0 at hv ⊢
  generalize ltb C (rvm a) a.length 0 = l0 at *
  generalize hDD : lD k a.length = D at *
  generalize hKK : lK k a.length = K at *
  generalize hZZ : kt D K a.length + D + k + ((k + k + 2) * a.length + 1) + 4 = Z at *
  have hsz : ∀ t, t ≤ a.length → Szs C a.length (rvm a) D (kt D K t) k k Z := fun t ht => by
    have := kt_mono (D := D) (K := K) ht
    exact ⟨by omega, by omega, fun i c _ _ => hA i c, hdn, by omega, ⟨by omega, by omega⟩, hzz⟩
  have hK0 : Szs C a.length (rvm a) D K k k Z := hsz 0 (Nat.zero_le _)
  refine eq_ptr ?_
  refine loop_rule (X := RdS) (fun x => ([(0, v), (5, ptr0 x.s.r 0), (6, .int .i64 (x.k : Nat))], bas x.s C a.length x.b x.u x.d x.l [], [(v, W a)]))
    (fun x => 1 ≤ x.k ∧ x.k ≤ a.length ∧ x.s.ok a.length ∧ Sv C a.length (rvm a) D K k x.b x.u x.d x.l x.B x.U ∧ lrun C a.length x.f x.B x.U x.k = some R) (fun x => x.f) rfl ?_ ?_
  · exact again ⟨1, s0, rawJ a, uniJ, d0, l0, rvm a, one, f0⟩ ⟨Nat.le_refl _, hn1, hs0, hv, hf0⟩ trivial mF (Seals.sub mS)
  · rintro ⟨i, s, b, u, d, l, B, U, f⟩ ⟨hi1, hi2, hs, hv, hf⟩
    simp only at hi1 hi2 hs hv hf ⊢
    refine len_fact (v := v) (n := a.length) mM fun _ => ?_
    refine cmp_split _ rfl (fun hc => ?_) (fun hc => ?_)
    · have hin : i < a.length := by omega
      obtain ⟨g, rfl, hg⟩ := lrun_step hf hin
      refine ar rfl mI ?_
      refine loop_rule (X := RdI) (fun x => ([(0, v), (5, ptr0 s.r 0), (6, .int .i64 (i : Nat)), (7, .int .i64 x.z)], bas s C a.length x.b x.u d x.l [], [(v, W a)]))
        (fun x => x.z = (x.j : Int) - 1 ∧ x.j ≤ i ∧ Sv C a.length (rvm a) D (kt D K (i - x.j)) k x.b x.u d x.l x.B x.U ∧ redr C i x.j x.B x.U = redr C i i B U) (fun x => x.j) rfl ?_ ?_
      · exact again ⟨(i : Int) - 1, i, b, u, l, B, U⟩ ⟨rfl, Nat.le_refl _, by simp only [Nat.sub_self]; exact hv, rfl⟩ trivial mF (Seals.sub mS)
      · rintro ⟨z, j, b2, u2, l2, B2, U2⟩ ⟨hz, hj, hv2, he⟩
        simp only at hz hj hv2 he ⊢
        refine cmp_split _ rfl (fun hlt => ?_) (fun hlt => ?_)
        · obtain ⟨j, rfl⟩ : ∃ j', j = j' + 1 := ⟨j - 1, by omega⟩
          obtain rfl : z = (j : Int) := by omega
          have hS := hsz (i - (j + 1)) (by omega)
          have hbig := hS.hz
          refine size_call i j D (D + kt D K (i - (j + 1)) + 1) Z hin (by omega) (by omega) (by omega) hs (hv2.bp hS) (hv2.up hS) hv2.dz (fun x y h1 h2 => hv2.lz hS x y h1 h2) ?_ (by omega) (by omega) (by omega) fun r b3 u3 h3 h4 => ?_
          · rw [hv2.hd (j + 1) (by omega)]; exact hv2.lb.ind (j + 1) (by omega)
          have hv3 := hv2.red hS hin (by omega) h3 h4
          refine ar rfl mI ?_
          refine again ⟨(j : Int) - 1, j, b3, u3, lmid l2 d i j (rnd (l2 i j) (d (j + 1))) j, redq B2 i j (rnd (lm C B2 i j) (dm C B2 (j + 1))), redq U2 i j (rnd (lm C B2 i j) (dm C B2 (j + 1)))⟩ ⟨rfl, by simp only; omega, ?_, ?_⟩ (by simp only; omega) mF (Seals.sub (fs' := [(v, W a)]) mS)
          · refine hv3.mono ?_
            simp only
            rw [show i - j = (i - (j + 1)) + 1 by omega]
            exact Nat.le_refl _
          · exact he
        · obtain rfl : j = 0 := by omega
          have hv3 : Sv C a.length (rvm a) D K k b2 u2 d l2 B2 U2 := hv2.full hv.lb hin hnK he
          have eB : (redr C i i B U).1 = B2 := by rw [← he]; rfl
          have eU : (redr C i i B U).2 = U2 := by rw [← he]; rfl
          rw [eB, eU] at hg
          refine far_call i D (D + K + 1) hi1 hin (by omega) hs hv3.dz (fun x y h1 h2 => hv3.lz hK0 x y h1 h2) (by omega) (by have := hK0.hz; omega) ?_
          rw [hv3.far hi1 hin]
          by_cases hfar : farL C B2 i
          · rw [decide_eq_true hfar]
            rw [if_pos hfar] at hg
            refine ar rfl mI ?_
            exact again ⟨i + 1, s, b2, u2, d, l2, B2, U2, g⟩ ⟨by simp only; omega, by simp only; omega, hs, hv3, hg⟩ (by simp only; omega) mF (Seals.sub (fs' := [(v, W a)]) mS)
          · rw [decide_eq_false hfar]
            rw [if_neg hfar] at hg
            have n1 : d i ≠ 0 := by rw [hv3.hd i (by omega)]; have := hv3.lb.ind i (by omega); omega
            have n2 : d (i + 1) ≠ 0 := by rw [hv3.hd (i + 1) (by omega)]; have := hv3.lb.ind (i + 1) (by omega); omega
            refine turn_call i D (D + K + 1) hi1 hin (by omega) hs hv3.dz (fun x y h1 h2 => hv3.lz hK0 x y h1 h2) n1 n2 (by have := hK0.hz; omega) (by have := hK0.hz; omega) fun r => ?_
            have hv4 := hv3.turn hi1 hin hfar
            refine ar rfl mI ?_
            refine max2_rule ?_
            exact again ⟨max 1 (i - 1), s.sw (i - 1), _, _, _, _, _, _, g⟩ ⟨by simp only; omega, by simp only; omega, hs.sw (by omega), hv4, hg⟩ (by simp only; omega) mF (Seals.sub (fs' := [(v, W a)]) mS)
    · have hin : i = a.length := by omega
      have hRR := lrun_end hf (by omega)
      have hb := hv.bp hK0
      have hu := hv.up hK0
      have z1 := hs.vb
      have z2 := hs.vu
      have z3 := hs.sb
      have z4 := hs.su
      have hZb : Z ≤ 268435456 := hzz
      have e1 : ∀ i c, i < a.length → c < C → cn (jv (b i c)) = cn (R.1 i c) := fun i c h1 h2 => by rw [(hb i c h1 h2).1, hRR]
      have e2 : ∀ i c, i < a.length → c < a.length → cn (jv (u i c)) = cn (R.2 i c) := fun i c h1 h2 => by rw [(hu i c h1 h2).1, hRR]
      clear hv hf hRR hR hsz hK0 hf0 hA
      generalize hn : a.length = n at *
      refine draw_rule [0, 1, 2, 3, 4, 5, 6, 7, 8, 9, 12, 10, 11] [0, 1, 2, 3, 4, 5, 6, 7, 8, 9, 10, 11, 12] (by kernel_rfl) (by kernel_rfl) ?_
      refine field_ptr ?_
      refine field_ptr ?_
      refine ld4b 0 rfl rfl ?_
      refine field_ptr ?_
      refine field_ptr ?_
      refine ld4u 0 rfl rfl ?_
      refine buildSlice_fact (size := 1) (n := 2) [s.vb, s.vu] [.one s.vb, .one s.vu] rfl rfl (by decide) (by decide) ⟨Reads.one hs.vb.one, rfl, Reads.one hs.vu.one, rfl, trivial⟩ fun lt => ?_
      refine len_fact (n := 2) mM fun _ => ?_
      refine loop_rule (X := Nat) (fun t => ([(5, ptr0 s.r 0), (55, lt), (56, .int .i64 2), (57, .int .i64 (t : Nat))],
          bas s C n (selb b (nrmJ b n 0) t) (selu u (nrmJ u n 0) t) d l [], [(lt, .sl 1 2 fun i => [Dat.one s.vb, Dat.one s.vu].getD i (.one undef))]))
          (fun t => t ≤ 2) (fun t => 2 - t) rfl ?_ ?_
      · exact again 0 (Nat.zero_le _) trivial mF (Seals.sub mS)
      · rintro t ht
        refine cmp_split _ rfl (fun hc => ?_) (fun hc => ?_)
        · have htt : t = 0 ∨ t = 1 := by omega
          rcases htt with rfl | rfl
          ·
            refine index_fact (n := 2) mM 0 rfl (by decide) fun a1 => ?_
            refine load_one (u := s.vb) mM ?_
            refine len_own 2 rfl z1 fun _ => ?_
            refine loop_rule (X := Nat) (fun i => ([(5, ptr0 s.r 0), (55, lt), (56, .int .i64 2), (57, .int .i64 (0 : Nat)), (61, s.vb), (62, .int .i64 (n : Nat)), (63, .int .i64 (i : Nat))],
                bas s C n (nrmJ b i 0) (u) d l [], [(lt, .sl 1 2 fun i => [Dat.one s.vb, Dat.one s.vu].getD i (.one undef))]))
                (fun i => i ≤ n) (fun i => n - i) rfl ?_ ?_
            · exact again 0 (Nat.zero_le _) trivial mF (by rw [nrmJ_zero]; exact Seals.sub mS)
            rintro i hi
            refine cmp_split _ rfl (fun hlt => ?_) (fun hlt => ?_)
            · have hin : i < n := by omega
              refine index_elem 2 rfl z1 i rfl (by omega) ?_
              refine load_one_elem 2 rfl i (by omega) (u := s.sb i) rfl ?_
              refine len_fj 1 i rfl hin (z3 i hin) fun _ => ?_
              refine loop_rule (X := Nat) (fun c => ([(5, ptr0 s.r 0), (11, s.sb i), (55, lt), (56, .int .i64 2), (57, .int .i64 (0 : Nat)), (61, s.vb), (62, .int .i64 (n : Nat)), (63, .int .i64 (i : Nat)), (67, s.sb i), (68, .int .i64 (C : Nat)), (69, .int .i64 (c : Nat))],
                  bas s C n (nrmJ b i c) (u) d l [], [(lt, .sl 1 2 fun i => [Dat.one s.vb, Dat.one s.vu].getD i (.one undef))]))
                  (fun c => c ≤ C) (fun c => C - c) rfl ?_ ?_
              · exact again 0 (Nat.zero_le _) trivial mF (Seals.sub mS)
              rintro c hcm
              refine cmp_split _ rfl (fun hlt2 => ?_) (fun hlt2 => ?_)
              · have hcC : c < C := by omega
                have f1 := hb i c hin hcC
                refine index_fj 1 i rfl hin (z3 i hin) c rfl hcC ?_
                refine load_fj 1 i c rfl hin hcC (b i c) (by unfold nrmJ; rw [if_neg (by omega)]) fun y1 => ?_
                refine call_fn (znorm_meets y1 (b i c).1 (b i c).2 f1.2.1 (by omega)) (Seals.refl _ _) mS ?_
                rintro y2 _ _ ⟨rfl, rfl⟩
                refine index_fj 1 i rfl hin (z3 i hin) c rfl hcC ?_
                refine store_fj 1 i c rfl hin hcC (cn (jv (b i c))) (nrmJ b i (c + 1)) (Reads.fact (d := zd (jv (b i c))) mM) (fun a b' ha hb' => ?_) ?_
                · unfold nrmJ
                  by_cases e : a = i ∧ b' = c
                  · rw [if_pos e, if_pos (by omega), e.1, e.2]
                  · rw [if_neg e]
                    by_cases e2 : a < i ∨ (a = i ∧ b' < c)
                    · rw [if_pos e2, if_pos (by omega)]
                    · rw [if_neg e2, if_neg (by omega)]
                refine ar rfl mI ?_
                exact again (c + 1) (by omega) (by simp only; omega) mF (Seals.sub mS)
              · have hcC : c = C := by omega
                subst hcC
                refine ar rfl mI ?_
                refine again (i + 1) (by omega) (by simp only; omega) mF (Seals.trans (Seals.fjcong (vs := s.sb) (vs' := s.sb) (x := nrmJ b i c) (x' := nrmJ b (i + 1) 0) (os := [_, _, _, _, _, _, _, _]) 1 rfl (fun x => x) (fun x hx => ⟨hx, rfl, fun y hy => ?_⟩) (fun _ _ _ _ e => e)) (Seals.sub mS))
                unfold nrmJ
                by_cases e : x < i ∨ x = i
                · rw [if_pos (by omega), if_pos (by omega)]
                · rw [if_neg (by omega), if_neg (by omega)]
            · have hin : i = n := by omega
              subst hin
              refine ar rfl mI ?_
              exact again 1 (by omega) (by simp only; omega) mF (Seals.sub mS)
          ·
            refine index_fact (n := 2) mM 1 rfl (by decide) fun a1 => ?_
            refine load_one (u := s.vu) mM ?_
            refine len_own 4 rfl z2 fun _ => ?_
            refine loop_rule (X := Nat) (fun i => ([(5, ptr0 s.r 0), (55, lt), (56, .int .i64 2), (57, .int .i64 (1 : Nat)), (61, s.vu), (62, .int .i64 (n : Nat)), (63, .int .i64 (i : Nat))],
                bas s C n (nrmJ b n 0) (nrmJ u i 0) d l [], [(lt, .sl 1 2 fun i => [Dat.one s.vb, Dat.one s.vu].getD i (.one undef))]))
                (fun i => i ≤ n) (fun i => n - i) rfl ?_ ?_
            · exact again 0 (Nat.zero_le _) trivial mF (by rw [nrmJ_zero]; exact Seals.sub mS)
            rintro i hi
            refine cmp_split _ rfl (fun hlt => ?_) (fun hlt => ?_)
            · have hin : i < n := by omega
              refine index_elem 4 rfl z2 i rfl (by omega) ?_
              refine load_one_elem 4 rfl i (by omega) (u := s.su i) rfl ?_
              refine len_fj 3 i rfl hin (z4 i hin) fun _ => ?_
              refine loop_rule (X := Nat) (fun c => ([(5, ptr0 s.r 0), (11, s.su i), (55, lt), (56, .int .i64 2), (57, .int .i64 (1 : Nat)), (61, s.vu), (62, .int .i64 (n : Nat)), (63, .int .i64 (i : Nat)), (67, s.su i), (68, .int .i64 (n : Nat)), (69, .int .i64 (c : Nat))],
                  bas s C n (nrmJ b n 0) (nrmJ u i c) d l [], [(lt, .sl 1 2 fun i => [Dat.one s.vb, Dat.one s.vu].getD i (.one undef))]))
                  (fun c => c ≤ n) (fun c => n - c) rfl ?_ ?_
              · exact again 0 (Nat.zero_le _) trivial mF (Seals.sub mS)
              rintro c hcm
              refine cmp_split _ rfl (fun hlt2 => ?_) (fun hlt2 => ?_)
              · have hcC : c < n := by omega
                have f1 := hu i c hin hcC
                refine index_fj 3 i rfl hin (z4 i hin) c rfl hcC ?_
                refine load_fj 3 i c rfl hin hcC (u i c) (by unfold nrmJ; rw [if_neg (by omega)]) fun y1 => ?_
                refine call_fn (znorm_meets y1 (u i c).1 (u i c).2 f1.2.1 (by omega)) (Seals.refl _ _) mS ?_
                rintro y2 _ _ ⟨rfl, rfl⟩
                refine index_fj 3 i rfl hin (z4 i hin) c rfl hcC ?_
                refine store_fj 3 i c rfl hin hcC (cn (jv (u i c))) (nrmJ u i (c + 1)) (Reads.fact (d := zd (jv (u i c))) mM) (fun a b' ha hb' => ?_) ?_
                · unfold nrmJ
                  by_cases e : a = i ∧ b' = c
                  · rw [if_pos e, if_pos (by omega), e.1, e.2]
                  · rw [if_neg e]
                    by_cases e2 : a < i ∨ (a = i ∧ b' < c)
                    · rw [if_pos e2, if_pos (by omega)]
                    · rw [if_neg e2, if_neg (by omega)]
                refine ar rfl mI ?_
                exact again (c + 1) (by omega) (by simp only; omega) mF (Seals.sub mS)
              · have hcC : c = n := by omega
                subst hcC
                refine ar rfl mI ?_
                refine again (i + 1) (by omega) (by simp only; omega) mF (Seals.trans (Seals.fjcong (vs := s.su) (vs' := s.su) (x := nrmJ u i c) (x' := nrmJ u (i + 1) 0) (os := [_, _, _, _, _, _, _, _]) 3 rfl (fun x => x) (fun x hx => ⟨hx, rfl, fun y hy => ?_⟩) (fun _ _ _ _ e => e)) (Seals.sub mS))
                unfold nrmJ
                by_cases e : x < i ∨ x = i
                · rw [if_pos (by omega), if_pos (by omega)]
                · rw [if_neg (by omega), if_neg (by omega)]
            · have hin : i = n := by omega
              subst hin
              refine ar rfl mI ?_
              exact again 2 (by omega) (by simp only; omega) mF (Seals.sub mS)
        · have ht2 : t = 2 := by omega
          subst ht2
          refine draw_rule [0, 1, 2, 3, 4, 5, 6, 7, 8, 9, 10, 11, 12] [0, 1, 2, 3, 4, 10, 5, 6, 7, 8, 9, 11, 12] (by kernel_rfl) (by kernel_rfl) ?_
          refine field_ptr ?_
          refine field_ptr ?_
          refine ld4b 0 rfl rfl ?_
          refine field_ptr ?_
          refine field_ptr ?_
          refine ld4u 0 rfl rfl ?_
          refine fin ⟨rfl, .inr (.inr ⟨hr, hI, s.vb, s.vu, s.sb, s.su, z1, z2, z3, z4, rfl, rfl⟩)⟩ ?_
          refine Seals.trans (Seals.drop 0 _ _) (Seals.trans (Seals.drop 4 _ _) (Seals.trans (Seals.drop 4 _ _) (Seals.trans (Seals.drop 4 _ _) ?_)))
          refine Seals.trans (Seals.fjcong (vs := s.sb) (vs' := s.sb) (x := nrmJ b n 0) (x' := fun i c => cn (R.1 i c)) (os := [_, _, _, _]) 0 rfl (fun x => x) (fun x hx => ⟨hx, rfl, fun y hy => ?_⟩) (fun _ _ _ _ e => e))
            (Seals.trans (Seals.fjcong (vs := s.su) (vs' := s.su) (x := nrmJ u n 0) (x' := fun i c => cn (R.2 i c)) (os := [_, _, _, _]) 2 rfl (fun x => x) (fun x hx => ⟨hx, rfl, fun y hy => ?_⟩) (fun _ _ _ _ e => e)) (Seals.nil _ _))
          · unfold nrmJ; rw [if_pos (.inl hx)]; exact (e1 x y hx hy).symm
          · unfold nrmJ; rw [if_pos (.inl hx)]; exact (e2 x y hx hy).symm
end Go.Proofs.Ytabdfhdddmbmlaa

namespace Go.Proofs.Ytabdfhdddmbmlaa
theorem kernel_det {n : Nat} {A : Mx} {u : Nat → Int} {i : Nat} (hi : i < n) (hu : u i ≠ 0) (h : ∀ j, j < n → isum (fun i => u i * A i j) n = 0) : det n A = 0 := by
  obtain ⟨n, rfl⟩ : ∃ m, n = m + 1 := ⟨n - 1, by omega⟩
  have h1 : isum (fun j => isum (fun k => u k * A k j) (n + 1) * adj n A j i) (n + 1) = 0 := isum_zero fun k hk => by rw [h k hk]; simp
  rw [isum_congr (g' := fun j => isum (fun k => u k * (A k j * adj n A j i)) (n + 1)) fun j _ => by
    rw [← isum_mul_right]; exact isum_congr fun k _ => by grind, isum_swap,
    isum_congr (g' := fun k => u k * (if k = i then det (n + 1) A else 0)) fun k hk => by rw [isum_mul, ← mul_adj A hk hi]; rfl,
    isum_one hi fun k _ hk => by rw [if_neg hk]; simp, if_pos rfl] at h1
  rcases Int.mul_eq_zero.1 h1 with h2 | h2
  · exact absurd h2 hu
  · exact h2
theorem isum_rev (g : Nat → Int) : ∀ n, isum (fun k => g (n - 1 - k)) n = isum g n
  | 0 => rfl
  | n + 1 => by
    rw [isum_front]
    show g (n + 1 - 1 - 0) + isum (fun k => g (n + 1 - 1 - (k + 1))) n = isum g n + g n
    rw [isum_congr (g' := fun k => g (n - 1 - k)) fun k hk => by congr 1; omega, isum_rev g n]
    simp only [Nat.add_sub_cancel, Nat.sub_zero]
    omega
/-- A row of Sylvester's matrix. -/
def sF (f : Nat → Int) (d i k : Nat) : Int := if i ≤ k ∧ k ≤ i + d then f (d + i - k) else 0
def S2 (m n : Nat) (f g : Nat → Int) : Mx := fun i k => if i < n then sF f m i k else sF g n (i - n) k
-- Turned about.
end Go.Proofs.Ytabdfhdddmbmlaa

namespace Go.Proofs.Ytabdfhdddmbmlaa
theorem dG_det (G : Mx) (n : Nat) : dG G n = det n G := by
  unfold dG
  rw [← det_rev n G]
  refine det_congr fun x y hx hy => ?_
  show G ((dn n).getD x 0) ((dn n).getD y 0) = G _ _
  rw [dn_get hx, dn_get hy]
section
variable {m n : Nat} {b : Mx}
theorem ip_zero {u : Nat → Int} : ∀ {m : Nat}, ip m u u = 0 → ∀ c, c < m → u c = 0
  | 0, _, c, hc => by omega
  | m + 1, h, c, hc => by
    have h1 : ip m u u + u m * u m = 0 := h
    have h2 := ip_nn m u
    have h3 := sq_nn (u m)
    by_cases e : c = m
    · have : u m * u m = 0 := by omega
      rw [e]; rcases Int.mul_eq_zero.1 this with h | h <;> exact h
    · exact ip_zero (m := m) (by omega) c (by omega)
/-- A volume that is not 0: the rows are independent. -/
theorem ind_of_vol (h : dm m b n ≠ 0) : Ind m n b := by
  have hne : ∀ t, t ≤ n → dG (gr m b) t ≠ 0 := by
    intro t
    induction t with
    | zero => intro _; rw [dG_zero]; decide
    | succ s ih =>
      intro hs h0
      have hs0 := ih (by omega)
      have hw : ip m (wv m b s) (wv m b s) = 0 := by rw [wv_wv, h0, Int.mul_zero]
      have hz := ip_zero hw
      refine h ?_
      unfold dm
      rw [dG_det]
      -- the rows' sum that is 0
      refine kernel_det (i := s) (by omega) (u := fun i => if i ≤ s then cf (gr m b) s (s - i) else 0) ?_ fun j hj => ?_
      · simp only [if_pos (Nat.le_refl s), Nat.sub_self]
        rw [cf_zero]; exact hs0
      · have h1 : ip m (wv m b s) (b j) = 0 := isum_zero fun c hc => by rw [hz c hc, Int.zero_mul]
        rw [ip_wv] at h1
        obtain ⟨e, he⟩ : ∃ e, n = (s + 1) + e := ⟨n - (s + 1), by omega⟩
        rw [he, isum_split, isum_zero (n := e) fun i hi => by simp only [if_neg (show ¬ s + 1 + i ≤ s by omega), Int.zero_mul], Int.add_zero, ← h1, ← isum_rev]
        refine isum_congr fun r hr => ?_
        simp only [show s + 1 - 1 - r ≤ s by omega, if_true]
        rw [show s - (s + 1 - 1 - r) = r by omega, show s + 1 - 1 - r = s - r by omega, Int.mul_comm]; rfl
  exact fun t ht => dG_pos (n := n) hne t ht
theorem vol_of_ind (h : Ind m n b) : dm m b n ≠ 0 := by have := h n (Nat.le_refl _); omega
-- A row that has something beside the others.
end
end Go.Proofs.Ytabdfhdddmbmlaa

namespace Go.Proofs.Ytabdfhdddmbmlaa
section
variable {a b b' u : Mx} {m n D K k : Nat}
theorem redr_lb (hm : m < 18446744073709551616) (hk : k < n) : ∀ (j : Nat) {b u : Mx} {K : Nat}, j ≤ k → LB a m n D K b u → ∃ K', LB a m n D K' (redr m k j b u).1 (redr m k j b u).2
  | 0, _, _, K, _, h => ⟨K, h⟩
  | j + 1, _, _, _, hj, h => by
    rw [redr_succ]
    exact redr_lb hm hk j (by omega) (h.redq hk (by omega) (h.qz hm hk (by omega)))
theorem redr_rows : ∀ (j : Nat) (b u : Mx) (i c : Nat), i ≠ k → (redr m k j b u).1 i c = b i c
  | 0, _, _, _, _, _ => rfl
  | j + 1, b, u, i, c, h => by
    rw [redr_succ, redr_rows j _ _ i c h]
    unfold redq; rw [if_neg h]
theorem redr_LB (hm : m < 18446744073709551616) (hk : k < n) (hK : n * (D + 1) ≤ K) (h : LB a m n D K b u) : LB a m n D K (redr m k k b u).1 (redr m k k b u).2 := by
  obtain ⟨w, ws⟩ := redr_full (u := u) hk h.ind
  obtain ⟨K', h'⟩ := redr_lb hm hk k (Nat.le_refl _) h
  exact h.full hk hK w ws (fun i c hi => redr_rows k _ _ i c hi) h'.ua h'.un
theorem lrun_LB (hm : m < 18446744073709551616) (hK : n * (D + 1) ≤ K) : ∀ {f : Nat} {b u : Mx} {k : Nat} {R : Mx × Mx}, lrun m n f b u k = some R → 1 ≤ k → LB a m n D K b u → LB a m n D K R.1 R.2
  | 0, b, u, k, R, h, _, _ => by simp [lrun] at h
  | f + 1, b, u, k, R, h, hk, hb => by
    rw [lrun] at h
    split at h
    · obtain rfl : (b, u) = R := by simpa using h
      exact hb
    · rename_i hn
      have h1 := redr_LB hm (show k < n by omega) hK hb
      split at h
      · exact lrun_LB hm hK h (by omega) h1
      · rename_i hf
        exact lrun_LB hm hK h (by omega) (h1.swb hk (by omega) hf)
-- Rows that are the same where it counts.
theorem gr_same (h : ∀ i c, i < n → c < m → b' i c = b i c) {i j : Nat} (hi : i < n) (hj : j < n) : gr m b' i j = gr m b i j :=
  isum_congr fun c hc => by rw [h i c hi hc, h j c hj hc]
theorem dm_same (h : ∀ i c, i < n → c < m → b' i c = b i c) {t : Nat} (ht : t ≤ n) : dm m b' t = dm m b t :=
  dG_congr fun i j hi hj => gr_same h (by omega) (by omega)
theorem lm_same (h : ∀ i c, i < n → c < m → b' i c = b i c) {i t : Nat} (ht : t < i) (hi : i < n) : lm m b' i t = lm m b i t :=
  det_congr fun x y hx hy => by
    have e : ∀ (z : Nat) (y : Nat), y < t + 1 → z < n → (z :: dn t).getD y 0 < n := fun z y hy hz => by
      cases y with
      | zero => simpa using hz
      | succ y => rw [List.getD_cons_succ, dn_get (by omega)]; omega
    show gr m b' ((i :: dn t).getD x 0) ((t :: dn t).getD y 0) = gr m b ((i :: dn t).getD x 0) ((t :: dn t).getD y 0)
    exact gr_same h (e i x hx hi) (e t y hy (by omega))
theorem Ind.same (hi : Ind m n b) (h : ∀ i c, i < n → c < m → b' i c = b i c) : Ind m n b' := fun t ht => by rw [dm_same h ht]; exact hi t ht
theorem Size.same (hs : Size m b k 0) (h : ∀ i c, i < n → c < m → b' i c = b i c) (hk : k < n) : Size m b' k 0 := fun t h1 h2 => by
  rw [dm_same h (by omega), lm_same h h2 hk]; exact hs t h1 h2
theorem farL_same (h : ∀ i c, i < n → c < m → b' i c = b i c) (hk : k < n) (h1 : 1 ≤ k) : farL m b' k ↔ farL m b k := by
  unfold farL
  rw [dm_same h (by omega), dm_same h (by omega), dm_same h (by omega), lm_same h (by omega) hk]
theorem Rdc.same (hr : Rdc m b n) (h : ∀ i c, i < n → c < m → b' i c = b i c) : Rdc m b' n := fun i h1 h2 =>
  ⟨(hr i h1 h2).1.same h h2, (farL_same h h2 h1).2 (hr i h1 h2).2⟩
/-- The rows that were made, by a matrix of determinant 1 or -1, make those that they were made of. -/
theorem back_rows (ha : ∀ i c, i < n → c < m → mm n u a i c = b i c) (hu : det n u = 1 ∨ det n u = -1) : ∃ w : Mx, ∀ i c, i < n → c < m → comb n (w i) b c = a i c := by
  cases n with
  | zero => exact ⟨fun _ _ => 0, fun i c hi => by omega⟩
  | succ n =>
    refine ⟨fun i k => det (n + 1) u * adj n u i k, fun i c hi hc => ?_⟩
    unfold comb
    rw [isum_congr (g' := fun k => det (n + 1) u * isum (fun s => adj n u i k * (u k s * a s c)) (n + 1)) fun k hk => by
      rw [← ha k c hk hc]; unfold mm; rw [isum_mul, Int.mul_assoc]]
    rw [isum_mul, isum_swap]
    rw [isum_congr (g' := fun s => (if i = s then det (n + 1) u else 0) * a s c) fun s hs => by
      rw [← adj_mul u hi hs]; unfold mm; rw [← isum_mul_right]; exact isum_congr fun k _ => by rw [Int.mul_assoc]]
    rw [isum_one (r := i) hi fun s _ hs => by rw [if_neg (fun e => hs e.symm), Int.zero_mul], if_pos rfl, ← Int.mul_assoc]
    rcases hu with e | e <;> rw [e] <;> simp
/-- A sum of sums. -/
theorem comb_comb (x : Nat → Int) (w : Mx) (h : ∀ i c, i < n → c < m → comb n (w i) b c = a i c) {c : Nat} (hc : c < m) : comb n x a c = comb n (fun k => isum (fun i => x i * w i k) n) b c := by
  unfold comb
  rw [isum_congr (g' := fun i => isum (fun k => x i * (w i k * b k c)) n) fun i hi => by rw [← h i c hi hc]; unfold comb; rw [isum_mul]]
  rw [isum_swap]
  exact isum_congr fun k _ => by rw [← isum_mul_right]; exact isum_congr fun i _ => by rw [Int.mul_assoc]
end
end Go.Proofs.Ytabdfhdddmbmlaa

namespace Go.Proofs.Ytabdfhdddmbmlaa
open Go.RowKit
theorem rv_vv (r : Row) : rv r = fun c => (vv r).getD c 0 := by
  funext c
  unfold rv
  by_cases h : c < r.length
  · exact (vv_get r c h).symm
  · rw [List.getD_eq_getElem?_getD, List.getD_eq_getElem?_getD, List.getElem?_eq_none (by omega), List.getElem?_eq_none (by rw [vv_len]; omega)]; rfl
theorem rvm_ww (m : List Row) : rvm m = mx (ww m) := by
  funext i c
  unfold rvm mx
  rw [rv_vv, ww_get]
theorem rv_cn (v : List Int) : rv (v.map cn) = fun c => v.getD c 0 := by rw [rv_vv, vv_cn]
theorem rvm_cn (M : List (List Int)) : rvm (M.map (·.map cn)) = mx M := by rw [rvm_ww, ww_cn]
/-- What the steps come to. -/
noncomputable def lrr (m n : Nat) (B : Mx) : Mx × Mx := Classical.epsilon fun R => ∃ f, lrun m n f B one 1 = some R
theorem lrr_spec {m n : Nat} {B : Mx} (h : Ind m n B) : ∃ f, lrun m n f B one 1 = some (lrr m n B) := by
  have h1 : ∃ R, ∃ f, lrun m n f B one 1 = some R := by
    obtain ⟨f, R, h⟩ := lrun_total (m := m) (n := n) _ B one 1 (Nat.le_refl _) h (Nat.le_refl _)
    exact ⟨R, f, h⟩
  exact Classical.epsilon_spec h1
theorem lrr_eq {m n f : Nat} {B : Mx} {R : Mx × Mx} (hi : Ind m n B) (h : lrun m n f B one 1 = some R) : lrr m n B = R := by
  obtain ⟨g, hg⟩ := lrr_spec hi
  exact lrun_one hg h
theorem linD_dm (a : List Row) : linD a = dm (a.getD 0 []).length (rvm a) a.length := by unfold linD gmx dm; rw [dG_det]
theorem ind_iff (a : List Row) : Ind (a.getD 0 []).length a.length (rvm a) ↔ linD a ≠ 0 := by
  rw [linD_dm]
  exact ⟨vol_of_ind, ind_of_vol⟩
noncomputable def lrd (a : List Row) : Mx × Mx := lrr (a.getD 0 []).length a.length (rvm a)
noncomputable def lred (a : List Row) : List (List Int) × List (List Int) × Int :=
  if right a then (if linD a = 0 then ([], [], 8) else (matL a.length (a.getD 0 []).length (lrd a).1, matL a.length a.length (lrd a).2, 0)) else ([], [], 1)
theorem lReduceT (v : Value) (a : List Row) (k : Nat) (hf : Fits k a) (hk : k ≤ 1048576) (ln : a.length ≤ 1024) (lc : (a.getD 0 []).length ≤ 1048576) (hZ : lZ k a.length ≤ 268435456) :
    Meets Try.prog 11 [v] [(v, W a)] (fun r os fs => os = [] ∧ ∃ q w, r = .tuple #[q, w, .int .i64 (lred a).2.2] ∧ fs = [(q, wd (lred a).1), (w, wd (lred a).2.1)]) := by
  refine (lReduce_meets v a k (lrd a) hf hk ln lc hZ fun _ h => lrr_spec h).closed ?_
  rintro r os fs ⟨rfl, ⟨h, rfl, rfl⟩ | ⟨h, hi, rfl, rfl⟩ | ⟨h, hi, q, w, vs, ws, h1, h2, h3, h4, rfl, rfl⟩⟩
  · have e : lred a = ([], [], 1) := if_neg h
    exact ⟨_, _, ⟨rfl, _, _, by rw [e], rfl⟩, Seals.cons (by rw [e]; exact Knw.nil 1 _) (Seals.cons (by rw [e]; exact Knw.nil 1 _) (Seals.refl _ _))⟩
  · have e : lred a = ([], [], 8) := by unfold lred; rw [if_pos h, if_pos (Classical.byContradiction fun hne => hi ((ind_iff a).2 hne))]
    exact ⟨_, _, ⟨rfl, _, _, by rw [e], rfl⟩, Seals.cons (by rw [e]; exact Knw.nil 1 _) (Seals.cons (by rw [e]; exact Knw.nil 1 _) (Seals.refl _ _))⟩
  · have e : lred a = (matL a.length (a.getD 0 []).length (lrd a).1, matL a.length a.length (lrd a).2, 0) := by unfold lred; rw [if_pos h, if_neg ((ind_iff a).1 hi)]
    refine ⟨_, _, ⟨rfl, q, w, by rw [e], rfl⟩, ?_⟩
    rw [e]
    exact Seals.trans (Seals.made h1 h3) (Seals.trans (Seals.made h2 h4) (Seals.sub mS))
theorem same4_meets (v w : Value) (a b : List Row) :
    Meets Try.prog 13 [v, w] [(v, W a), (w, W b)] (fun r os fs => os = [] ∧ fs = [] ∧ r = .bool (decide (a = b))) := by
  refine meets_of_vc Try.func13 (by kernel_rfl) rfl (by kernel_rfl) (Nat.le_of_ble_eq_true rfl) ?_
  refine call_fn (rowsExact_meets v w a b) (Seals.refl _ _) mS ?_
  rintro _ _ _ ⟨rfl, rfl, rfl⟩
  exact fin ⟨rfl, rfl, rfl⟩ (Seals.nil _ _)
theorem same4W (v w : Value) (x y : List (List Int)) : Meets Try.prog 13 [v, w] [(v, wd x), (w, wd y)] (fun r os fs => os = [] ∧ fs = [] ∧ r = .bool (decide (x = y))) := by
  have h := same4_meets v w (x.map (·.map cn)) (y.map (·.map cn))
  rw [decide_eq_decide.2 mapm_cn_inj] at h
  exact h
theorem of4_meets (v : Value) (R C : Nat) (l : List Int) (hl : l.length = R * C) (hC : 0 < C) (lC : C ≤ 1000) (lR : R ≤ 1000) (hz : ∀ i, -9223372036854775808 ≤ l.getD i 0 ∧ l.getD i 0 < 9223372036854775808) :
    Meets Try.prog 31 [.int .i64 (C : Nat), v] [(v, IL l)] (fun r os fs => os = [] ∧ fs = [(r, wd (matL R C fun i k => l.getD (i * C + k) 0))]) := by
  have hRC : R * C ≤ 1000 * 1000 := Nat.mul_le_mul lR lC
  refine meets_of_vc Try.func31 (by kernel_rfl) rfl (by kernel_rfl) (Nat.le_of_ble_eq_true rfl) ?_
  refine empty_L V [] (by decide) fun w hw => ?_
  refine loop_rule (X := Nat × Value) (fun x => ([(0, .int .i64 (C : Nat)), (1, v), (5, x.2), (6, .int .i64 (x.1 * C : Nat))], [ownL 1 V [] x.2 ((List.range x.1).map fun i => (List.range C).map fun k => cn (l.getD (i * C + k) 0))], [(v, IL l)]))
    (fun x => x.1 ≤ R ∧ isSl x.2) (fun x => R - x.1) rfl ?_ ?_
  · exact again (0, w) ⟨Nat.zero_le _, hw⟩ trivial mF (Seals.sub mS)
  · rintro ⟨i, w⟩ ⟨h1, hw⟩
    simp only at h1 hw ⊢
    have hiC : i * C ≤ R * C := Nat.mul_le_mul_right _ h1
    refine len_fact mM fun _ => ?_
    refine cmp_split _ rfl (fun hi => ?_) (fun hi => ?_)
    · have hiR : i < R := by
        rcases Nat.lt_or_ge i R with h | h
        · exact h
        · have := Nat.mul_le_mul_right C h; omega
      have hi1 : (i + 1) * C ≤ R * C := Nat.mul_le_mul_right _ hiR
      have hi2 : (i + 1) * C = i * C + C := Nat.succ_mul _ _
      refine empty_L J z0 (by decide) fun u hu => ?_
      refine loop_rule (X := Nat × Value) (fun x => ([(0, .int .i64 (C : Nat)), (1, v), (5, w), (6, .int .i64 (i * C : Nat)), (7, x.2), (8, .int .i64 (i * C + x.1 : Nat))], [ownL 2 J z0 x.2 ((List.range x.1).map fun k => cn (l.getD (i * C + k) 0)), ownL 1 V [] w ((List.range i).map fun i => (List.range C).map fun k => cn (l.getD (i * C + k) 0))], [(v, IL l)]))
        (fun x => x.1 ≤ C ∧ isSl x.2) (fun x => C - x.1) rfl ?_ ?_
      · exact again (0, u) ⟨Nat.zero_le _, hu⟩ trivial mF (Seals.sub mS)
      · rintro ⟨k, u⟩ ⟨g1, hu⟩
        simp only at g1 hu ⊢
        refine ar rfl mI ?_
        refine cmp_split _ rfl (fun hk => ?_) (fun hk => ?_)
        · have hkC : k < C := by omega
          refine index_fact mM (i * C + k) rfl (by omega) fun a1 => ?_
          refine load_one mM ?_
          refine call_fn (rOf_meets (l.getD (i * C + k) 0) (hz _).1 (hz _).2) (Seals.refl _ _) mS ?_
          rintro y _ _ ⟨rfl, rfl⟩
          refine lit_L (size := 2) J z0 (cn (l.getD (i * C + k) 0)) (by decide) (Reads.fact (d := zd (l.getD (i * C + k) 0)) mM) rfl fun l1 => ?_
          refine append_L 0 rfl hu (Knw.fact mM) (by simp; omega) (by simp; omega) fun u2 hu2 => ?_
          refine ar rfl mI ?_
          refine again (k + 1, u2) ⟨by simp only; omega, hu2⟩ (by simp only; omega) mF ?_
          simp only [range_snoc_map]
          exact Seals.sub mS
        · have hkC : k = C := by omega
          subst hkC
          refine BuildSliceK.pre (Seals.L 0 rfl hu) ?_
          refine lit_L (size := 1) V [] ((List.range k).map fun j => cn (l.getD (i * k + j) 0)) (by decide) (Reads.fact (d := V ((List.range k).map fun j => cn (l.getD (i * k + j) 0))) mM) rfl fun l1 => ?_
          refine append_L 0 rfl hw (Knw.fact mM) (by simp; omega) (by simp; omega) fun w2 hw2 => ?_
          refine ar rfl mI ?_
          refine again (i + 1, w2) ⟨by simp only; omega, hw2⟩ (by simp only; omega) mF ?_
          simp only [range_snoc_map]
          exact Seals.sub mS
    · have hiR : i = R := by
        rcases Nat.lt_or_ge i R with h | h
        · have h2 := Nat.mul_le_mul_right C h
          have h3 : (i + 1) * C = i * C + C := Nat.succ_mul _ _
          simp only [Nat.succ_eq_add_one] at h2
          omega
        · omega
      subst hiR
      refine fin ⟨rfl, rfl⟩ (Seals.trans (Seals.L 0 rfl hw) (Seals.cons ((Knw.fact mM).cast ?_) (Seals.nil _ _)))
      unfold wd matL
      congr 1
      simp [Function.comp_def]
theorem of4W (v : Value) (R C : Nat) (l : List Int) (m : List (List Int)) (hl : l.length = R * C) (hm : (matL R C fun i k => l.getD (i * C + k) 0) = m) (hC : 0 < C) (lC : C ≤ 1000) (lR : R ≤ 1000) (hz : ∀ x, x ∈ l → -9223372036854775808 ≤ x ∧ x < 9223372036854775808) :
    Meets Try.prog 31 [.int .i64 (C : Nat), v] [(v, IL l)] (fun r os fs => os = [] ∧ fs = [(r, wd m)]) := by
  subst hm
  refine of4_meets v R C l hl hC lC lR fun i => ?_
  by_cases h : i < l.length
  · exact hz _ (getD_mem 0 h)
  · rw [List.getD_eq_getElem?_getD, List.getElem?_eq_none (by omega)]; decide
end Go.Proofs.Ytabdfhdddmbmlaa

namespace Go.Proofs.Ytabdfhdddmbmlaa
open Go.RowKit
def tG (M : List (List Int)) : Mx := gr (M.getD 0 []).length (mx M)
def tbv (M : List (List Int)) (v : List Int) : Nat → Int := fun i => ip (M.getD 0 []).length (mx M i) (fun c => v.getD c 0)
def tnum (M : List (List Int)) (v : List Int) (c : Nat) : Int := det M.length (cw (tG M) c (tbv M v))
def tpart (M : List (List Int)) (v : List Int) (i : Nat) : Int := ip i (fun i => tnum M v i / det M.length (tG M)) (tbv M v) - ip (M.getD 0 []).length (fun c => v.getD c 0) (fun c => v.getD c 0)
def tok (M : List (List Int)) (v : List Int) : Prop := (∀ i, i < M.length → tnum M v i % det M.length (tG M) = 0) ∧ tpart M v M.length = 0
instance (M : List (List Int)) (v : List Int) : Decidable (tok M v) := inferInstanceAs (Decidable (_ ∧ _))
def tins (M : List (List Int)) (v : List Int) : List Int × Int :=
  if ¬ (right M ∧ v.length = (M.getD 0 []).length) then ([], 1)
  else if det M.length (tG M) = 0 then ([], 8)
  else if tok M v then ((List.range M.length).map fun i => tnum M v i / det M.length (tG M), 0)
  else ([], 8)
theorem gmx_cn (M : List (List Int)) : gmx (M.map (·.map cn)) = tG M := by
  unfold gmx tG
  rw [rvm_cn, get_cn, List.length_map]
theorem lbv_cn (M : List (List Int)) (v : List Int) : lbv (M.map (·.map cn)) (v.map cn) = tbv M v := by
  funext i
  unfold lbv tbv
  rw [get_cn M 0, List.length_map, rv_cn]
  show ip _ (rvm (M.map (·.map cn)) i) _ = _
  rw [rvm_cn]
theorem linD_cn (M : List (List Int)) : linD (M.map (·.map cn)) = det M.length (tG M) := by
  unfold linD
  rw [gmx_cn, List.length_map]
theorem lnum_cn (M : List (List Int)) (v : List Int) (c : Nat) : lnum (M.map (·.map cn)) (v.map cn) c = tnum M v c := by
  unfold lnum tnum
  rw [gmx_cn, lbv_cn, List.length_map]
theorem lok_cn (M : List (List Int)) (v : List Int) : lok (M.map (·.map cn)) (v.map cn) ↔ tok M v := by
  unfold lok tok lpart tpart
  simp only [lnum_cn, linD_cn, lbv_cn, rv_cn, get_cn M 0, List.length_map]
theorem lins_cn (M : List (List Int)) (v : List Int) : lins (M.map (·.map cn)) (v.map cn) = tins M v := by
  unfold lins tins
  simp only [lnum_cn, linD_cn, get_cn M 0, List.length_map, right_cn, lok_cn]
theorem lvol_cn (M : List (List Int)) : lvol (M.map (·.map cn)) = if right M then det M.length (tG M) else 0 := by
  unfold lvol
  simp only [right_cn, gmx_cn, List.length_map]
theorem lred_cn {M R1 R2 : List (List Int)} {f : Nat} (hr : right M) (hd : det M.length (tG M) ≠ 0) (h : (lrun (M.getD 0 []).length M.length f (mx M) one 1).map (fun R => (matL M.length (M.getD 0 []).length R.1, matL M.length M.length R.2)) = some (R1, R2)) :
    lred (M.map (·.map cn)) = (R1, R2, 0) := by
  have hC : ((M.map (·.map cn)).getD 0 []).length = (M.getD 0 []).length := by rw [get_cn, List.length_map]
  unfold lred
  rw [if_pos ((right_cn M).2 hr), linD_cn, if_neg hd]
  obtain ⟨R, e1, e2⟩ := Option.map_eq_some_iff.1 h
  have hi : Ind ((M.map (·.map cn)).getD 0 []).length (M.map (·.map cn)).length (rvm (M.map (·.map cn))) := (ind_iff _).2 (by rw [linD_cn]; exact hd)
  have e3 : lrd (M.map (·.map cn)) = R := by
    unfold lrd
    rw [rvm_cn, hC, List.length_map]
    rw [rvm_cn, hC, List.length_map] at hi
    exact lrr_eq hi e1
  rw [e3, hC, List.length_map]
  simp only [Prod.mk.injEq] at e2
  rw [e2.1, e2.2]
theorem sameT (v w : Value) (x y : List (List Int)) (h : x = y) : Meets Try.prog 13 [v, w] [(v, wd x), (w, wd y)] (fun r os fs => os = [] ∧ fs = [] ∧ r = .bool true) := by
  have := same4W v w x y
  rw [decide_eq_true h] at this
  exact this
theorem exallT (v w : Value) (x y : List Int) (h : x = y) : Meets Try.prog 24 [v, w] [(v, vd x), (w, vd y)] (fun r os fs => os = [] ∧ fs = [] ∧ r = .bool true) := by
  have := exactAllW v w x y
  rw [decide_eq_true h] at this
  exact this
theorem exT (v w : Value) (x y : Int) (h : x = y) : Meets Try.prog 15 [v, w] [(v, zd x), (w, zd y)] (fun r os fs => os = [] ∧ fs = [] ∧ r = .bool true) := by
  have := exactW v w x y
  rw [decide_eq_true h] at this
  exact this
theorem sh_fits {M : List (List Int)} (h : ∀ r, r ∈ M → ∀ x, x ∈ r → x.natAbs < 18446744073709551616) : Fits 1 (M.map (·.map cn)) := szM.fits fun r hr x hx => by
  have := h r hr x hx
  unfold sz; simpa using this
theorem sh_red (v : Value) : Meets Try.prog 11 [v] [(v, wd [[1, 1], [0, 1]])] (fun r os fs => os = [] ∧ ∃ q w, r = .tuple #[q, w, .int .i64 0] ∧ fs = [(q, wd [[-1, 0], [0, 1]]), (w, wd [[-1, 1], [0, 1]])]) := by
  have h := lReduceT v (([[1, 1], [0, 1]] : List (List Int)).map (·.map cn)) 1 (sh_fits (by decide)) (by decide) (by decide) (by decide) (by decide)
  rw [lred_cn (f := 10) (R1 := [[-1, 0], [0, 1]]) (R2 := [[-1, 1], [0, 1]]) (by decide) (by decide +kernel) (by decide +kernel)] at h
  exact h
theorem sh_vol (v : Value) : Meets Try.prog 20 [v] [(v, wd [[1, 1], [0, 1]])] (fun r os fs => os = [] ∧ ∃ q, r = .tuple #[q, .int .i64 0] ∧ fs = [(q, zd 1)]) := by
  have h := lVolume_meets v (([[1, 1], [0, 1]] : List (List Int)).map (·.map cn)) 1 (sh_fits (by decide)) (by decide) (by decide) (by decide) (by decide)
  rw [if_pos ((right_cn _).2 (by decide)), lvol_cn, if_pos (by decide), show det ([[1, 1], [0, 1]] : List (List Int)).length (tG [[1, 1], [0, 1]]) = 1 by decide +kernel] at h
  exact h
theorem sh_ins1 (v w : Value) : Meets Try.prog 19 [v, w] [(v, wd [[2, 0], [0, 2]]), (w, vd [4, -2])] (fun r os fs => os = [] ∧ ∃ q, r = .tuple #[q, .int .i64 0] ∧ fs = [(q, vd [2, -1])]) := by
  have h := lInside_meets v w (([[2, 0], [0, 2]] : List (List Int)).map (·.map cn)) (([4, -2] : List Int).map cn) 1 (sh_fits (by decide)) (Fit_cn fun x hx => by unfold sz; revert x; decide) (by decide) (by decide) (by decide) (by decide)
  rw [lins_cn, show tins [[2, 0], [0, 2]] [4, -2] = ([2, -1], 0) by decide +kernel] at h
  exact h
theorem sh_ins2 (v w : Value) : Meets Try.prog 19 [v, w] [(v, wd [[2, 0], [0, 2]]), (w, vd [1, 0])] (fun r os fs => os = [] ∧ ∃ q, r = .tuple #[q, .int .i64 8] ∧ fs = [(q, vd [])]) := by
  have h := lInside_meets v w (([[2, 0], [0, 2]] : List (List Int)).map (·.map cn)) (([1, 0] : List Int).map cn) 1 (sh_fits (by decide)) (Fit_cn fun x hx => by unfold sz; revert x; decide) (by decide) (by decide) (by decide) (by decide)
  rw [lins_cn, show tins [[2, 0], [0, 2]] [1, 0] = ([], 8) by decide +kernel] at h
  exact h
theorem sh_rdd (v : Value) (M : List (List Int)) (b : Bool) (hr : right M) (hl : M.length ≤ 4) (hc : (M.getD 0 []).length ≤ 5) (hz : ∀ r, r ∈ M → ∀ x, x ∈ r → x.natAbs < 18446744073709551616) (hZ : lD 1 M.length + lK 1 M.length + 2 ≤ 268435456) (hb : b = true ↔ lrdc (M.getD 0 []).length M.length (mx M)) :
    Meets Try.prog 12 [v] [(v, wd M)] (fun r os fs => os = [] ∧ fs = [] ∧ r = .tuple #[.bool b, .int .i64 0]) := by
  have hC : ((M.map (·.map cn)).getD 0 []).length = (M.getD 0 []).length := by rw [get_cn, List.length_map]
  have h := lReduced_meets v (M.map (·.map cn)) 1 (sh_fits hz) (by decide) (by rw [List.length_map]; omega) (by rw [hC]; omega) (by rw [List.length_map]; exact hZ)
  refine h.mono ?_
  rintro r os fs ⟨h1, h2, p, h3, h4⟩
  rw [if_pos ((right_cn M).2 hr)] at h4
  rw [hC, List.length_map, rvm_cn, right_cn] at h3
  have : p = b := by
    cases p <;> cases b <;> simp_all
  exact ⟨h1, h2, by rw [h4, this]⟩
theorem sh_one {P : Nat → Prop} (h : P 1) : ∀ k, 1 ≤ k → k < 2 → P k := fun k h1 h2 => by
  obtain rfl : k = 1 := by omega
  exact h
instance (m : Nat) (b : Mx) (k j : Nat) : Decidable (lsm m b k j) := inferInstanceAs (Decidable (_ ≤ _))
theorem sh_yes : lrdc 2 2 (mx [[-1, 0], [0, 1]]) :=
  ⟨fun t ht => by
    have : t = 0 ∨ t = 1 ∨ t = 2 := by omega
    rcases this with rfl | rfl | rfl <;> decide +kernel, sh_one ⟨by decide +kernel, by decide +kernel⟩⟩
theorem sh_no : ¬ lrdc 2 2 (mx [[1, 1], [0, 1]]) := fun h => absurd (h.2 1 (by decide) (by decide)).2 (by decide +kernel)
theorem shown4_meets : Meets Try.prog 9 [] [] (fun r os fs => os = [] ∧ fs = [] ∧ r = .bool true) := by
  have h1 := fun v => sh_rdd v [[-1, 0], [0, 1]] true (by decide) (by decide) (by decide) (by decide) (by decide) ⟨fun _ => sh_yes, fun _ => rfl⟩
  have h2 := fun v => sh_rdd v [[1, 1], [0, 1]] false (by decide) (by decide) (by decide) (by decide) (by decide) ⟨fun h => absurd h (by decide), fun h => absurd h sh_no⟩
  refine meets_of_vc Try.func9 (by kernel_rfl) rfl (by kernel_rfl) (Nat.le_of_ble_eq_true rfl) ?_
  refine lit_IL [1, 1, 0, 1] rfl rfl (by decide) fun s1 => ?_
  refine call_fn (of4W s1 2 2 [1, 1, 0, 1] [[1, 1], [0, 1]] rfl rfl (by decide) (by decide) (by decide) (by decide)) (Seals.refl _ _) mS ?_
  rintro m1 _ _ ⟨rfl, rfl⟩
  refine call_fn (sh_red m1) (Seals.refl _ _) mS ?_
  rintro _ _ _ ⟨rfl, r, u, rfl, rfl⟩
  refine lit_IL [1, 1, 0, 1] rfl rfl (by decide) fun s2 => ?_
  refine call_fn (of4W s2 2 2 [1, 1, 0, 1] [[1, 1], [0, 1]] rfl rfl (by decide) (by decide) (by decide) (by decide)) (Seals.refl _ _) mS ?_
  rintro m2 _ _ ⟨rfl, rfl⟩
  refine call_fn (sh_vol m2) (Seals.refl _ _) mS ?_
  rintro _ _ _ ⟨rfl, vq, rfl, rfl⟩
  refine alloc_rule (d := I false []) fun vb hvb => ?_
  refine store_box (d := zd 1) 0 rfl hvb rfl (by kernel_rfl) ?_ ?_; exact Reads.fact mM
  refine lit_IL [2, 0, 0, 2] rfl rfl (by decide) fun s3 => ?_
  refine call_fn (of4W s3 2 2 [2, 0, 0, 2] [[2, 0], [0, 2]] rfl rfl (by decide) (by decide) (by decide) (by decide)) (Seals.refl _ _) mS ?_
  rintro m3 _ _ ⟨rfl, rfl⟩
  refine lit_IL [4, -2] rfl rfl (by decide) fun s4 => ?_
  refine call_fn (of4W s4 1 2 [4, -2] [[4, -2]] rfl rfl (by decide) (by decide) (by decide) (by decide)) (Seals.refl _ _) mS ?_
  rintro m4 _ _ ⟨rfl, rfl⟩
  refine index_fact (n := 1) mM 0 rfl (by decide) fun i1 => ?_
  refine load_fact (d := vd [4, -2]) mM (load_V _) fun w1 => ?_
  refine call_fn (sh_ins1 m3 w1) (Seals.refl _ _) mS ?_
  rintro _ _ _ ⟨rfl, c, rfl, rfl⟩
  refine lit_IL [2, 0, 0, 2] rfl rfl (by decide) fun s5 => ?_
  refine call_fn (of4W s5 2 2 [2, 0, 0, 2] [[2, 0], [0, 2]] rfl rfl (by decide) (by decide) (by decide) (by decide)) (Seals.refl _ _) mS ?_
  rintro m5 _ _ ⟨rfl, rfl⟩
  refine lit_IL [1, 0] rfl rfl (by decide) fun s6 => ?_
  refine call_fn (of4W s6 1 2 [1, 0] [[1, 0]] rfl rfl (by decide) (by decide) (by decide) (by decide)) (Seals.refl _ _) mS ?_
  rintro m6 _ _ ⟨rfl, rfl⟩
  refine index_fact (n := 1) mM 0 rfl (by decide) fun i2 => ?_
  refine load_fact (d := vd [1, 0]) mM (load_V _) fun w2 => ?_
  refine call_fn (sh_ins2 m5 w2) (Seals.refl _ _) mS ?_
  rintro _ _ _ ⟨rfl, c2, rfl, rfl⟩
  refine call_fn (h1 r) (Seals.refl _ _) mS ?_
  rintro _ _ _ ⟨rfl, rfl, rfl⟩
  refine lit_IL [1, 1, 0, 1] rfl rfl (by decide) fun s7 => ?_
  refine call_fn (of4W s7 2 2 [1, 1, 0, 1] [[1, 1], [0, 1]] rfl rfl (by decide) (by decide) (by decide) (by decide)) (Seals.refl _ _) mS ?_
  rintro m7 _ _ ⟨rfl, rfl⟩
  refine call_fn (h2 m7) (Seals.refl _ _) mS ?_
  rintro _ _ _ ⟨rfl, rfl, rfl⟩
  refine draw_rule [0, 1, 2, 3, 4, 5, 6, 7, 8, 9, 10, 11, 12, 13, 14, 15, 16, 17, 18, 19, 20, 21, 22, 23] [0, 1, 2, 3, 4, 5, 6, 7, 8, 9, 10, 11, 12, 13, 14, 15, 16, 17, 18, 19, 20, 21, 22, 23] (by kernel_rfl) (by kernel_rfl) ?_
  refine lit_IL [-1, 0, 0, 1] rfl rfl (by decide) fun s8 => ?_
  refine call_fn (of4W s8 2 2 [-1, 0, 0, 1] [[-1, 0], [0, 1]] rfl rfl (by decide) (by decide) (by decide) (by decide)) (Seals.refl _ _) mS ?_
  rintro m8 _ _ ⟨rfl, rfl⟩
  refine call_fn (sameT r m8 _ _ rfl) (Seals.refl _ _) mS ?_
  rintro _ _ _ ⟨rfl, rfl, rfl⟩
  refine lit_IL [-1, 1, 0, 1] rfl rfl (by decide) fun s9 => ?_
  refine call_fn (of4W s9 2 2 [-1, 1, 0, 1] [[-1, 1], [0, 1]] rfl rfl (by decide) (by decide) (by decide) (by decide)) (Seals.refl _ _) mS ?_
  rintro m9 _ _ ⟨rfl, rfl⟩
  refine call_fn (sameT u m9 _ _ rfl) (Seals.refl _ _) mS ?_
  rintro _ _ _ ⟨rfl, rfl, rfl⟩
  refine load_box (d := zd 1) 0 rfl hvb rfl (load_I _ _) fun y1 => ?_
  refine call_fn (rOf_meets 1 (by decide) (by decide)) (Seals.refl _ _) mS ?_
  rintro y2 _ _ ⟨rfl, rfl⟩
  refine call_fn (exT y1 y2 _ _ rfl) (Seals.refl _ _) mS ?_
  rintro _ _ _ ⟨rfl, rfl, rfl⟩
  refine lit_IL [2, -1] rfl rfl (by decide) fun s10 => ?_
  refine call_fn (of4W s10 1 2 [2, -1] [[2, -1]] rfl rfl (by decide) (by decide) (by decide) (by decide)) (Seals.refl _ _) mS ?_
  rintro m10 _ _ ⟨rfl, rfl⟩
  refine index_fact (n := 1) mM 0 rfl (by decide) fun i3 => ?_
  refine load_fact (d := vd [2, -1]) mM (load_V _) fun w3 => ?_
  refine call_fn (exallT c w3 _ _ rfl) (Seals.refl _ _) mS ?_
  rintro _ _ _ ⟨rfl, rfl, rfl⟩
  refine cmp_true rfl (by decide) ?_
  refine cmp_true rfl (by decide) ?_
  refine cmp_true rfl (by decide) ?_
  refine cmp_true rfl (by decide) ?_
  refine cmp_true rfl (by decide) ?_
  refine cmp_true rfl (by decide) ?_
  exact fin ⟨rfl, rfl, rfl⟩ (Seals.trans (Seals.drop 0 _ _) (Seals.nil _ _))
end Go.Proofs.Ytabdfhdddmbmlaa

namespace Go.Proofs.Ytabdfhdddmbmlaa
open Go.RowKit
theorem little4_meets (v : Value) (a : List Row) :
    Meets Try.prog 10 [v] [(v, W a)] (fun r os fs => os = [] ∧ fs = [] ∧ r = .bool (decide (small 4 5 1 a))) := by
  refine meets_of_vc Try.func10 (by kernel_rfl) rfl (by kernel_rfl) (Nat.le_of_ble_eq_true rfl) ?_
  refine call_fn (rowsFits_meets v a 4 5 1) (Seals.refl _ _) mS ?_
  rintro _ _ _ ⟨rfl, rfl, rfl⟩
  exact fin ⟨rfl, rfl, rfl⟩ (Seals.nil _ _)
/-- The reduced rows as they are told, and the matrix. -/
noncomputable def M1 (a : List Row) : List (List Int) := matL a.length (a.getD 0 []).length (lrd a).1
noncomputable def M2 (a : List Row) : List (List Int) := matL a.length a.length (lrd a).2
theorem M1_at (a : List Row) {i c : Nat} (hi : i < a.length) (hc : c < (a.getD 0 []).length) : mx (M1 a) i c = (lrd a).1 i c := matL_at _ hi hc
theorem M2_at (a : List Row) {i c : Nat} (hi : i < a.length) (hc : c < a.length) : mx (M2 a) i c = (lrd a).2 i c := matL_at _ hi hc
theorem matL_len0 {R C : Nat} (x : Mx) (hR : 0 < R) : ((matL R C x).getD 0 []).length = C := by rw [matL_row x hR]; simp
theorem matL_right {R C : Nat} (x : Mx) (hR : 0 < R) (hC : 0 < C) : right (matL R C x) := by
  refine ⟨by rw [matL_len]; exact hR, fun r hr => ?_⟩
  rw [matL_len0 x hR]
  unfold matL at hr
  obtain ⟨i, _, rfl⟩ := List.mem_map.1 hr
  simp [hC]
theorem matL_szM {R C e : Nat} {x : Mx} (h : ∀ i c, i < R → c < C → sz (x i c) e) : szM e (matL R C x) := fun r hr y hy => by
  unfold matL at hr
  obtain ⟨i, hi, rfl⟩ := List.mem_map.1 hr
  obtain ⟨c, hc, rfl⟩ := List.mem_map.1 hy
  exact h i c (List.mem_range.1 hi) (List.mem_range.1 hc)
/-- What is known of reduced rows. -/
structure Rdd (a : List Row) (k : Nat) : Prop where
  lb : LB (rvm a) (a.getD 0 []).length a.length (lD k a.length) (lK k a.length) (lrd a).1 (lrd a).2
  rd : Rdc (a.getD 0 []).length (lrd a).1 a.length
  dn : dm (a.getD 0 []).length (lrd a).1 a.length = dm (a.getD 0 []).length (rvm a) a.length
theorem rdd {a : List Row} {k : Nat} (hf : Fits k a) (hr : right a) (ln : a.length ≤ 1024) (lc : (a.getD 0 []).length ≤ 1048576) (hI : Ind (a.getD 0 []).length a.length (rvm a)) : Rdd a k := by
  obtain ⟨f, hf'⟩ := lrr_spec hI
  have hs := (Sv.start hf lc ln hI).lb
  have hn := hr.1
  obtain ⟨h1, h2, h3⟩ := lrun_red hf' (Nat.le_refl _) (by omega) hI fun i h1 h2 => by omega
  exact ⟨lrun_LB (by omega) (by unfold lK; omega) hf' (Nat.le_refl _) hs, h1, h3⟩
section
variable {a : List Row} {k : Nat}
theorem Rdd.same (_ : Rdd a k) : ∀ i c, i < a.length → c < (a.getD 0 []).length → mx (M1 a) i c = (lrd a).1 i c := fun _ _ hi hc => M1_at a hi hc
theorem Rdd.ind (h : Rdd a k) : Ind (a.getD 0 []).length a.length (mx (M1 a)) := h.lb.ind.same h.same
theorem Rdd.rdc (h : Rdd a k) : Rdc (a.getD 0 []).length (mx (M1 a)) a.length := h.rd.same h.same
theorem Rdd.len (_ : Rdd a k) : (M1 a).length = a.length := matL_len _ _ _
theorem Rdd.right (_ : Rdd a k) (hr : right a) : right (M1 a) := matL_right _ hr.1 (hr.get hr.1).1
theorem Rdd.fits (h : Rdd a k) : Fits (lK k a.length) ((M1 a).map (·.map cn)) := (matL_szM fun i c hi hc => h.lb.bz i c hi hc).fits
end
theorem lred_ok {a : List Row} (hr : right a) (hI : Ind (a.getD 0 []).length a.length (rvm a)) : lred a = (M1 a, M2 a, 0) := by
  unfold lred
  rw [if_pos hr, if_neg ((ind_iff a).1 hI)]; rfl
theorem lred_bad {a : List Row} (h : ¬ (right a ∧ Ind (a.getD 0 []).length a.length (rvm a))) : (lred a).1 = [] ∧ (lred a).2.1 = [] ∧ (lred a).2.2 = if right a then 8 else 1 := by
  unfold lred
  by_cases hr : right a
  · have h0 : linD a = 0 := Classical.byContradiction fun hne => h ⟨hr, (ind_iff a).2 hne⟩
    rw [if_pos hr, if_pos h0, if_pos hr]; exact ⟨rfl, rfl, rfl⟩
  · rw [if_neg hr, if_neg hr]; exact ⟨rfl, rfl, rfl⟩
theorem lZ_small {n : Nat} (h : n ≤ 4) : lZ 1 n ≤ 268435456 ∧ lZ (lK 1 n) n ≤ 268435456 ∧ lD (lK 1 n) n + lK (lK 1 n) n + 2 ≤ 268435456 ∧ lD 1 n + lK 1 n + 2 ≤ 268435456 ∧ lK 1 n ≤ 73 := by
  have : n = 0 ∨ n = 1 ∨ n = 2 ∨ n = 3 ∨ n = 4 := by omega
  rcases this with rfl | rfl | rfl | rfl | rfl <;> decide
end Go.Proofs.Ytabdfhdddmbmlaa
