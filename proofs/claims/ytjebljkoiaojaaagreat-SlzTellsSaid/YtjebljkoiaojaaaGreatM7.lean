/- Towards the statement, part 7 of 8: contracts of functions, and what they rest on. Conditions: each theorem names its own. -/
import Derived.Test.YtjebljkoiaojaaaGreatM6
set_option linter.unusedVariables false
set_option linter.unusedSimpArgs false
namespace Go.Proofs.YtjebljkoiaojaaaGreat
open Go.RowKit
theorem cn0 : cn 0 = z0 := by simp [cn, lims_zero, z0]
def rawJ (a : List Row) : Jx := fun i c => (a.getD i []).getD c z0
def uniJ : Jx := fun i c => if c = i then cn 1 else z0
def ltb (m : Nat) (b : Mx) (i j : Nat) : Mx := fun a t => if t < a ∧ (a < i ∨ t < j) then lm m b a t else 0
theorem len_eq {P : Program} {t e ty : TypeId} {size n c : Nat} {a : Option Addr} {v : Value} {os : List Own} {fs : List Fact} {K : Cont} [ht : TSl P t e size]
    (h : v = .slice a n c) (k : K (.int .i64 n) os fs) : LenK P [t] ty v os fs K := by
  subst h
  exact len_val k
set_option maxHeartbeats 4000000 in
theorem lmade_meets (v : Value) (a : List Row) (k : Nat) (hf : Fits k a) (hr : right a) (hk : k ≤ 1048576) (ln : a.length ≤ 1024) (lc : (a.getD 0 []).length ≤ 1048576) :
    Meets Tryz.prog 71 [v] [(v, W a)] (fun r os fs => (¬ Ind (a.getD 0 []).length a.length (rvm a) ∧ r = .pointer none ∧ os = [] ∧ fs = []) ∨
      (Ind (a.getD 0 []).length a.length (rvm a) ∧ ∃ s : BS, s.ok a.length ∧ r = ptr0 s.r 0 ∧ os = bas s (a.getD 0 []).length a.length (rawJ a) uniJ (dm (a.getD 0 []).length (rvm a)) (ltb (a.getD 0 []).length (rvm a) a.length 0) [] ∧ fs = [])) := by
  have hlen : ∀ i, i < a.length → (a.getD i []).length = (a.getD 0 []).length := fun i hi => (hr.get hi).2
  have hrx : ∀ i c, Lim (rawJ a i c).2 ∧ (rawJ a i c).2.length ≤ k := fun i c => (hf.get i).get c
  have hn1 := hr.1
  have hgz : ∀ i j, sz (gr (a.getD 0 []).length (rvm a) i j) (k + k + 1) := gmx_sz hf lc
  have e0 : ∀ i j, ip (a.getD 0 []).length (fun c => jv (rawJ a i c)) (fun c => jv (rawJ a j c)) = mi (gr (a.getD 0 []).length (rvm a)) 0 i j := fun i j => by rw [mi_none]; rfl
  have hsymm := gr_symm (a.getD 0 []).length (rvm a)
  have hww := wv_wv (a.getD 0 []).length (rvm a)
  have hnn : ∀ t, 0 ≤ dm (a.getD 0 []).length (rvm a) t * dm (a.getD 0 []).length (rvm a) (t + 1) := fun t => by
    have := hww t
    unfold dm
    rw [← this]
    exact ip_nn _ _
  have hlm : ∀ t i, lm (a.getD 0 []).length (rvm a) i t = mi (gr (a.getD 0 []).length (rvm a)) t i t := fun _ _ => rfl
  have hdm : ∀ t, dm (a.getD 0 []).length (rvm a) t = dG (gr (a.getD 0 []).length (rvm a)) t := fun _ => rfl
  generalize hC : (a.getD 0 []).length = C at *
  generalize hG : gr C (rvm a) = G at *
  have hmz : ∀ t i j, t ≤ a.length → sz (mi G t i j) 2252349569 := fun t i j ht => by
    refine (det_sz (t + 1) (by omega) (k := k + k + 1) (fun x y _ _ => hgz _ _)).mono ?_
    have : (k + k + 1 + 1) * (t + 1) ≤ 2097154 * 1025 := Nat.mul_le_mul (by omega) (by omega)
    omega
  have hdz : ∀ t, t ≤ a.length → sz (dG G t) 2252349569 := fun t ht => by
    cases t with
    | zero => exact (sz_num 1 (by decide)).mono (by decide)
    | succ t => rw [dG_succ]; exact hmz t t t (by omega)
  have hstep : ∀ t i j, dG G t ≠ 0 → (dG G (t + 1) * mi G t i j - mi G t i t * mi G t j t) / dG G t = mi G (t + 1) i j := fun t i j h => by
    rw [mi_symm hsymm t j t, ← mi_step h, Int.mul_ediv_cancel_left _ h]
  refine meets_of_vc Tryz.func71 (by kernel_rfl) rfl (by kernel_rfl) (Nat.le_of_ble_eq_true rfl) ?_
  refine call_fn (zof_meets 1 (by decide) (by decide)) (Seals.refl _ _) qS ?_
  rintro one _ _ ⟨rfl, rfl⟩
  refine buildSlice_own (size := 2) (n := 1) [one] [zd 1] rfl rfl (by decide) (by decide) ⟨Reads.fact qM, rfl, trivial⟩ fun vd hvd => ?_
  refine build_bas hvd.one ?_
  refine box_rule (Reads.bag hvd.one) fun p hp => ?_
  obtain ⟨r0, rfl⟩ := hp
  refine len_fact qM fun _ => ?_
  refine loop_rule (X := Nat × BS) (fun x => ([(0, v), (3, ptr0 x.2.r 0), (15, .int .i64 (a.length : Nat)), (16, .int .i64 (x.1 : Nat))], bak x.2 C a.length x.1 (x.1 + 1) (rawJ a) uniJ (dG G) (ltb C (rvm a) x.1 0) [], [(v, W a)]))
    (fun x => x.1 ≤ a.length ∧ x.2.ok x.1 ∧ ∀ t, t ≤ x.1 → 0 < dG G t) (fun x => a.length - x.1) rfl ?_ ?_
  · refine again (0, ⟨r0, .slice none 0 0, .slice none 0 0, vd, .slice none 0 0, fun _ => undef, fun _ => undef, fun _ => undef⟩) ⟨Nat.zero_le _, ⟨isSl_nil, isSl_nil, hvd, isSl_nil, fun i hi => absurd hi (Nat.not_lt_zero _), fun i hi => absurd hi (Nat.not_lt_zero _), fun i hi => absurd hi (Nat.not_lt_zero _)⟩, fun t ht => ?_⟩ trivial qF ?_
    · have : t = 0 := by simp only at ht; omega
      subst this
      rw [dG_zero]; decide
    · refine Seals.trans (Seals.own_nil _ _ 1 (fun i => .one undef)) (Seals.trans (Seals.none (famZ (fun _ => undef) 0 a.length (ltb C (rvm a) 0 0)) rfl) (Seals.trans (Seals.own_nil _ _ 1 (fun i => .one undef)) (Seals.trans (Seals.none (famJ (fun _ => undef) 0 a.length uniJ) rfl) (Seals.trans (Seals.own_nil _ _ 1 (fun i => .one undef)) (Seals.trans (Seals.none (famJ (fun _ => undef) 0 C (rawJ a)) rfl)
        (Seals.trans (Seals.own_cong (os := [_, _, _, _, _, _, _, own1 vd 2 1 _]) 7 (fun i => zd (dG G i)) rfl rfl (fun y hy => ?_)) (Seals.trans (Seals.pick [6, 0, 1, 2, 3, 7, 4, 5] 8 rfl (by decide)) (Seals.sub qS))))))))
      have : y = 0 := by omega
      subst this
      rw [dG_zero]; rfl
  · rintro ⟨i, s⟩ ⟨hi, hs, hpos⟩
    simp only at hi hs hpos ⊢
    refine cmp_split _ rfl (fun hc => ?_) (fun hc => ?_)
    · have hin : i < a.length := by omega
      have hfl : (a.getD i []).length = C := hlen i hin
      refine index_fact (v := v) qM i rfl hin fun a1 => ?_
      refine load_fact (d := V (a.getD i [])) qM (load_V _) fun x1 => ?_
      refine len_fact qM fun _ => ?_
      refine make_rule (t := 22) (d := I false []) C (by rw [hfl]) (by rw [hfl]) (by omega) (by omega) fun row hrow => ?_
      refine index_fact (v := v) qM i rfl hin fun a2 => ?_
      refine load_fact (d := V (a.getD i [])) qM (load_V _) fun x2 => ?_
      refine copy_rule (size := 2) (n := C) (m := C) (el' := fun c => J ((a.getD i []).getD c z0)) 0 rfl hrow (Knw.cast (Knw.fact (d := V (a.getD i [])) qM) (by unfold V LD; rw [hfl])) (Nat.le_refl _) ?_
      refine len_fact (v := v) (n := a.length) qM fun _ => ?_
      refine make_rule (t := 22) (d := I false []) a.length rfl rfl (by omega) (by omega) fun on hone => ?_
      refine call_fn (zof_meets 1 (by decide) (by decide)) (Seals.refl _ _) qS ?_
      rintro o1 _ _ ⟨rfl, rfl⟩
      refine index_elem 0 rfl hone i rfl hin ?_
      refine store_elem (d := zd 1) 0 rfl i hin rfl (by kernel_rfl) (Reads.fact qM) ?_
      obtain ⟨sb', e1, e2⟩ : ∃ f : Nat → Value, f i = row ∧ ∀ y, y < i → f y = s.sb y := ⟨fun y => if y = i then row else s.sb y, if_pos rfl, fun y hy => if_neg (by omega)⟩
      obtain ⟨su', e3, e4⟩ : ∃ f : Nat → Value, f i = on ∧ ∀ y, y < i → f y = s.su y := ⟨fun y => if y = i then on else s.su y, if_pos rfl, fun y hy => if_neg (by omega)⟩
      subst e1 e3
      have eb : ∀ y, y < i + 1 → Dat.one (sb' y) = if y < i then Dat.one (s.sb y) else [Dat.one (sb' i)].getD 0 (.one undef) := fun y hy => by
        by_cases e : y < i
        · rw [if_pos e, e2 y e]
        · rw [if_neg e, show y = i by omega]; rfl
      have eu : ∀ y, y < i + 1 → Dat.one (su' y) = if y < i then Dat.one (s.su y) else [Dat.one (su' i)].getD 0 (.one undef) := fun y hy => by
        by_cases e : y < i
        · rw [if_pos e, e4 y e]
        · rw [if_neg e, show y = i by omega]; rfl
      refine draw_sl (v := v) (n := a.length) qM fun hsv => ?_
      obtain ⟨sv1, sv2, hsv⟩ := hsv
      refine draw_join (X := Value × Value × Value × Value) (fun z => ([(0, v), (3, ptr0 s.r 0), (4, .int .i64 (i : Nat)), (5, sb' i), (6, su' i), (15, .int .i64 (a.length : Nat)), (16, .int .i64 (i : Nat))],
          own1 z.1 2 a.length (fun _ => I false []) :: own1 (su' i) 2 a.length (upd (fun _ => I false []) i (zd 1)) :: own1 (sb' i) 2 C (fun c => if c < C then J ((a.getD i []).getD c z0) else I false []) ::
          own4 (ptr0 s.r 0) z.2.1 z.2.2.1 s.vd z.2.2.2 :: famJ s.sb i C (rawJ a) :: own1 z.2.1 1 (i + 1) (fun y => .one (sb' y)) :: famJ s.su i a.length uniJ :: own1 z.2.2.1 1 (i + 1) (fun y => .one (su' y)) ::
          own1 s.vd 2 (i + 1) (fun i => zd (dG G i)) :: famZ s.sl i a.length (ltb C (rvm a) i 0) :: own1 z.2.2.2 1 (i + 1) (fun y => .one (if y < i then s.sl y else z.1)) :: [], [(v, W a)])) (fun z => isSl z.1 ∧ isSl z.2.1 ∧ isSl z.2.2.1 ∧ isSl z.2.2.2) ?_ ?_
      ·
        refine draw_ord [0, 3, 4, 5, 6, 7, 8, 9, 10, 11, 12, 13, 14, 15, 16, 17, 18, 19, 20, 21, 22, 23, 24, 25, 26, 27, 28, 29, 30, 31, 1, 32, 33, 34, 35, 2, 36, 37, 38] (by kernel_rfl) ?_
        refine ord_split 9 17 (by kernel_rfl) (by kernel_rfl) (by kernel_rfl) ?_ ?_
        · refine ord_split 9 25 (by kernel_rfl) (by kernel_rfl) (by kernel_rfl) ?_ ?_
          · refine ord_split 10 17 (by kernel_rfl) (by kernel_rfl) (by kernel_rfl) ?_ ?_
            · refine ord_split 10 25 (by kernel_rfl) (by kernel_rfl) (by kernel_rfl) ?_ ?_
              · refine ord_split 17 25 (by kernel_rfl) (by kernel_rfl) (by kernel_rfl) ?_ ?_
                · refine ord_split 18 25 (by kernel_rfl) (by kernel_rfl) (by kernel_rfl) ?_ ?_
                  · refine ordE_go [own4 (ptr0 s.r 0) s.vb s.vu s.vd s.vl] [7, 15, 22, 24] [9, 10, 17, 18, 25, 26, 27] [] [0, 1, 2, 3, 4, 5, 6, 7, 8, 11, 12, 13, 14, 15, 16, 19, 20, 21, 22, 23, 24, 9, 10, 17, 18, 25, 26, 27, 28, 29, 30, 31, 32, 33, 34, 35, 36, 37, 38] (by kernel_rfl) (by kernel_rfl) (by kernel_rfl) ?_
                    refine field_ptr ?_
                    refine field_ptr ?_
                    refine lookD (v := s.vb) ⟨qM, trivial⟩ rfl (lookE4 0 rfl (by decide)) ?_
                    refine field_ptr ?_
                    refine field_ptr ?_
                    refine lookD (v := s.vu) ⟨qM, trivial⟩ rfl (lookE4 1 rfl (by decide)) ?_
                    refine field_ptr ?_
                    refine lookD (v := s.vl) ⟨qM, trivial⟩ rfl (lookE4 3 rfl (by decide)) ?_
                    refine lookD (v := .int .i64 a.length) ⟨qM, trivial⟩ rfl (fun _ _ _ => len_eq hsv rfl) ?_
                    refine buildSlice_fact (size := 1) (n := 1) [sb' i] [.one (sb' i)] rfl rfl (by decide) (by decide) ⟨Reads.one hrow.one, rfl, trivial⟩ fun q1 => ?_
                    refine eGo ⟨qM, trivial⟩ ?_
                    first | refine append_one (size := 1) (n := i) (el' := fun y => [Dat.one (sb' i)].getD y (.one undef)) (e' := fun y => .one (sb' y)) 4 rfl hs.vb (Knw.fact qM) eb (by omega) (by omega) fun vb' hvb' => ?_ | refine append_one (size := 1) (n := i) (el' := fun y => [Dat.one (sb' i)].getD y (.one undef)) (e' := fun y => .one (sb' y)) 5 rfl hs.vb (Knw.fact qM) eb (by omega) (by omega) fun vb' hvb' => ?_
                    refine eGo ⟨qM, trivial⟩ ?_
                    refine buildSlice_fact (size := 1) (n := 1) [su' i] [.one (su' i)] rfl rfl (by decide) (by decide) ⟨Reads.one hone.one, rfl, trivial⟩ fun q2 => ?_
                    refine eGo ⟨qM, trivial⟩ ?_
                    first | refine append_one (size := 1) (n := i) (el' := fun y => [Dat.one (su' i)].getD y (.one undef)) (e' := fun y => .one (su' y)) 6 rfl hs.vu (Knw.fact qM) eu (by omega) (by omega) fun vu' hvu' => ?_ | refine append_one (size := 1) (n := i) (el' := fun y => [Dat.one (su' i)].getD y (.one undef)) (e' := fun y => .one (su' y)) 7 rfl hs.vu (Knw.fact qM) eu (by omega) (by omega) fun vu' hvu' => ?_
                    refine eGo ⟨qM, trivial⟩ ?_
                    refine make_rule (t := 22) (d := I false []) a.length rfl rfl (by omega) (by omega) fun lr hlr => ?_
                    refine eGo ⟨qM, trivial⟩ ?_
                    refine buildSlice_fact (size := 1) (n := 1) [lr] [.one lr] rfl rfl (by decide) (by decide) ⟨Reads.one hlr.one, rfl, trivial⟩ fun q3 => ?_
                    refine eGo ⟨qM, trivial⟩ ?_
                    refine append_one (size := 1) (n := i) (el' := fun y => [Dat.one lr].getD y (.one undef)) (e' := fun y => .one (if y < i then s.sl y else lr)) 10 rfl hs.vl (Knw.fact qM) (fun y _ => by by_cases e : y < i <;> simp [e]) (by omega) (by omega) fun vl' hvl' => ?_
                    refine eGo ⟨qM, trivial⟩ ?_
                    refine field_ptr ?_
                    refine field_ptr ?_
                    refine store4 3 0 rfl rfl (by decide) hvb'.one (by kernel_rfl) ?_
                    refine field_ptr ?_
                    refine field_ptr ?_
                    refine store4 3 1 rfl rfl (by decide) hvu'.one (by kernel_rfl) ?_
                    refine field_ptr ?_
                    refine store4 3 3 rfl rfl (by decide) hvl'.one (by kernel_rfl) ?_
                    exact again (lr, vb', vu', vl') ⟨hlr, hvb', hvu', hvl'⟩ trivial qF (Seals.sub qD)
                  · refine ord_split 18 26 (by kernel_rfl) (by kernel_rfl) (by kernel_rfl) ?_ ?_
                    · refine ordE_go [own4 (ptr0 s.r 0) s.vb s.vu s.vd s.vl] [7, 15, 22, 24] [9, 10, 17, 18, 25, 26, 27] [] [0, 1, 2, 3, 4, 5, 6, 7, 8, 11, 12, 13, 14, 15, 16, 19, 20, 21, 22, 23, 24, 9, 10, 17, 25, 18, 26, 27, 28, 29, 30, 31, 32, 33, 34, 35, 36, 37, 38] (by kernel_rfl) (by kernel_rfl) (by kernel_rfl) ?_
                      refine field_ptr ?_
                      refine field_ptr ?_
                      refine lookD (v := s.vb) ⟨qM, trivial⟩ rfl (lookE4 0 rfl (by decide)) ?_
                      refine field_ptr ?_
                      refine field_ptr ?_
                      refine lookD (v := s.vu) ⟨qM, trivial⟩ rfl (lookE4 1 rfl (by decide)) ?_
                      refine field_ptr ?_
                      refine lookD (v := s.vl) ⟨qM, trivial⟩ rfl (lookE4 3 rfl (by decide)) ?_
                      refine lookD (v := .int .i64 a.length) ⟨qM, trivial⟩ rfl (fun _ _ _ => len_eq hsv rfl) ?_
                      refine buildSlice_fact (size := 1) (n := 1) [sb' i] [.one (sb' i)] rfl rfl (by decide) (by decide) ⟨Reads.one hrow.one, rfl, trivial⟩ fun q1 => ?_
                      refine eGo ⟨qM, trivial⟩ ?_
                      first | refine append_one (size := 1) (n := i) (el' := fun y => [Dat.one (sb' i)].getD y (.one undef)) (e' := fun y => .one (sb' y)) 4 rfl hs.vb (Knw.fact qM) eb (by omega) (by omega) fun vb' hvb' => ?_ | refine append_one (size := 1) (n := i) (el' := fun y => [Dat.one (sb' i)].getD y (.one undef)) (e' := fun y => .one (sb' y)) 5 rfl hs.vb (Knw.fact qM) eb (by omega) (by omega) fun vb' hvb' => ?_
                      refine eGo ⟨qM, trivial⟩ ?_
                      refine buildSlice_fact (size := 1) (n := 1) [su' i] [.one (su' i)] rfl rfl (by decide) (by decide) ⟨Reads.one hone.one, rfl, trivial⟩ fun q2 => ?_
                      refine eGo ⟨qM, trivial⟩ ?_
                      refine make_rule (t := 22) (d := I false []) a.length rfl rfl (by omega) (by omega) fun lr hlr => ?_
                      refine eGo ⟨qM, trivial⟩ ?_
                      first | refine append_one (size := 1) (n := i) (el' := fun y => [Dat.one (su' i)].getD y (.one undef)) (e' := fun y => .one (su' y)) 6 rfl hs.vu (Knw.fact qM) eu (by omega) (by omega) fun vu' hvu' => ?_ | refine append_one (size := 1) (n := i) (el' := fun y => [Dat.one (su' i)].getD y (.one undef)) (e' := fun y => .one (su' y)) 7 rfl hs.vu (Knw.fact qM) eu (by omega) (by omega) fun vu' hvu' => ?_
                      refine eGo ⟨qM, trivial⟩ ?_
                      refine buildSlice_fact (size := 1) (n := 1) [lr] [.one lr] rfl rfl (by decide) (by decide) ⟨Reads.one hlr.one, rfl, trivial⟩ fun q3 => ?_
                      refine eGo ⟨qM, trivial⟩ ?_
                      refine append_one (size := 1) (n := i) (el' := fun y => [Dat.one lr].getD y (.one undef)) (e' := fun y => .one (if y < i then s.sl y else lr)) 10 rfl hs.vl (Knw.fact qM) (fun y _ => by by_cases e : y < i <;> simp [e]) (by omega) (by omega) fun vl' hvl' => ?_
                      refine eGo ⟨qM, trivial⟩ ?_
                      refine field_ptr ?_
                      refine field_ptr ?_
                      refine store4 3 0 rfl rfl (by decide) hvb'.one (by kernel_rfl) ?_
                      refine field_ptr ?_
                      refine field_ptr ?_
                      refine store4 3 1 rfl rfl (by decide) hvu'.one (by kernel_rfl) ?_
                      refine field_ptr ?_
                      refine store4 3 3 rfl rfl (by decide) hvl'.one (by kernel_rfl) ?_
                      exact again (lr, vb', vu', vl') ⟨hlr, hvb', hvu', hvl'⟩ trivial qF (Seals.sub qD)
                    · refine ordE_go [own4 (ptr0 s.r 0) s.vb s.vu s.vd s.vl] [7, 15, 22, 24] [9, 10, 17, 18, 25, 26, 27] [] [0, 1, 2, 3, 4, 5, 6, 7, 8, 11, 12, 13, 14, 15, 16, 19, 20, 21, 22, 23, 24, 9, 10, 17, 25, 26, 18, 27, 28, 29, 30, 31, 32, 33, 34, 35, 36, 37, 38] (by kernel_rfl) (by kernel_rfl) (by kernel_rfl) ?_
                      refine field_ptr ?_
                      refine field_ptr ?_
                      refine lookD (v := s.vb) ⟨qM, trivial⟩ rfl (lookE4 0 rfl (by decide)) ?_
                      refine field_ptr ?_
                      refine field_ptr ?_
                      refine lookD (v := s.vu) ⟨qM, trivial⟩ rfl (lookE4 1 rfl (by decide)) ?_
                      refine field_ptr ?_
                      refine lookD (v := s.vl) ⟨qM, trivial⟩ rfl (lookE4 3 rfl (by decide)) ?_
                      refine lookD (v := .int .i64 a.length) ⟨qM, trivial⟩ rfl (fun _ _ _ => len_eq hsv rfl) ?_
                      refine buildSlice_fact (size := 1) (n := 1) [sb' i] [.one (sb' i)] rfl rfl (by decide) (by decide) ⟨Reads.one hrow.one, rfl, trivial⟩ fun q1 => ?_
                      refine eGo ⟨qM, trivial⟩ ?_
                      first | refine append_one (size := 1) (n := i) (el' := fun y => [Dat.one (sb' i)].getD y (.one undef)) (e' := fun y => .one (sb' y)) 4 rfl hs.vb (Knw.fact qM) eb (by omega) (by omega) fun vb' hvb' => ?_ | refine append_one (size := 1) (n := i) (el' := fun y => [Dat.one (sb' i)].getD y (.one undef)) (e' := fun y => .one (sb' y)) 5 rfl hs.vb (Knw.fact qM) eb (by omega) (by omega) fun vb' hvb' => ?_
                      refine eGo ⟨qM, trivial⟩ ?_
                      refine buildSlice_fact (size := 1) (n := 1) [su' i] [.one (su' i)] rfl rfl (by decide) (by decide) ⟨Reads.one hone.one, rfl, trivial⟩ fun q2 => ?_
                      refine eGo ⟨qM, trivial⟩ ?_
                      refine make_rule (t := 22) (d := I false []) a.length rfl rfl (by omega) (by omega) fun lr hlr => ?_
                      refine eGo ⟨qM, trivial⟩ ?_
                      refine buildSlice_fact (size := 1) (n := 1) [lr] [.one lr] rfl rfl (by decide) (by decide) ⟨Reads.one hlr.one, rfl, trivial⟩ fun q3 => ?_
                      refine eGo ⟨qM, trivial⟩ ?_
                      first | refine append_one (size := 1) (n := i) (el' := fun y => [Dat.one (su' i)].getD y (.one undef)) (e' := fun y => .one (su' y)) 6 rfl hs.vu (Knw.fact qM) eu (by omega) (by omega) fun vu' hvu' => ?_ | refine append_one (size := 1) (n := i) (el' := fun y => [Dat.one (su' i)].getD y (.one undef)) (e' := fun y => .one (su' y)) 7 rfl hs.vu (Knw.fact qM) eu (by omega) (by omega) fun vu' hvu' => ?_
                      refine eGo ⟨qM, trivial⟩ ?_
                      refine append_one (size := 1) (n := i) (el' := fun y => [Dat.one lr].getD y (.one undef)) (e' := fun y => .one (if y < i then s.sl y else lr)) 10 rfl hs.vl (Knw.fact qM) (fun y _ => by by_cases e : y < i <;> simp [e]) (by omega) (by omega) fun vl' hvl' => ?_
                      refine eGo ⟨qM, trivial⟩ ?_
                      refine field_ptr ?_
                      refine field_ptr ?_
                      refine store4 3 0 rfl rfl (by decide) hvb'.one (by kernel_rfl) ?_
                      refine field_ptr ?_
                      refine field_ptr ?_
                      refine store4 3 1 rfl rfl (by decide) hvu'.one (by kernel_rfl) ?_
                      refine field_ptr ?_
                      refine store4 3 3 rfl rfl (by decide) hvl'.one (by kernel_rfl) ?_
                      exact again (lr, vb', vu', vl') ⟨hlr, hvb', hvu', hvl'⟩ trivial qF (Seals.sub qD)
                · refine ord_split 17 26 (by kernel_rfl) (by kernel_rfl) (by kernel_rfl) ?_ ?_
                  · refine ord_split 18 26 (by kernel_rfl) (by kernel_rfl) (by kernel_rfl) ?_ ?_
                    · refine ordE_go [own4 (ptr0 s.r 0) s.vb s.vu s.vd s.vl] [7, 15, 22, 24] [9, 10, 17, 18, 25, 26, 27] [] [0, 1, 2, 3, 4, 5, 6, 7, 8, 11, 12, 13, 14, 15, 16, 19, 20, 21, 22, 23, 24, 9, 10, 25, 17, 18, 26, 27, 28, 29, 30, 31, 32, 33, 34, 35, 36, 37, 38] (by kernel_rfl) (by kernel_rfl) (by kernel_rfl) ?_
                      refine field_ptr ?_
                      refine field_ptr ?_
                      refine lookD (v := s.vb) ⟨qM, trivial⟩ rfl (lookE4 0 rfl (by decide)) ?_
                      refine field_ptr ?_
                      refine field_ptr ?_
                      refine lookD (v := s.vu) ⟨qM, trivial⟩ rfl (lookE4 1 rfl (by decide)) ?_
                      refine field_ptr ?_
                      refine lookD (v := s.vl) ⟨qM, trivial⟩ rfl (lookE4 3 rfl (by decide)) ?_
                      refine lookD (v := .int .i64 a.length) ⟨qM, trivial⟩ rfl (fun _ _ _ => len_eq hsv rfl) ?_
                      refine buildSlice_fact (size := 1) (n := 1) [sb' i] [.one (sb' i)] rfl rfl (by decide) (by decide) ⟨Reads.one hrow.one, rfl, trivial⟩ fun q1 => ?_
                      refine eGo ⟨qM, trivial⟩ ?_
                      first | refine append_one (size := 1) (n := i) (el' := fun y => [Dat.one (sb' i)].getD y (.one undef)) (e' := fun y => .one (sb' y)) 4 rfl hs.vb (Knw.fact qM) eb (by omega) (by omega) fun vb' hvb' => ?_ | refine append_one (size := 1) (n := i) (el' := fun y => [Dat.one (sb' i)].getD y (.one undef)) (e' := fun y => .one (sb' y)) 5 rfl hs.vb (Knw.fact qM) eb (by omega) (by omega) fun vb' hvb' => ?_
                      refine eGo ⟨qM, trivial⟩ ?_
                      refine make_rule (t := 22) (d := I false []) a.length rfl rfl (by omega) (by omega) fun lr hlr => ?_
                      refine eGo ⟨qM, trivial⟩ ?_
                      refine buildSlice_fact (size := 1) (n := 1) [su' i] [.one (su' i)] rfl rfl (by decide) (by decide) ⟨Reads.one hone.one, rfl, trivial⟩ fun q2 => ?_
                      refine eGo ⟨qM, trivial⟩ ?_
                      first | refine append_one (size := 1) (n := i) (el' := fun y => [Dat.one (su' i)].getD y (.one undef)) (e' := fun y => .one (su' y)) 6 rfl hs.vu (Knw.fact qM) eu (by omega) (by omega) fun vu' hvu' => ?_ | refine append_one (size := 1) (n := i) (el' := fun y => [Dat.one (su' i)].getD y (.one undef)) (e' := fun y => .one (su' y)) 7 rfl hs.vu (Knw.fact qM) eu (by omega) (by omega) fun vu' hvu' => ?_
                      refine eGo ⟨qM, trivial⟩ ?_
                      refine buildSlice_fact (size := 1) (n := 1) [lr] [.one lr] rfl rfl (by decide) (by decide) ⟨Reads.one hlr.one, rfl, trivial⟩ fun q3 => ?_
                      refine eGo ⟨qM, trivial⟩ ?_
                      refine append_one (size := 1) (n := i) (el' := fun y => [Dat.one lr].getD y (.one undef)) (e' := fun y => .one (if y < i then s.sl y else lr)) 10 rfl hs.vl (Knw.fact qM) (fun y _ => by by_cases e : y < i <;> simp [e]) (by omega) (by omega) fun vl' hvl' => ?_
                      refine eGo ⟨qM, trivial⟩ ?_
                      refine field_ptr ?_
                      refine field_ptr ?_
                      refine store4 3 0 rfl rfl (by decide) hvb'.one (by kernel_rfl) ?_
                      refine field_ptr ?_
                      refine field_ptr ?_
                      refine store4 3 1 rfl rfl (by decide) hvu'.one (by kernel_rfl) ?_
                      refine field_ptr ?_
                      refine store4 3 3 rfl rfl (by decide) hvl'.one (by kernel_rfl) ?_
                      exact again (lr, vb', vu', vl') ⟨hlr, hvb', hvu', hvl'⟩ trivial qF (Seals.sub qD)
                    · refine ordE_go [own4 (ptr0 s.r 0) s.vb s.vu s.vd s.vl] [7, 15, 22, 24] [9, 10, 17, 18, 25, 26, 27] [] [0, 1, 2, 3, 4, 5, 6, 7, 8, 11, 12, 13, 14, 15, 16, 19, 20, 21, 22, 23, 24, 9, 10, 25, 17, 26, 18, 27, 28, 29, 30, 31, 32, 33, 34, 35, 36, 37, 38] (by kernel_rfl) (by kernel_rfl) (by kernel_rfl) ?_
                      refine field_ptr ?_
                      refine field_ptr ?_
                      refine lookD (v := s.vb) ⟨qM, trivial⟩ rfl (lookE4 0 rfl (by decide)) ?_
                      refine field_ptr ?_
                      refine field_ptr ?_
                      refine lookD (v := s.vu) ⟨qM, trivial⟩ rfl (lookE4 1 rfl (by decide)) ?_
                      refine field_ptr ?_
                      refine lookD (v := s.vl) ⟨qM, trivial⟩ rfl (lookE4 3 rfl (by decide)) ?_
                      refine lookD (v := .int .i64 a.length) ⟨qM, trivial⟩ rfl (fun _ _ _ => len_eq hsv rfl) ?_
                      refine buildSlice_fact (size := 1) (n := 1) [sb' i] [.one (sb' i)] rfl rfl (by decide) (by decide) ⟨Reads.one hrow.one, rfl, trivial⟩ fun q1 => ?_
                      refine eGo ⟨qM, trivial⟩ ?_
                      first | refine append_one (size := 1) (n := i) (el' := fun y => [Dat.one (sb' i)].getD y (.one undef)) (e' := fun y => .one (sb' y)) 4 rfl hs.vb (Knw.fact qM) eb (by omega) (by omega) fun vb' hvb' => ?_ | refine append_one (size := 1) (n := i) (el' := fun y => [Dat.one (sb' i)].getD y (.one undef)) (e' := fun y => .one (sb' y)) 5 rfl hs.vb (Knw.fact qM) eb (by omega) (by omega) fun vb' hvb' => ?_
                      refine eGo ⟨qM, trivial⟩ ?_
                      refine make_rule (t := 22) (d := I false []) a.length rfl rfl (by omega) (by omega) fun lr hlr => ?_
                      refine eGo ⟨qM, trivial⟩ ?_
                      refine buildSlice_fact (size := 1) (n := 1) [su' i] [.one (su' i)] rfl rfl (by decide) (by decide) ⟨Reads.one hone.one, rfl, trivial⟩ fun q2 => ?_
                      refine eGo ⟨qM, trivial⟩ ?_
                      refine buildSlice_fact (size := 1) (n := 1) [lr] [.one lr] rfl rfl (by decide) (by decide) ⟨Reads.one hlr.one, rfl, trivial⟩ fun q3 => ?_
                      refine eGo ⟨qM, trivial⟩ ?_
                      first | refine append_one (size := 1) (n := i) (el' := fun y => [Dat.one (su' i)].getD y (.one undef)) (e' := fun y => .one (su' y)) 6 rfl hs.vu (Knw.fact qM) eu (by omega) (by omega) fun vu' hvu' => ?_ | refine append_one (size := 1) (n := i) (el' := fun y => [Dat.one (su' i)].getD y (.one undef)) (e' := fun y => .one (su' y)) 7 rfl hs.vu (Knw.fact qM) eu (by omega) (by omega) fun vu' hvu' => ?_
                      refine eGo ⟨qM, trivial⟩ ?_
                      refine append_one (size := 1) (n := i) (el' := fun y => [Dat.one lr].getD y (.one undef)) (e' := fun y => .one (if y < i then s.sl y else lr)) 10 rfl hs.vl (Knw.fact qM) (fun y _ => by by_cases e : y < i <;> simp [e]) (by omega) (by omega) fun vl' hvl' => ?_
                      refine eGo ⟨qM, trivial⟩ ?_
                      refine field_ptr ?_
                      refine field_ptr ?_
                      refine store4 3 0 rfl rfl (by decide) hvb'.one (by kernel_rfl) ?_
                      refine field_ptr ?_
                      refine field_ptr ?_
                      refine store4 3 1 rfl rfl (by decide) hvu'.one (by kernel_rfl) ?_
                      refine field_ptr ?_
                      refine store4 3 3 rfl rfl (by decide) hvl'.one (by kernel_rfl) ?_
                      exact again (lr, vb', vu', vl') ⟨hlr, hvb', hvu', hvl'⟩ trivial qF (Seals.sub qD)
                  · refine ordE_go [own4 (ptr0 s.r 0) s.vb s.vu s.vd s.vl] [7, 15, 22, 24] [9, 10, 17, 18, 25, 26, 27] [] [0, 1, 2, 3, 4, 5, 6, 7, 8, 11, 12, 13, 14, 15, 16, 19, 20, 21, 22, 23, 24, 9, 10, 25, 26, 17, 18, 27, 28, 29, 30, 31, 32, 33, 34, 35, 36, 37, 38] (by kernel_rfl) (by kernel_rfl) (by kernel_rfl) ?_
                    refine field_ptr ?_
                    refine field_ptr ?_
                    refine lookD (v := s.vb) ⟨qM, trivial⟩ rfl (lookE4 0 rfl (by decide)) ?_
                    refine field_ptr ?_
                    refine field_ptr ?_
                    refine lookD (v := s.vu) ⟨qM, trivial⟩ rfl (lookE4 1 rfl (by decide)) ?_
                    refine field_ptr ?_
                    refine lookD (v := s.vl) ⟨qM, trivial⟩ rfl (lookE4 3 rfl (by decide)) ?_
                    refine lookD (v := .int .i64 a.length) ⟨qM, trivial⟩ rfl (fun _ _ _ => len_eq hsv rfl) ?_
                    refine buildSlice_fact (size := 1) (n := 1) [sb' i] [.one (sb' i)] rfl rfl (by decide) (by decide) ⟨Reads.one hrow.one, rfl, trivial⟩ fun q1 => ?_
                    refine eGo ⟨qM, trivial⟩ ?_
                    first | refine append_one (size := 1) (n := i) (el' := fun y => [Dat.one (sb' i)].getD y (.one undef)) (e' := fun y => .one (sb' y)) 4 rfl hs.vb (Knw.fact qM) eb (by omega) (by omega) fun vb' hvb' => ?_ | refine append_one (size := 1) (n := i) (el' := fun y => [Dat.one (sb' i)].getD y (.one undef)) (e' := fun y => .one (sb' y)) 5 rfl hs.vb (Knw.fact qM) eb (by omega) (by omega) fun vb' hvb' => ?_
                    refine eGo ⟨qM, trivial⟩ ?_
                    refine make_rule (t := 22) (d := I false []) a.length rfl rfl (by omega) (by omega) fun lr hlr => ?_
                    refine eGo ⟨qM, trivial⟩ ?_
                    refine buildSlice_fact (size := 1) (n := 1) [lr] [.one lr] rfl rfl (by decide) (by decide) ⟨Reads.one hlr.one, rfl, trivial⟩ fun q3 => ?_
                    refine eGo ⟨qM, trivial⟩ ?_
                    refine buildSlice_fact (size := 1) (n := 1) [su' i] [.one (su' i)] rfl rfl (by decide) (by decide) ⟨Reads.one hone.one, rfl, trivial⟩ fun q2 => ?_
                    refine eGo ⟨qM, trivial⟩ ?_
                    first | refine append_one (size := 1) (n := i) (el' := fun y => [Dat.one (su' i)].getD y (.one undef)) (e' := fun y => .one (su' y)) 6 rfl hs.vu (Knw.fact qM) eu (by omega) (by omega) fun vu' hvu' => ?_ | refine append_one (size := 1) (n := i) (el' := fun y => [Dat.one (su' i)].getD y (.one undef)) (e' := fun y => .one (su' y)) 7 rfl hs.vu (Knw.fact qM) eu (by omega) (by omega) fun vu' hvu' => ?_
                    refine eGo ⟨qM, trivial⟩ ?_
                    refine append_one (size := 1) (n := i) (el' := fun y => [Dat.one lr].getD y (.one undef)) (e' := fun y => .one (if y < i then s.sl y else lr)) 10 rfl hs.vl (Knw.fact qM) (fun y _ => by by_cases e : y < i <;> simp [e]) (by omega) (by omega) fun vl' hvl' => ?_
                    refine eGo ⟨qM, trivial⟩ ?_
                    refine field_ptr ?_
                    refine field_ptr ?_
                    refine store4 3 0 rfl rfl (by decide) hvb'.one (by kernel_rfl) ?_
                    refine field_ptr ?_
                    refine field_ptr ?_
                    refine store4 3 1 rfl rfl (by decide) hvu'.one (by kernel_rfl) ?_
                    refine field_ptr ?_
                    refine store4 3 3 rfl rfl (by decide) hvl'.one (by kernel_rfl) ?_
                    exact again (lr, vb', vu', vl') ⟨hlr, hvb', hvu', hvl'⟩ trivial qF (Seals.sub qD)
              · refine ord_split 10 26 (by kernel_rfl) (by kernel_rfl) (by kernel_rfl) ?_ ?_
                · refine ord_split 17 26 (by kernel_rfl) (by kernel_rfl) (by kernel_rfl) ?_ ?_
                  · refine ord_split 18 26 (by kernel_rfl) (by kernel_rfl) (by kernel_rfl) ?_ ?_
                    · refine ordE_go [own4 (ptr0 s.r 0) s.vb s.vu s.vd s.vl] [7, 15, 22, 24] [9, 10, 17, 18, 25, 26, 27] [] [0, 1, 2, 3, 4, 5, 6, 7, 8, 11, 12, 13, 14, 15, 16, 19, 20, 21, 22, 23, 24, 9, 25, 10, 17, 18, 26, 27, 28, 29, 30, 31, 32, 33, 34, 35, 36, 37, 38] (by kernel_rfl) (by kernel_rfl) (by kernel_rfl) ?_
                      refine field_ptr ?_
                      refine field_ptr ?_
                      refine lookD (v := s.vb) ⟨qM, trivial⟩ rfl (lookE4 0 rfl (by decide)) ?_
                      refine field_ptr ?_
                      refine field_ptr ?_
                      refine lookD (v := s.vu) ⟨qM, trivial⟩ rfl (lookE4 1 rfl (by decide)) ?_
                      refine field_ptr ?_
                      refine lookD (v := s.vl) ⟨qM, trivial⟩ rfl (lookE4 3 rfl (by decide)) ?_
                      refine lookD (v := .int .i64 a.length) ⟨qM, trivial⟩ rfl (fun _ _ _ => len_eq hsv rfl) ?_
                      refine buildSlice_fact (size := 1) (n := 1) [sb' i] [.one (sb' i)] rfl rfl (by decide) (by decide) ⟨Reads.one hrow.one, rfl, trivial⟩ fun q1 => ?_
                      refine eGo ⟨qM, trivial⟩ ?_
                      refine make_rule (t := 22) (d := I false []) a.length rfl rfl (by omega) (by omega) fun lr hlr => ?_
                      refine eGo ⟨qM, trivial⟩ ?_
                      first | refine append_one (size := 1) (n := i) (el' := fun y => [Dat.one (sb' i)].getD y (.one undef)) (e' := fun y => .one (sb' y)) 4 rfl hs.vb (Knw.fact qM) eb (by omega) (by omega) fun vb' hvb' => ?_ | refine append_one (size := 1) (n := i) (el' := fun y => [Dat.one (sb' i)].getD y (.one undef)) (e' := fun y => .one (sb' y)) 5 rfl hs.vb (Knw.fact qM) eb (by omega) (by omega) fun vb' hvb' => ?_
                      refine eGo ⟨qM, trivial⟩ ?_
                      refine buildSlice_fact (size := 1) (n := 1) [su' i] [.one (su' i)] rfl rfl (by decide) (by decide) ⟨Reads.one hone.one, rfl, trivial⟩ fun q2 => ?_
                      refine eGo ⟨qM, trivial⟩ ?_
                      first | refine append_one (size := 1) (n := i) (el' := fun y => [Dat.one (su' i)].getD y (.one undef)) (e' := fun y => .one (su' y)) 6 rfl hs.vu (Knw.fact qM) eu (by omega) (by omega) fun vu' hvu' => ?_ | refine append_one (size := 1) (n := i) (el' := fun y => [Dat.one (su' i)].getD y (.one undef)) (e' := fun y => .one (su' y)) 7 rfl hs.vu (Knw.fact qM) eu (by omega) (by omega) fun vu' hvu' => ?_
                      refine eGo ⟨qM, trivial⟩ ?_
                      refine buildSlice_fact (size := 1) (n := 1) [lr] [.one lr] rfl rfl (by decide) (by decide) ⟨Reads.one hlr.one, rfl, trivial⟩ fun q3 => ?_
                      refine eGo ⟨qM, trivial⟩ ?_
                      refine append_one (size := 1) (n := i) (el' := fun y => [Dat.one lr].getD y (.one undef)) (e' := fun y => .one (if y < i then s.sl y else lr)) 10 rfl hs.vl (Knw.fact qM) (fun y _ => by by_cases e : y < i <;> simp [e]) (by omega) (by omega) fun vl' hvl' => ?_
                      refine eGo ⟨qM, trivial⟩ ?_
                      refine field_ptr ?_
                      refine field_ptr ?_
                      refine store4 3 0 rfl rfl (by decide) hvb'.one (by kernel_rfl) ?_
                      refine field_ptr ?_
                      refine field_ptr ?_
                      refine store4 3 1 rfl rfl (by decide) hvu'.one (by kernel_rfl) ?_
                      refine field_ptr ?_
                      refine store4 3 3 rfl rfl (by decide) hvl'.one (by kernel_rfl) ?_
                      exact again (lr, vb', vu', vl') ⟨hlr, hvb', hvu', hvl'⟩ trivial qF (Seals.sub qD)
                    · refine ordE_go [own4 (ptr0 s.r 0) s.vb s.vu s.vd s.vl] [7, 15, 22, 24] [9, 10, 17, 18, 25, 26, 27] [] [0, 1, 2, 3, 4, 5, 6, 7, 8, 11, 12, 13, 14, 15, 16, 19, 20, 21, 22, 23, 24, 9, 25, 10, 17, 26, 18, 27, 28, 29, 30, 31, 32, 33, 34, 35, 36, 37, 38] (by kernel_rfl) (by kernel_rfl) (by kernel_rfl) ?_
                      refine field_ptr ?_
                      refine field_ptr ?_
                      refine lookD (v := s.vb) ⟨qM, trivial⟩ rfl (lookE4 0 rfl (by decide)) ?_
                      refine field_ptr ?_
                      refine field_ptr ?_
                      refine lookD (v := s.vu) ⟨qM, trivial⟩ rfl (lookE4 1 rfl (by decide)) ?_
                      refine field_ptr ?_
                      refine lookD (v := s.vl) ⟨qM, trivial⟩ rfl (lookE4 3 rfl (by decide)) ?_
                      refine lookD (v := .int .i64 a.length) ⟨qM, trivial⟩ rfl (fun _ _ _ => len_eq hsv rfl) ?_
                      refine buildSlice_fact (size := 1) (n := 1) [sb' i] [.one (sb' i)] rfl rfl (by decide) (by decide) ⟨Reads.one hrow.one, rfl, trivial⟩ fun q1 => ?_
                      refine eGo ⟨qM, trivial⟩ ?_
                      refine make_rule (t := 22) (d := I false []) a.length rfl rfl (by omega) (by omega) fun lr hlr => ?_
                      refine eGo ⟨qM, trivial⟩ ?_
                      first | refine append_one (size := 1) (n := i) (el' := fun y => [Dat.one (sb' i)].getD y (.one undef)) (e' := fun y => .one (sb' y)) 4 rfl hs.vb (Knw.fact qM) eb (by omega) (by omega) fun vb' hvb' => ?_ | refine append_one (size := 1) (n := i) (el' := fun y => [Dat.one (sb' i)].getD y (.one undef)) (e' := fun y => .one (sb' y)) 5 rfl hs.vb (Knw.fact qM) eb (by omega) (by omega) fun vb' hvb' => ?_
                      refine eGo ⟨qM, trivial⟩ ?_
                      refine buildSlice_fact (size := 1) (n := 1) [su' i] [.one (su' i)] rfl rfl (by decide) (by decide) ⟨Reads.one hone.one, rfl, trivial⟩ fun q2 => ?_
                      refine eGo ⟨qM, trivial⟩ ?_
                      refine buildSlice_fact (size := 1) (n := 1) [lr] [.one lr] rfl rfl (by decide) (by decide) ⟨Reads.one hlr.one, rfl, trivial⟩ fun q3 => ?_
                      refine eGo ⟨qM, trivial⟩ ?_
                      first | refine append_one (size := 1) (n := i) (el' := fun y => [Dat.one (su' i)].getD y (.one undef)) (e' := fun y => .one (su' y)) 6 rfl hs.vu (Knw.fact qM) eu (by omega) (by omega) fun vu' hvu' => ?_ | refine append_one (size := 1) (n := i) (el' := fun y => [Dat.one (su' i)].getD y (.one undef)) (e' := fun y => .one (su' y)) 7 rfl hs.vu (Knw.fact qM) eu (by omega) (by omega) fun vu' hvu' => ?_
                      refine eGo ⟨qM, trivial⟩ ?_
                      refine append_one (size := 1) (n := i) (el' := fun y => [Dat.one lr].getD y (.one undef)) (e' := fun y => .one (if y < i then s.sl y else lr)) 10 rfl hs.vl (Knw.fact qM) (fun y _ => by by_cases e : y < i <;> simp [e]) (by omega) (by omega) fun vl' hvl' => ?_
                      refine eGo ⟨qM, trivial⟩ ?_
                      refine field_ptr ?_
                      refine field_ptr ?_
                      refine store4 3 0 rfl rfl (by decide) hvb'.one (by kernel_rfl) ?_
                      refine field_ptr ?_
                      refine field_ptr ?_
                      refine store4 3 1 rfl rfl (by decide) hvu'.one (by kernel_rfl) ?_
                      refine field_ptr ?_
                      refine store4 3 3 rfl rfl (by decide) hvl'.one (by kernel_rfl) ?_
                      exact again (lr, vb', vu', vl') ⟨hlr, hvb', hvu', hvl'⟩ trivial qF (Seals.sub qD)
                  · refine ordE_go [own4 (ptr0 s.r 0) s.vb s.vu s.vd s.vl] [7, 15, 22, 24] [9, 10, 17, 18, 25, 26, 27] [] [0, 1, 2, 3, 4, 5, 6, 7, 8, 11, 12, 13, 14, 15, 16, 19, 20, 21, 22, 23, 24, 9, 25, 10, 26, 17, 18, 27, 28, 29, 30, 31, 32, 33, 34, 35, 36, 37, 38] (by kernel_rfl) (by kernel_rfl) (by kernel_rfl) ?_
                    refine field_ptr ?_
                    refine field_ptr ?_
                    refine lookD (v := s.vb) ⟨qM, trivial⟩ rfl (lookE4 0 rfl (by decide)) ?_
                    refine field_ptr ?_
                    refine field_ptr ?_
                    refine lookD (v := s.vu) ⟨qM, trivial⟩ rfl (lookE4 1 rfl (by decide)) ?_
                    refine field_ptr ?_
                    refine lookD (v := s.vl) ⟨qM, trivial⟩ rfl (lookE4 3 rfl (by decide)) ?_
                    refine lookD (v := .int .i64 a.length) ⟨qM, trivial⟩ rfl (fun _ _ _ => len_eq hsv rfl) ?_
                    refine buildSlice_fact (size := 1) (n := 1) [sb' i] [.one (sb' i)] rfl rfl (by decide) (by decide) ⟨Reads.one hrow.one, rfl, trivial⟩ fun q1 => ?_
                    refine eGo ⟨qM, trivial⟩ ?_
                    refine make_rule (t := 22) (d := I false []) a.length rfl rfl (by omega) (by omega) fun lr hlr => ?_
                    refine eGo ⟨qM, trivial⟩ ?_
                    first | refine append_one (size := 1) (n := i) (el' := fun y => [Dat.one (sb' i)].getD y (.one undef)) (e' := fun y => .one (sb' y)) 4 rfl hs.vb (Knw.fact qM) eb (by omega) (by omega) fun vb' hvb' => ?_ | refine append_one (size := 1) (n := i) (el' := fun y => [Dat.one (sb' i)].getD y (.one undef)) (e' := fun y => .one (sb' y)) 5 rfl hs.vb (Knw.fact qM) eb (by omega) (by omega) fun vb' hvb' => ?_
                    refine eGo ⟨qM, trivial⟩ ?_
                    refine buildSlice_fact (size := 1) (n := 1) [lr] [.one lr] rfl rfl (by decide) (by decide) ⟨Reads.one hlr.one, rfl, trivial⟩ fun q3 => ?_
                    refine eGo ⟨qM, trivial⟩ ?_
                    refine buildSlice_fact (size := 1) (n := 1) [su' i] [.one (su' i)] rfl rfl (by decide) (by decide) ⟨Reads.one hone.one, rfl, trivial⟩ fun q2 => ?_
                    refine eGo ⟨qM, trivial⟩ ?_
                    first | refine append_one (size := 1) (n := i) (el' := fun y => [Dat.one (su' i)].getD y (.one undef)) (e' := fun y => .one (su' y)) 6 rfl hs.vu (Knw.fact qM) eu (by omega) (by omega) fun vu' hvu' => ?_ | refine append_one (size := 1) (n := i) (el' := fun y => [Dat.one (su' i)].getD y (.one undef)) (e' := fun y => .one (su' y)) 7 rfl hs.vu (Knw.fact qM) eu (by omega) (by omega) fun vu' hvu' => ?_
                    refine eGo ⟨qM, trivial⟩ ?_
                    refine append_one (size := 1) (n := i) (el' := fun y => [Dat.one lr].getD y (.one undef)) (e' := fun y => .one (if y < i then s.sl y else lr)) 10 rfl hs.vl (Knw.fact qM) (fun y _ => by by_cases e : y < i <;> simp [e]) (by omega) (by omega) fun vl' hvl' => ?_
                    refine eGo ⟨qM, trivial⟩ ?_
                    refine field_ptr ?_
                    refine field_ptr ?_
                    refine store4 3 0 rfl rfl (by decide) hvb'.one (by kernel_rfl) ?_
                    refine field_ptr ?_
                    refine field_ptr ?_
                    refine store4 3 1 rfl rfl (by decide) hvu'.one (by kernel_rfl) ?_
                    refine field_ptr ?_
                    refine store4 3 3 rfl rfl (by decide) hvl'.one (by kernel_rfl) ?_
                    exact again (lr, vb', vu', vl') ⟨hlr, hvb', hvu', hvl'⟩ trivial qF (Seals.sub qD)
                · refine ordE_go [own4 (ptr0 s.r 0) s.vb s.vu s.vd s.vl] [7, 15, 22, 24] [9, 10, 17, 18, 25, 26, 27] [] [0, 1, 2, 3, 4, 5, 6, 7, 8, 11, 12, 13, 14, 15, 16, 19, 20, 21, 22, 23, 24, 9, 25, 26, 10, 17, 18, 27, 28, 29, 30, 31, 32, 33, 34, 35, 36, 37, 38] (by kernel_rfl) (by kernel_rfl) (by kernel_rfl) ?_
                  refine field_ptr ?_
                  refine field_ptr ?_
                  refine lookD (v := s.vb) ⟨qM, trivial⟩ rfl (lookE4 0 rfl (by decide)) ?_
                  refine field_ptr ?_
                  refine field_ptr ?_
                  refine lookD (v := s.vu) ⟨qM, trivial⟩ rfl (lookE4 1 rfl (by decide)) ?_
                  refine field_ptr ?_
                  refine lookD (v := s.vl) ⟨qM, trivial⟩ rfl (lookE4 3 rfl (by decide)) ?_
                  refine lookD (v := .int .i64 a.length) ⟨qM, trivial⟩ rfl (fun _ _ _ => len_eq hsv rfl) ?_
                  refine buildSlice_fact (size := 1) (n := 1) [sb' i] [.one (sb' i)] rfl rfl (by decide) (by decide) ⟨Reads.one hrow.one, rfl, trivial⟩ fun q1 => ?_
                  refine eGo ⟨qM, trivial⟩ ?_
                  refine make_rule (t := 22) (d := I false []) a.length rfl rfl (by omega) (by omega) fun lr hlr => ?_
                  refine eGo ⟨qM, trivial⟩ ?_
                  refine buildSlice_fact (size := 1) (n := 1) [lr] [.one lr] rfl rfl (by decide) (by decide) ⟨Reads.one hlr.one, rfl, trivial⟩ fun q3 => ?_
                  refine eGo ⟨qM, trivial⟩ ?_
                  first | refine append_one (size := 1) (n := i) (el' := fun y => [Dat.one (sb' i)].getD y (.one undef)) (e' := fun y => .one (sb' y)) 4 rfl hs.vb (Knw.fact qM) eb (by omega) (by omega) fun vb' hvb' => ?_ | refine append_one (size := 1) (n := i) (el' := fun y => [Dat.one (sb' i)].getD y (.one undef)) (e' := fun y => .one (sb' y)) 5 rfl hs.vb (Knw.fact qM) eb (by omega) (by omega) fun vb' hvb' => ?_
                  refine eGo ⟨qM, trivial⟩ ?_
                  refine buildSlice_fact (size := 1) (n := 1) [su' i] [.one (su' i)] rfl rfl (by decide) (by decide) ⟨Reads.one hone.one, rfl, trivial⟩ fun q2 => ?_
                  refine eGo ⟨qM, trivial⟩ ?_
                  first | refine append_one (size := 1) (n := i) (el' := fun y => [Dat.one (su' i)].getD y (.one undef)) (e' := fun y => .one (su' y)) 6 rfl hs.vu (Knw.fact qM) eu (by omega) (by omega) fun vu' hvu' => ?_ | refine append_one (size := 1) (n := i) (el' := fun y => [Dat.one (su' i)].getD y (.one undef)) (e' := fun y => .one (su' y)) 7 rfl hs.vu (Knw.fact qM) eu (by omega) (by omega) fun vu' hvu' => ?_
                  refine eGo ⟨qM, trivial⟩ ?_
                  refine append_one (size := 1) (n := i) (el' := fun y => [Dat.one lr].getD y (.one undef)) (e' := fun y => .one (if y < i then s.sl y else lr)) 10 rfl hs.vl (Knw.fact qM) (fun y _ => by by_cases e : y < i <;> simp [e]) (by omega) (by omega) fun vl' hvl' => ?_
                  refine eGo ⟨qM, trivial⟩ ?_
                  refine field_ptr ?_
                  refine field_ptr ?_
                  refine store4 3 0 rfl rfl (by decide) hvb'.one (by kernel_rfl) ?_
                  refine field_ptr ?_
                  refine field_ptr ?_
                  refine store4 3 1 rfl rfl (by decide) hvu'.one (by kernel_rfl) ?_
                  refine field_ptr ?_
                  refine store4 3 3 rfl rfl (by decide) hvl'.one (by kernel_rfl) ?_
                  exact again (lr, vb', vu', vl') ⟨hlr, hvb', hvu', hvl'⟩ trivial qF (Seals.sub qD)
            · refine ord_split 10 25 (by kernel_rfl) (by kernel_rfl) (by kernel_rfl) ?_ ?_
              · refine ord_split 18 25 (by kernel_rfl) (by kernel_rfl) (by kernel_rfl) ?_ ?_
                · refine ordE_go [own4 (ptr0 s.r 0) s.vb s.vu s.vd s.vl] [7, 15, 22, 24] [9, 10, 17, 18, 25, 26, 27] [] [0, 1, 2, 3, 4, 5, 6, 7, 8, 11, 12, 13, 14, 15, 16, 19, 20, 21, 22, 23, 24, 9, 17, 10, 18, 25, 26, 27, 28, 29, 30, 31, 32, 33, 34, 35, 36, 37, 38] (by kernel_rfl) (by kernel_rfl) (by kernel_rfl) ?_
                  refine field_ptr ?_
                  refine field_ptr ?_
                  refine lookD (v := s.vb) ⟨qM, trivial⟩ rfl (lookE4 0 rfl (by decide)) ?_
                  refine field_ptr ?_
                  refine field_ptr ?_
                  refine lookD (v := s.vu) ⟨qM, trivial⟩ rfl (lookE4 1 rfl (by decide)) ?_
                  refine field_ptr ?_
                  refine lookD (v := s.vl) ⟨qM, trivial⟩ rfl (lookE4 3 rfl (by decide)) ?_
                  refine lookD (v := .int .i64 a.length) ⟨qM, trivial⟩ rfl (fun _ _ _ => len_eq hsv rfl) ?_
                  refine buildSlice_fact (size := 1) (n := 1) [sb' i] [.one (sb' i)] rfl rfl (by decide) (by decide) ⟨Reads.one hrow.one, rfl, trivial⟩ fun q1 => ?_
                  refine eGo ⟨qM, trivial⟩ ?_
                  refine buildSlice_fact (size := 1) (n := 1) [su' i] [.one (su' i)] rfl rfl (by decide) (by decide) ⟨Reads.one hone.one, rfl, trivial⟩ fun q2 => ?_
                  refine eGo ⟨qM, trivial⟩ ?_
                  first | refine append_one (size := 1) (n := i) (el' := fun y => [Dat.one (sb' i)].getD y (.one undef)) (e' := fun y => .one (sb' y)) 4 rfl hs.vb (Knw.fact qM) eb (by omega) (by omega) fun vb' hvb' => ?_ | refine append_one (size := 1) (n := i) (el' := fun y => [Dat.one (sb' i)].getD y (.one undef)) (e' := fun y => .one (sb' y)) 5 rfl hs.vb (Knw.fact qM) eb (by omega) (by omega) fun vb' hvb' => ?_
                  refine eGo ⟨qM, trivial⟩ ?_
                  first | refine append_one (size := 1) (n := i) (el' := fun y => [Dat.one (su' i)].getD y (.one undef)) (e' := fun y => .one (su' y)) 6 rfl hs.vu (Knw.fact qM) eu (by omega) (by omega) fun vu' hvu' => ?_ | refine append_one (size := 1) (n := i) (el' := fun y => [Dat.one (su' i)].getD y (.one undef)) (e' := fun y => .one (su' y)) 7 rfl hs.vu (Knw.fact qM) eu (by omega) (by omega) fun vu' hvu' => ?_
                  refine eGo ⟨qM, trivial⟩ ?_
                  refine make_rule (t := 22) (d := I false []) a.length rfl rfl (by omega) (by omega) fun lr hlr => ?_
                  refine eGo ⟨qM, trivial⟩ ?_
                  refine buildSlice_fact (size := 1) (n := 1) [lr] [.one lr] rfl rfl (by decide) (by decide) ⟨Reads.one hlr.one, rfl, trivial⟩ fun q3 => ?_
                  refine eGo ⟨qM, trivial⟩ ?_
                  refine append_one (size := 1) (n := i) (el' := fun y => [Dat.one lr].getD y (.one undef)) (e' := fun y => .one (if y < i then s.sl y else lr)) 10 rfl hs.vl (Knw.fact qM) (fun y _ => by by_cases e : y < i <;> simp [e]) (by omega) (by omega) fun vl' hvl' => ?_
                  refine eGo ⟨qM, trivial⟩ ?_
                  refine field_ptr ?_
                  refine field_ptr ?_
                  refine store4 3 0 rfl rfl (by decide) hvb'.one (by kernel_rfl) ?_
                  refine field_ptr ?_
                  refine field_ptr ?_
                  refine store4 3 1 rfl rfl (by decide) hvu'.one (by kernel_rfl) ?_
                  refine field_ptr ?_
                  refine store4 3 3 rfl rfl (by decide) hvl'.one (by kernel_rfl) ?_
                  exact again (lr, vb', vu', vl') ⟨hlr, hvb', hvu', hvl'⟩ trivial qF (Seals.sub qD)
                · refine ord_split 18 26 (by kernel_rfl) (by kernel_rfl) (by kernel_rfl) ?_ ?_
                  · refine ordE_go [own4 (ptr0 s.r 0) s.vb s.vu s.vd s.vl] [7, 15, 22, 24] [9, 10, 17, 18, 25, 26, 27] [] [0, 1, 2, 3, 4, 5, 6, 7, 8, 11, 12, 13, 14, 15, 16, 19, 20, 21, 22, 23, 24, 9, 17, 10, 25, 18, 26, 27, 28, 29, 30, 31, 32, 33, 34, 35, 36, 37, 38] (by kernel_rfl) (by kernel_rfl) (by kernel_rfl) ?_
                    refine field_ptr ?_
                    refine field_ptr ?_
                    refine lookD (v := s.vb) ⟨qM, trivial⟩ rfl (lookE4 0 rfl (by decide)) ?_
                    refine field_ptr ?_
                    refine field_ptr ?_
                    refine lookD (v := s.vu) ⟨qM, trivial⟩ rfl (lookE4 1 rfl (by decide)) ?_
                    refine field_ptr ?_
                    refine lookD (v := s.vl) ⟨qM, trivial⟩ rfl (lookE4 3 rfl (by decide)) ?_
                    refine lookD (v := .int .i64 a.length) ⟨qM, trivial⟩ rfl (fun _ _ _ => len_eq hsv rfl) ?_
                    refine buildSlice_fact (size := 1) (n := 1) [sb' i] [.one (sb' i)] rfl rfl (by decide) (by decide) ⟨Reads.one hrow.one, rfl, trivial⟩ fun q1 => ?_
                    refine eGo ⟨qM, trivial⟩ ?_
                    refine buildSlice_fact (size := 1) (n := 1) [su' i] [.one (su' i)] rfl rfl (by decide) (by decide) ⟨Reads.one hone.one, rfl, trivial⟩ fun q2 => ?_
                    refine eGo ⟨qM, trivial⟩ ?_
                    first | refine append_one (size := 1) (n := i) (el' := fun y => [Dat.one (sb' i)].getD y (.one undef)) (e' := fun y => .one (sb' y)) 4 rfl hs.vb (Knw.fact qM) eb (by omega) (by omega) fun vb' hvb' => ?_ | refine append_one (size := 1) (n := i) (el' := fun y => [Dat.one (sb' i)].getD y (.one undef)) (e' := fun y => .one (sb' y)) 5 rfl hs.vb (Knw.fact qM) eb (by omega) (by omega) fun vb' hvb' => ?_
                    refine eGo ⟨qM, trivial⟩ ?_
                    refine make_rule (t := 22) (d := I false []) a.length rfl rfl (by omega) (by omega) fun lr hlr => ?_
                    refine eGo ⟨qM, trivial⟩ ?_
                    first | refine append_one (size := 1) (n := i) (el' := fun y => [Dat.one (su' i)].getD y (.one undef)) (e' := fun y => .one (su' y)) 6 rfl hs.vu (Knw.fact qM) eu (by omega) (by omega) fun vu' hvu' => ?_ | refine append_one (size := 1) (n := i) (el' := fun y => [Dat.one (su' i)].getD y (.one undef)) (e' := fun y => .one (su' y)) 7 rfl hs.vu (Knw.fact qM) eu (by omega) (by omega) fun vu' hvu' => ?_
                    refine eGo ⟨qM, trivial⟩ ?_
                    refine buildSlice_fact (size := 1) (n := 1) [lr] [.one lr] rfl rfl (by decide) (by decide) ⟨Reads.one hlr.one, rfl, trivial⟩ fun q3 => ?_
                    refine eGo ⟨qM, trivial⟩ ?_
                    refine append_one (size := 1) (n := i) (el' := fun y => [Dat.one lr].getD y (.one undef)) (e' := fun y => .one (if y < i then s.sl y else lr)) 10 rfl hs.vl (Knw.fact qM) (fun y _ => by by_cases e : y < i <;> simp [e]) (by omega) (by omega) fun vl' hvl' => ?_
                    refine eGo ⟨qM, trivial⟩ ?_
                    refine field_ptr ?_
                    refine field_ptr ?_
                    refine store4 3 0 rfl rfl (by decide) hvb'.one (by kernel_rfl) ?_
                    refine field_ptr ?_
                    refine field_ptr ?_
                    refine store4 3 1 rfl rfl (by decide) hvu'.one (by kernel_rfl) ?_
                    refine field_ptr ?_
                    refine store4 3 3 rfl rfl (by decide) hvl'.one (by kernel_rfl) ?_
                    exact again (lr, vb', vu', vl') ⟨hlr, hvb', hvu', hvl'⟩ trivial qF (Seals.sub qD)
                  · refine ordE_go [own4 (ptr0 s.r 0) s.vb s.vu s.vd s.vl] [7, 15, 22, 24] [9, 10, 17, 18, 25, 26, 27] [] [0, 1, 2, 3, 4, 5, 6, 7, 8, 11, 12, 13, 14, 15, 16, 19, 20, 21, 22, 23, 24, 9, 17, 10, 25, 26, 18, 27, 28, 29, 30, 31, 32, 33, 34, 35, 36, 37, 38] (by kernel_rfl) (by kernel_rfl) (by kernel_rfl) ?_
                    refine field_ptr ?_
                    refine field_ptr ?_
                    refine lookD (v := s.vb) ⟨qM, trivial⟩ rfl (lookE4 0 rfl (by decide)) ?_
                    refine field_ptr ?_
                    refine field_ptr ?_
                    refine lookD (v := s.vu) ⟨qM, trivial⟩ rfl (lookE4 1 rfl (by decide)) ?_
                    refine field_ptr ?_
                    refine lookD (v := s.vl) ⟨qM, trivial⟩ rfl (lookE4 3 rfl (by decide)) ?_
                    refine lookD (v := .int .i64 a.length) ⟨qM, trivial⟩ rfl (fun _ _ _ => len_eq hsv rfl) ?_
                    refine buildSlice_fact (size := 1) (n := 1) [sb' i] [.one (sb' i)] rfl rfl (by decide) (by decide) ⟨Reads.one hrow.one, rfl, trivial⟩ fun q1 => ?_
                    refine eGo ⟨qM, trivial⟩ ?_
                    refine buildSlice_fact (size := 1) (n := 1) [su' i] [.one (su' i)] rfl rfl (by decide) (by decide) ⟨Reads.one hone.one, rfl, trivial⟩ fun q2 => ?_
                    refine eGo ⟨qM, trivial⟩ ?_
                    first | refine append_one (size := 1) (n := i) (el' := fun y => [Dat.one (sb' i)].getD y (.one undef)) (e' := fun y => .one (sb' y)) 4 rfl hs.vb (Knw.fact qM) eb (by omega) (by omega) fun vb' hvb' => ?_ | refine append_one (size := 1) (n := i) (el' := fun y => [Dat.one (sb' i)].getD y (.one undef)) (e' := fun y => .one (sb' y)) 5 rfl hs.vb (Knw.fact qM) eb (by omega) (by omega) fun vb' hvb' => ?_
                    refine eGo ⟨qM, trivial⟩ ?_
                    refine make_rule (t := 22) (d := I false []) a.length rfl rfl (by omega) (by omega) fun lr hlr => ?_
                    refine eGo ⟨qM, trivial⟩ ?_
                    refine buildSlice_fact (size := 1) (n := 1) [lr] [.one lr] rfl rfl (by decide) (by decide) ⟨Reads.one hlr.one, rfl, trivial⟩ fun q3 => ?_
                    refine eGo ⟨qM, trivial⟩ ?_
                    first | refine append_one (size := 1) (n := i) (el' := fun y => [Dat.one (su' i)].getD y (.one undef)) (e' := fun y => .one (su' y)) 6 rfl hs.vu (Knw.fact qM) eu (by omega) (by omega) fun vu' hvu' => ?_ | refine append_one (size := 1) (n := i) (el' := fun y => [Dat.one (su' i)].getD y (.one undef)) (e' := fun y => .one (su' y)) 7 rfl hs.vu (Knw.fact qM) eu (by omega) (by omega) fun vu' hvu' => ?_
                    refine eGo ⟨qM, trivial⟩ ?_
                    refine append_one (size := 1) (n := i) (el' := fun y => [Dat.one lr].getD y (.one undef)) (e' := fun y => .one (if y < i then s.sl y else lr)) 10 rfl hs.vl (Knw.fact qM) (fun y _ => by by_cases e : y < i <;> simp [e]) (by omega) (by omega) fun vl' hvl' => ?_
                    refine eGo ⟨qM, trivial⟩ ?_
                    refine field_ptr ?_
                    refine field_ptr ?_
                    refine store4 3 0 rfl rfl (by decide) hvb'.one (by kernel_rfl) ?_
                    refine field_ptr ?_
                    refine field_ptr ?_
                    refine store4 3 1 rfl rfl (by decide) hvu'.one (by kernel_rfl) ?_
                    refine field_ptr ?_
                    refine store4 3 3 rfl rfl (by decide) hvl'.one (by kernel_rfl) ?_
                    exact again (lr, vb', vu', vl') ⟨hlr, hvb', hvu', hvl'⟩ trivial qF (Seals.sub qD)
              · refine ord_split 10 26 (by kernel_rfl) (by kernel_rfl) (by kernel_rfl) ?_ ?_
                · refine ord_split 17 25 (by kernel_rfl) (by kernel_rfl) (by kernel_rfl) ?_ ?_
                  · refine ord_split 18 26 (by kernel_rfl) (by kernel_rfl) (by kernel_rfl) ?_ ?_
                    · refine ordE_go [own4 (ptr0 s.r 0) s.vb s.vu s.vd s.vl] [7, 15, 22, 24] [9, 10, 17, 18, 25, 26, 27] [] [0, 1, 2, 3, 4, 5, 6, 7, 8, 11, 12, 13, 14, 15, 16, 19, 20, 21, 22, 23, 24, 9, 17, 25, 10, 18, 26, 27, 28, 29, 30, 31, 32, 33, 34, 35, 36, 37, 38] (by kernel_rfl) (by kernel_rfl) (by kernel_rfl) ?_
                      refine field_ptr ?_
                      refine field_ptr ?_
                      refine lookD (v := s.vb) ⟨qM, trivial⟩ rfl (lookE4 0 rfl (by decide)) ?_
                      refine field_ptr ?_
                      refine field_ptr ?_
                      refine lookD (v := s.vu) ⟨qM, trivial⟩ rfl (lookE4 1 rfl (by decide)) ?_
                      refine field_ptr ?_
                      refine lookD (v := s.vl) ⟨qM, trivial⟩ rfl (lookE4 3 rfl (by decide)) ?_
                      refine lookD (v := .int .i64 a.length) ⟨qM, trivial⟩ rfl (fun _ _ _ => len_eq hsv rfl) ?_
                      refine buildSlice_fact (size := 1) (n := 1) [sb' i] [.one (sb' i)] rfl rfl (by decide) (by decide) ⟨Reads.one hrow.one, rfl, trivial⟩ fun q1 => ?_
                      refine eGo ⟨qM, trivial⟩ ?_
                      refine buildSlice_fact (size := 1) (n := 1) [su' i] [.one (su' i)] rfl rfl (by decide) (by decide) ⟨Reads.one hone.one, rfl, trivial⟩ fun q2 => ?_
                      refine eGo ⟨qM, trivial⟩ ?_
                      refine make_rule (t := 22) (d := I false []) a.length rfl rfl (by omega) (by omega) fun lr hlr => ?_
                      refine eGo ⟨qM, trivial⟩ ?_
                      first | refine append_one (size := 1) (n := i) (el' := fun y => [Dat.one (sb' i)].getD y (.one undef)) (e' := fun y => .one (sb' y)) 4 rfl hs.vb (Knw.fact qM) eb (by omega) (by omega) fun vb' hvb' => ?_ | refine append_one (size := 1) (n := i) (el' := fun y => [Dat.one (sb' i)].getD y (.one undef)) (e' := fun y => .one (sb' y)) 5 rfl hs.vb (Knw.fact qM) eb (by omega) (by omega) fun vb' hvb' => ?_
                      refine eGo ⟨qM, trivial⟩ ?_
                      first | refine append_one (size := 1) (n := i) (el' := fun y => [Dat.one (su' i)].getD y (.one undef)) (e' := fun y => .one (su' y)) 6 rfl hs.vu (Knw.fact qM) eu (by omega) (by omega) fun vu' hvu' => ?_ | refine append_one (size := 1) (n := i) (el' := fun y => [Dat.one (su' i)].getD y (.one undef)) (e' := fun y => .one (su' y)) 7 rfl hs.vu (Knw.fact qM) eu (by omega) (by omega) fun vu' hvu' => ?_
                      refine eGo ⟨qM, trivial⟩ ?_
                      refine buildSlice_fact (size := 1) (n := 1) [lr] [.one lr] rfl rfl (by decide) (by decide) ⟨Reads.one hlr.one, rfl, trivial⟩ fun q3 => ?_
                      refine eGo ⟨qM, trivial⟩ ?_
                      refine append_one (size := 1) (n := i) (el' := fun y => [Dat.one lr].getD y (.one undef)) (e' := fun y => .one (if y < i then s.sl y else lr)) 10 rfl hs.vl (Knw.fact qM) (fun y _ => by by_cases e : y < i <;> simp [e]) (by omega) (by omega) fun vl' hvl' => ?_
                      refine eGo ⟨qM, trivial⟩ ?_
                      refine field_ptr ?_
                      refine field_ptr ?_
                      refine store4 3 0 rfl rfl (by decide) hvb'.one (by kernel_rfl) ?_
                      refine field_ptr ?_
                      refine field_ptr ?_
                      refine store4 3 1 rfl rfl (by decide) hvu'.one (by kernel_rfl) ?_
                      refine field_ptr ?_
                      refine store4 3 3 rfl rfl (by decide) hvl'.one (by kernel_rfl) ?_
                      exact again (lr, vb', vu', vl') ⟨hlr, hvb', hvu', hvl'⟩ trivial qF (Seals.sub qD)
                    · refine ordE_go [own4 (ptr0 s.r 0) s.vb s.vu s.vd s.vl] [7, 15, 22, 24] [9, 10, 17, 18, 25, 26, 27] [] [0, 1, 2, 3, 4, 5, 6, 7, 8, 11, 12, 13, 14, 15, 16, 19, 20, 21, 22, 23, 24, 9, 17, 25, 10, 26, 18, 27, 28, 29, 30, 31, 32, 33, 34, 35, 36, 37, 38] (by kernel_rfl) (by kernel_rfl) (by kernel_rfl) ?_
                      refine field_ptr ?_
                      refine field_ptr ?_
                      refine lookD (v := s.vb) ⟨qM, trivial⟩ rfl (lookE4 0 rfl (by decide)) ?_
                      refine field_ptr ?_
                      refine field_ptr ?_
                      refine lookD (v := s.vu) ⟨qM, trivial⟩ rfl (lookE4 1 rfl (by decide)) ?_
                      refine field_ptr ?_
                      refine lookD (v := s.vl) ⟨qM, trivial⟩ rfl (lookE4 3 rfl (by decide)) ?_
                      refine lookD (v := .int .i64 a.length) ⟨qM, trivial⟩ rfl (fun _ _ _ => len_eq hsv rfl) ?_
                      refine buildSlice_fact (size := 1) (n := 1) [sb' i] [.one (sb' i)] rfl rfl (by decide) (by decide) ⟨Reads.one hrow.one, rfl, trivial⟩ fun q1 => ?_
                      refine eGo ⟨qM, trivial⟩ ?_
                      refine buildSlice_fact (size := 1) (n := 1) [su' i] [.one (su' i)] rfl rfl (by decide) (by decide) ⟨Reads.one hone.one, rfl, trivial⟩ fun q2 => ?_
                      refine eGo ⟨qM, trivial⟩ ?_
                      refine make_rule (t := 22) (d := I false []) a.length rfl rfl (by omega) (by omega) fun lr hlr => ?_
                      refine eGo ⟨qM, trivial⟩ ?_
                      first | refine append_one (size := 1) (n := i) (el' := fun y => [Dat.one (sb' i)].getD y (.one undef)) (e' := fun y => .one (sb' y)) 4 rfl hs.vb (Knw.fact qM) eb (by omega) (by omega) fun vb' hvb' => ?_ | refine append_one (size := 1) (n := i) (el' := fun y => [Dat.one (sb' i)].getD y (.one undef)) (e' := fun y => .one (sb' y)) 5 rfl hs.vb (Knw.fact qM) eb (by omega) (by omega) fun vb' hvb' => ?_
                      refine eGo ⟨qM, trivial⟩ ?_
                      refine buildSlice_fact (size := 1) (n := 1) [lr] [.one lr] rfl rfl (by decide) (by decide) ⟨Reads.one hlr.one, rfl, trivial⟩ fun q3 => ?_
                      refine eGo ⟨qM, trivial⟩ ?_
                      first | refine append_one (size := 1) (n := i) (el' := fun y => [Dat.one (su' i)].getD y (.one undef)) (e' := fun y => .one (su' y)) 6 rfl hs.vu (Knw.fact qM) eu (by omega) (by omega) fun vu' hvu' => ?_ | refine append_one (size := 1) (n := i) (el' := fun y => [Dat.one (su' i)].getD y (.one undef)) (e' := fun y => .one (su' y)) 7 rfl hs.vu (Knw.fact qM) eu (by omega) (by omega) fun vu' hvu' => ?_
                      refine eGo ⟨qM, trivial⟩ ?_
                      refine append_one (size := 1) (n := i) (el' := fun y => [Dat.one lr].getD y (.one undef)) (e' := fun y => .one (if y < i then s.sl y else lr)) 10 rfl hs.vl (Knw.fact qM) (fun y _ => by by_cases e : y < i <;> simp [e]) (by omega) (by omega) fun vl' hvl' => ?_
                      refine eGo ⟨qM, trivial⟩ ?_
                      refine field_ptr ?_
                      refine field_ptr ?_
                      refine store4 3 0 rfl rfl (by decide) hvb'.one (by kernel_rfl) ?_
                      refine field_ptr ?_
                      refine field_ptr ?_
                      refine store4 3 1 rfl rfl (by decide) hvu'.one (by kernel_rfl) ?_
                      refine field_ptr ?_
                      refine store4 3 3 rfl rfl (by decide) hvl'.one (by kernel_rfl) ?_
                      exact again (lr, vb', vu', vl') ⟨hlr, hvb', hvu', hvl'⟩ trivial qF (Seals.sub qD)
                  · refine ord_split 18 26 (by kernel_rfl) (by kernel_rfl) (by kernel_rfl) ?_ ?_
                    · refine ordE_go [own4 (ptr0 s.r 0) s.vb s.vu s.vd s.vl] [7, 15, 22, 24] [9, 10, 17, 18, 25, 26, 27] [] [0, 1, 2, 3, 4, 5, 6, 7, 8, 11, 12, 13, 14, 15, 16, 19, 20, 21, 22, 23, 24, 9, 25, 17, 10, 18, 26, 27, 28, 29, 30, 31, 32, 33, 34, 35, 36, 37, 38] (by kernel_rfl) (by kernel_rfl) (by kernel_rfl) ?_
                      refine field_ptr ?_
                      refine field_ptr ?_
                      refine lookD (v := s.vb) ⟨qM, trivial⟩ rfl (lookE4 0 rfl (by decide)) ?_
                      refine field_ptr ?_
                      refine field_ptr ?_
                      refine lookD (v := s.vu) ⟨qM, trivial⟩ rfl (lookE4 1 rfl (by decide)) ?_
                      refine field_ptr ?_
                      refine lookD (v := s.vl) ⟨qM, trivial⟩ rfl (lookE4 3 rfl (by decide)) ?_
                      refine lookD (v := .int .i64 a.length) ⟨qM, trivial⟩ rfl (fun _ _ _ => len_eq hsv rfl) ?_
                      refine buildSlice_fact (size := 1) (n := 1) [sb' i] [.one (sb' i)] rfl rfl (by decide) (by decide) ⟨Reads.one hrow.one, rfl, trivial⟩ fun q1 => ?_
                      refine eGo ⟨qM, trivial⟩ ?_
                      refine make_rule (t := 22) (d := I false []) a.length rfl rfl (by omega) (by omega) fun lr hlr => ?_
                      refine eGo ⟨qM, trivial⟩ ?_
                      refine buildSlice_fact (size := 1) (n := 1) [su' i] [.one (su' i)] rfl rfl (by decide) (by decide) ⟨Reads.one hone.one, rfl, trivial⟩ fun q2 => ?_
                      refine eGo ⟨qM, trivial⟩ ?_
                      first | refine append_one (size := 1) (n := i) (el' := fun y => [Dat.one (sb' i)].getD y (.one undef)) (e' := fun y => .one (sb' y)) 4 rfl hs.vb (Knw.fact qM) eb (by omega) (by omega) fun vb' hvb' => ?_ | refine append_one (size := 1) (n := i) (el' := fun y => [Dat.one (sb' i)].getD y (.one undef)) (e' := fun y => .one (sb' y)) 5 rfl hs.vb (Knw.fact qM) eb (by omega) (by omega) fun vb' hvb' => ?_
                      refine eGo ⟨qM, trivial⟩ ?_
                      first | refine append_one (size := 1) (n := i) (el' := fun y => [Dat.one (su' i)].getD y (.one undef)) (e' := fun y => .one (su' y)) 6 rfl hs.vu (Knw.fact qM) eu (by omega) (by omega) fun vu' hvu' => ?_ | refine append_one (size := 1) (n := i) (el' := fun y => [Dat.one (su' i)].getD y (.one undef)) (e' := fun y => .one (su' y)) 7 rfl hs.vu (Knw.fact qM) eu (by omega) (by omega) fun vu' hvu' => ?_
                      refine eGo ⟨qM, trivial⟩ ?_
                      refine buildSlice_fact (size := 1) (n := 1) [lr] [.one lr] rfl rfl (by decide) (by decide) ⟨Reads.one hlr.one, rfl, trivial⟩ fun q3 => ?_
                      refine eGo ⟨qM, trivial⟩ ?_
                      refine append_one (size := 1) (n := i) (el' := fun y => [Dat.one lr].getD y (.one undef)) (e' := fun y => .one (if y < i then s.sl y else lr)) 10 rfl hs.vl (Knw.fact qM) (fun y _ => by by_cases e : y < i <;> simp [e]) (by omega) (by omega) fun vl' hvl' => ?_
                      refine eGo ⟨qM, trivial⟩ ?_
                      refine field_ptr ?_
                      refine field_ptr ?_
                      refine store4 3 0 rfl rfl (by decide) hvb'.one (by kernel_rfl) ?_
                      refine field_ptr ?_
                      refine field_ptr ?_
                      refine store4 3 1 rfl rfl (by decide) hvu'.one (by kernel_rfl) ?_
                      refine field_ptr ?_
                      refine store4 3 3 rfl rfl (by decide) hvl'.one (by kernel_rfl) ?_
                      exact again (lr, vb', vu', vl') ⟨hlr, hvb', hvu', hvl'⟩ trivial qF (Seals.sub qD)
                    · refine ordE_go [own4 (ptr0 s.r 0) s.vb s.vu s.vd s.vl] [7, 15, 22, 24] [9, 10, 17, 18, 25, 26, 27] [] [0, 1, 2, 3, 4, 5, 6, 7, 8, 11, 12, 13, 14, 15, 16, 19, 20, 21, 22, 23, 24, 9, 25, 17, 10, 26, 18, 27, 28, 29, 30, 31, 32, 33, 34, 35, 36, 37, 38] (by kernel_rfl) (by kernel_rfl) (by kernel_rfl) ?_
                      refine field_ptr ?_
                      refine field_ptr ?_
                      refine lookD (v := s.vb) ⟨qM, trivial⟩ rfl (lookE4 0 rfl (by decide)) ?_
                      refine field_ptr ?_
                      refine field_ptr ?_
                      refine lookD (v := s.vu) ⟨qM, trivial⟩ rfl (lookE4 1 rfl (by decide)) ?_
                      refine field_ptr ?_
                      refine lookD (v := s.vl) ⟨qM, trivial⟩ rfl (lookE4 3 rfl (by decide)) ?_
                      refine lookD (v := .int .i64 a.length) ⟨qM, trivial⟩ rfl (fun _ _ _ => len_eq hsv rfl) ?_
                      refine buildSlice_fact (size := 1) (n := 1) [sb' i] [.one (sb' i)] rfl rfl (by decide) (by decide) ⟨Reads.one hrow.one, rfl, trivial⟩ fun q1 => ?_
                      refine eGo ⟨qM, trivial⟩ ?_
                      refine make_rule (t := 22) (d := I false []) a.length rfl rfl (by omega) (by omega) fun lr hlr => ?_
                      refine eGo ⟨qM, trivial⟩ ?_
                      refine buildSlice_fact (size := 1) (n := 1) [su' i] [.one (su' i)] rfl rfl (by decide) (by decide) ⟨Reads.one hone.one, rfl, trivial⟩ fun q2 => ?_
                      refine eGo ⟨qM, trivial⟩ ?_
                      first | refine append_one (size := 1) (n := i) (el' := fun y => [Dat.one (sb' i)].getD y (.one undef)) (e' := fun y => .one (sb' y)) 4 rfl hs.vb (Knw.fact qM) eb (by omega) (by omega) fun vb' hvb' => ?_ | refine append_one (size := 1) (n := i) (el' := fun y => [Dat.one (sb' i)].getD y (.one undef)) (e' := fun y => .one (sb' y)) 5 rfl hs.vb (Knw.fact qM) eb (by omega) (by omega) fun vb' hvb' => ?_
                      refine eGo ⟨qM, trivial⟩ ?_
                      refine buildSlice_fact (size := 1) (n := 1) [lr] [.one lr] rfl rfl (by decide) (by decide) ⟨Reads.one hlr.one, rfl, trivial⟩ fun q3 => ?_
                      refine eGo ⟨qM, trivial⟩ ?_
                      first | refine append_one (size := 1) (n := i) (el' := fun y => [Dat.one (su' i)].getD y (.one undef)) (e' := fun y => .one (su' y)) 6 rfl hs.vu (Knw.fact qM) eu (by omega) (by omega) fun vu' hvu' => ?_ | refine append_one (size := 1) (n := i) (el' := fun y => [Dat.one (su' i)].getD y (.one undef)) (e' := fun y => .one (su' y)) 7 rfl hs.vu (Knw.fact qM) eu (by omega) (by omega) fun vu' hvu' => ?_
                      refine eGo ⟨qM, trivial⟩ ?_
                      refine append_one (size := 1) (n := i) (el' := fun y => [Dat.one lr].getD y (.one undef)) (e' := fun y => .one (if y < i then s.sl y else lr)) 10 rfl hs.vl (Knw.fact qM) (fun y _ => by by_cases e : y < i <;> simp [e]) (by omega) (by omega) fun vl' hvl' => ?_
                      refine eGo ⟨qM, trivial⟩ ?_
                      refine field_ptr ?_
                      refine field_ptr ?_
                      refine store4 3 0 rfl rfl (by decide) hvb'.one (by kernel_rfl) ?_
                      refine field_ptr ?_
                      refine field_ptr ?_
                      refine store4 3 1 rfl rfl (by decide) hvu'.one (by kernel_rfl) ?_
                      refine field_ptr ?_
                      refine store4 3 3 rfl rfl (by decide) hvl'.one (by kernel_rfl) ?_
                      exact again (lr, vb', vu', vl') ⟨hlr, hvb', hvu', hvl'⟩ trivial qF (Seals.sub qD)
                · refine ord_split 17 25 (by kernel_rfl) (by kernel_rfl) (by kernel_rfl) ?_ ?_
                  · refine ordE_go [own4 (ptr0 s.r 0) s.vb s.vu s.vd s.vl] [7, 15, 22, 24] [9, 10, 17, 18, 25, 26, 27] [] [0, 1, 2, 3, 4, 5, 6, 7, 8, 11, 12, 13, 14, 15, 16, 19, 20, 21, 22, 23, 24, 9, 17, 25, 26, 10, 18, 27, 28, 29, 30, 31, 32, 33, 34, 35, 36, 37, 38] (by kernel_rfl) (by kernel_rfl) (by kernel_rfl) ?_
                    refine field_ptr ?_
                    refine field_ptr ?_
                    refine lookD (v := s.vb) ⟨qM, trivial⟩ rfl (lookE4 0 rfl (by decide)) ?_
                    refine field_ptr ?_
                    refine field_ptr ?_
                    refine lookD (v := s.vu) ⟨qM, trivial⟩ rfl (lookE4 1 rfl (by decide)) ?_
                    refine field_ptr ?_
                    refine lookD (v := s.vl) ⟨qM, trivial⟩ rfl (lookE4 3 rfl (by decide)) ?_
                    refine lookD (v := .int .i64 a.length) ⟨qM, trivial⟩ rfl (fun _ _ _ => len_eq hsv rfl) ?_
                    refine buildSlice_fact (size := 1) (n := 1) [sb' i] [.one (sb' i)] rfl rfl (by decide) (by decide) ⟨Reads.one hrow.one, rfl, trivial⟩ fun q1 => ?_
                    refine eGo ⟨qM, trivial⟩ ?_
                    refine buildSlice_fact (size := 1) (n := 1) [su' i] [.one (su' i)] rfl rfl (by decide) (by decide) ⟨Reads.one hone.one, rfl, trivial⟩ fun q2 => ?_
                    refine eGo ⟨qM, trivial⟩ ?_
                    refine make_rule (t := 22) (d := I false []) a.length rfl rfl (by omega) (by omega) fun lr hlr => ?_
                    refine eGo ⟨qM, trivial⟩ ?_
                    refine buildSlice_fact (size := 1) (n := 1) [lr] [.one lr] rfl rfl (by decide) (by decide) ⟨Reads.one hlr.one, rfl, trivial⟩ fun q3 => ?_
                    refine eGo ⟨qM, trivial⟩ ?_
                    first | refine append_one (size := 1) (n := i) (el' := fun y => [Dat.one (sb' i)].getD y (.one undef)) (e' := fun y => .one (sb' y)) 4 rfl hs.vb (Knw.fact qM) eb (by omega) (by omega) fun vb' hvb' => ?_ | refine append_one (size := 1) (n := i) (el' := fun y => [Dat.one (sb' i)].getD y (.one undef)) (e' := fun y => .one (sb' y)) 5 rfl hs.vb (Knw.fact qM) eb (by omega) (by omega) fun vb' hvb' => ?_
                    refine eGo ⟨qM, trivial⟩ ?_
                    first | refine append_one (size := 1) (n := i) (el' := fun y => [Dat.one (su' i)].getD y (.one undef)) (e' := fun y => .one (su' y)) 6 rfl hs.vu (Knw.fact qM) eu (by omega) (by omega) fun vu' hvu' => ?_ | refine append_one (size := 1) (n := i) (el' := fun y => [Dat.one (su' i)].getD y (.one undef)) (e' := fun y => .one (su' y)) 7 rfl hs.vu (Knw.fact qM) eu (by omega) (by omega) fun vu' hvu' => ?_
                    refine eGo ⟨qM, trivial⟩ ?_
                    refine append_one (size := 1) (n := i) (el' := fun y => [Dat.one lr].getD y (.one undef)) (e' := fun y => .one (if y < i then s.sl y else lr)) 10 rfl hs.vl (Knw.fact qM) (fun y _ => by by_cases e : y < i <;> simp [e]) (by omega) (by omega) fun vl' hvl' => ?_
                    refine eGo ⟨qM, trivial⟩ ?_
                    refine field_ptr ?_
                    refine field_ptr ?_
                    refine store4 3 0 rfl rfl (by decide) hvb'.one (by kernel_rfl) ?_
                    refine field_ptr ?_
                    refine field_ptr ?_
                    refine store4 3 1 rfl rfl (by decide) hvu'.one (by kernel_rfl) ?_
                    refine field_ptr ?_
                    refine store4 3 3 rfl rfl (by decide) hvl'.one (by kernel_rfl) ?_
                    exact again (lr, vb', vu', vl') ⟨hlr, hvb', hvu', hvl'⟩ trivial qF (Seals.sub qD)
                  · refine ord_split 17 26 (by kernel_rfl) (by kernel_rfl) (by kernel_rfl) ?_ ?_
                    · refine ordE_go [own4 (ptr0 s.r 0) s.vb s.vu s.vd s.vl] [7, 15, 22, 24] [9, 10, 17, 18, 25, 26, 27] [] [0, 1, 2, 3, 4, 5, 6, 7, 8, 11, 12, 13, 14, 15, 16, 19, 20, 21, 22, 23, 24, 9, 25, 17, 26, 10, 18, 27, 28, 29, 30, 31, 32, 33, 34, 35, 36, 37, 38] (by kernel_rfl) (by kernel_rfl) (by kernel_rfl) ?_
                      refine field_ptr ?_
                      refine field_ptr ?_
                      refine lookD (v := s.vb) ⟨qM, trivial⟩ rfl (lookE4 0 rfl (by decide)) ?_
                      refine field_ptr ?_
                      refine field_ptr ?_
                      refine lookD (v := s.vu) ⟨qM, trivial⟩ rfl (lookE4 1 rfl (by decide)) ?_
                      refine field_ptr ?_
                      refine lookD (v := s.vl) ⟨qM, trivial⟩ rfl (lookE4 3 rfl (by decide)) ?_
                      refine lookD (v := .int .i64 a.length) ⟨qM, trivial⟩ rfl (fun _ _ _ => len_eq hsv rfl) ?_
                      refine buildSlice_fact (size := 1) (n := 1) [sb' i] [.one (sb' i)] rfl rfl (by decide) (by decide) ⟨Reads.one hrow.one, rfl, trivial⟩ fun q1 => ?_
                      refine eGo ⟨qM, trivial⟩ ?_
                      refine make_rule (t := 22) (d := I false []) a.length rfl rfl (by omega) (by omega) fun lr hlr => ?_
                      refine eGo ⟨qM, trivial⟩ ?_
                      refine buildSlice_fact (size := 1) (n := 1) [su' i] [.one (su' i)] rfl rfl (by decide) (by decide) ⟨Reads.one hone.one, rfl, trivial⟩ fun q2 => ?_
                      refine eGo ⟨qM, trivial⟩ ?_
                      refine buildSlice_fact (size := 1) (n := 1) [lr] [.one lr] rfl rfl (by decide) (by decide) ⟨Reads.one hlr.one, rfl, trivial⟩ fun q3 => ?_
                      refine eGo ⟨qM, trivial⟩ ?_
                      first | refine append_one (size := 1) (n := i) (el' := fun y => [Dat.one (sb' i)].getD y (.one undef)) (e' := fun y => .one (sb' y)) 4 rfl hs.vb (Knw.fact qM) eb (by omega) (by omega) fun vb' hvb' => ?_ | refine append_one (size := 1) (n := i) (el' := fun y => [Dat.one (sb' i)].getD y (.one undef)) (e' := fun y => .one (sb' y)) 5 rfl hs.vb (Knw.fact qM) eb (by omega) (by omega) fun vb' hvb' => ?_
                      refine eGo ⟨qM, trivial⟩ ?_
                      first | refine append_one (size := 1) (n := i) (el' := fun y => [Dat.one (su' i)].getD y (.one undef)) (e' := fun y => .one (su' y)) 6 rfl hs.vu (Knw.fact qM) eu (by omega) (by omega) fun vu' hvu' => ?_ | refine append_one (size := 1) (n := i) (el' := fun y => [Dat.one (su' i)].getD y (.one undef)) (e' := fun y => .one (su' y)) 7 rfl hs.vu (Knw.fact qM) eu (by omega) (by omega) fun vu' hvu' => ?_
                      refine eGo ⟨qM, trivial⟩ ?_
                      refine append_one (size := 1) (n := i) (el' := fun y => [Dat.one lr].getD y (.one undef)) (e' := fun y => .one (if y < i then s.sl y else lr)) 10 rfl hs.vl (Knw.fact qM) (fun y _ => by by_cases e : y < i <;> simp [e]) (by omega) (by omega) fun vl' hvl' => ?_
                      refine eGo ⟨qM, trivial⟩ ?_
                      refine field_ptr ?_
                      refine field_ptr ?_
                      refine store4 3 0 rfl rfl (by decide) hvb'.one (by kernel_rfl) ?_
                      refine field_ptr ?_
                      refine field_ptr ?_
                      refine store4 3 1 rfl rfl (by decide) hvu'.one (by kernel_rfl) ?_
                      refine field_ptr ?_
                      refine store4 3 3 rfl rfl (by decide) hvl'.one (by kernel_rfl) ?_
                      exact again (lr, vb', vu', vl') ⟨hlr, hvb', hvu', hvl'⟩ trivial qF (Seals.sub qD)
                    · refine ordE_go [own4 (ptr0 s.r 0) s.vb s.vu s.vd s.vl] [7, 15, 22, 24] [9, 10, 17, 18, 25, 26, 27] [] [0, 1, 2, 3, 4, 5, 6, 7, 8, 11, 12, 13, 14, 15, 16, 19, 20, 21, 22, 23, 24, 9, 25, 26, 17, 10, 18, 27, 28, 29, 30, 31, 32, 33, 34, 35, 36, 37, 38] (by kernel_rfl) (by kernel_rfl) (by kernel_rfl) ?_
                      refine field_ptr ?_
                      refine field_ptr ?_
                      refine lookD (v := s.vb) ⟨qM, trivial⟩ rfl (lookE4 0 rfl (by decide)) ?_
                      refine field_ptr ?_
                      refine field_ptr ?_
                      refine lookD (v := s.vu) ⟨qM, trivial⟩ rfl (lookE4 1 rfl (by decide)) ?_
                      refine field_ptr ?_
                      refine lookD (v := s.vl) ⟨qM, trivial⟩ rfl (lookE4 3 rfl (by decide)) ?_
                      refine lookD (v := .int .i64 a.length) ⟨qM, trivial⟩ rfl (fun _ _ _ => len_eq hsv rfl) ?_
                      refine buildSlice_fact (size := 1) (n := 1) [sb' i] [.one (sb' i)] rfl rfl (by decide) (by decide) ⟨Reads.one hrow.one, rfl, trivial⟩ fun q1 => ?_
                      refine eGo ⟨qM, trivial⟩ ?_
                      refine make_rule (t := 22) (d := I false []) a.length rfl rfl (by omega) (by omega) fun lr hlr => ?_
                      refine eGo ⟨qM, trivial⟩ ?_
                      refine buildSlice_fact (size := 1) (n := 1) [lr] [.one lr] rfl rfl (by decide) (by decide) ⟨Reads.one hlr.one, rfl, trivial⟩ fun q3 => ?_
                      refine eGo ⟨qM, trivial⟩ ?_
                      refine buildSlice_fact (size := 1) (n := 1) [su' i] [.one (su' i)] rfl rfl (by decide) (by decide) ⟨Reads.one hone.one, rfl, trivial⟩ fun q2 => ?_
                      refine eGo ⟨qM, trivial⟩ ?_
                      first | refine append_one (size := 1) (n := i) (el' := fun y => [Dat.one (sb' i)].getD y (.one undef)) (e' := fun y => .one (sb' y)) 4 rfl hs.vb (Knw.fact qM) eb (by omega) (by omega) fun vb' hvb' => ?_ | refine append_one (size := 1) (n := i) (el' := fun y => [Dat.one (sb' i)].getD y (.one undef)) (e' := fun y => .one (sb' y)) 5 rfl hs.vb (Knw.fact qM) eb (by omega) (by omega) fun vb' hvb' => ?_
                      refine eGo ⟨qM, trivial⟩ ?_
                      first | refine append_one (size := 1) (n := i) (el' := fun y => [Dat.one (su' i)].getD y (.one undef)) (e' := fun y => .one (su' y)) 6 rfl hs.vu (Knw.fact qM) eu (by omega) (by omega) fun vu' hvu' => ?_ | refine append_one (size := 1) (n := i) (el' := fun y => [Dat.one (su' i)].getD y (.one undef)) (e' := fun y => .one (su' y)) 7 rfl hs.vu (Knw.fact qM) eu (by omega) (by omega) fun vu' hvu' => ?_
                      refine eGo ⟨qM, trivial⟩ ?_
                      refine append_one (size := 1) (n := i) (el' := fun y => [Dat.one lr].getD y (.one undef)) (e' := fun y => .one (if y < i then s.sl y else lr)) 10 rfl hs.vl (Knw.fact qM) (fun y _ => by by_cases e : y < i <;> simp [e]) (by omega) (by omega) fun vl' hvl' => ?_
                      refine eGo ⟨qM, trivial⟩ ?_
                      refine field_ptr ?_
                      refine field_ptr ?_
                      refine store4 3 0 rfl rfl (by decide) hvb'.one (by kernel_rfl) ?_
                      refine field_ptr ?_
                      refine field_ptr ?_
                      refine store4 3 1 rfl rfl (by decide) hvu'.one (by kernel_rfl) ?_
                      refine field_ptr ?_
                      refine store4 3 3 rfl rfl (by decide) hvl'.one (by kernel_rfl) ?_
                      exact again (lr, vb', vu', vl') ⟨hlr, hvb', hvu', hvl'⟩ trivial qF (Seals.sub qD)
          · refine ord_split 9 26 (by kernel_rfl) (by kernel_rfl) (by kernel_rfl) ?_ ?_
            · refine ord_split 10 17 (by kernel_rfl) (by kernel_rfl) (by kernel_rfl) ?_ ?_
              · refine ord_split 10 26 (by kernel_rfl) (by kernel_rfl) (by kernel_rfl) ?_ ?_
                · refine ord_split 17 26 (by kernel_rfl) (by kernel_rfl) (by kernel_rfl) ?_ ?_
                  · refine ord_split 18 26 (by kernel_rfl) (by kernel_rfl) (by kernel_rfl) ?_ ?_
                    · refine ordE_go [own4 (ptr0 s.r 0) s.vb s.vu s.vd s.vl] [7, 15, 22, 24] [9, 10, 17, 18, 25, 26, 27] [] [0, 1, 2, 3, 4, 5, 6, 7, 8, 11, 12, 13, 14, 15, 16, 19, 20, 21, 22, 23, 24, 25, 9, 10, 17, 18, 26, 27, 28, 29, 30, 31, 32, 33, 34, 35, 36, 37, 38] (by kernel_rfl) (by kernel_rfl) (by kernel_rfl) ?_
                      refine field_ptr ?_
                      refine field_ptr ?_
                      refine lookD (v := s.vb) ⟨qM, trivial⟩ rfl (lookE4 0 rfl (by decide)) ?_
                      refine field_ptr ?_
                      refine field_ptr ?_
                      refine lookD (v := s.vu) ⟨qM, trivial⟩ rfl (lookE4 1 rfl (by decide)) ?_
                      refine field_ptr ?_
                      refine lookD (v := s.vl) ⟨qM, trivial⟩ rfl (lookE4 3 rfl (by decide)) ?_
                      refine lookD (v := .int .i64 a.length) ⟨qM, trivial⟩ rfl (fun _ _ _ => len_eq hsv rfl) ?_
                      refine make_rule (t := 22) (d := I false []) a.length rfl rfl (by omega) (by omega) fun lr hlr => ?_
                      refine eGo ⟨qM, trivial⟩ ?_
                      refine buildSlice_fact (size := 1) (n := 1) [sb' i] [.one (sb' i)] rfl rfl (by decide) (by decide) ⟨Reads.one hrow.one, rfl, trivial⟩ fun q1 => ?_
                      refine eGo ⟨qM, trivial⟩ ?_
                      first | refine append_one (size := 1) (n := i) (el' := fun y => [Dat.one (sb' i)].getD y (.one undef)) (e' := fun y => .one (sb' y)) 4 rfl hs.vb (Knw.fact qM) eb (by omega) (by omega) fun vb' hvb' => ?_ | refine append_one (size := 1) (n := i) (el' := fun y => [Dat.one (sb' i)].getD y (.one undef)) (e' := fun y => .one (sb' y)) 5 rfl hs.vb (Knw.fact qM) eb (by omega) (by omega) fun vb' hvb' => ?_
                      refine eGo ⟨qM, trivial⟩ ?_
                      refine buildSlice_fact (size := 1) (n := 1) [su' i] [.one (su' i)] rfl rfl (by decide) (by decide) ⟨Reads.one hone.one, rfl, trivial⟩ fun q2 => ?_
                      refine eGo ⟨qM, trivial⟩ ?_
                      first | refine append_one (size := 1) (n := i) (el' := fun y => [Dat.one (su' i)].getD y (.one undef)) (e' := fun y => .one (su' y)) 6 rfl hs.vu (Knw.fact qM) eu (by omega) (by omega) fun vu' hvu' => ?_ | refine append_one (size := 1) (n := i) (el' := fun y => [Dat.one (su' i)].getD y (.one undef)) (e' := fun y => .one (su' y)) 7 rfl hs.vu (Knw.fact qM) eu (by omega) (by omega) fun vu' hvu' => ?_
                      refine eGo ⟨qM, trivial⟩ ?_
                      refine buildSlice_fact (size := 1) (n := 1) [lr] [.one lr] rfl rfl (by decide) (by decide) ⟨Reads.one hlr.one, rfl, trivial⟩ fun q3 => ?_
                      refine eGo ⟨qM, trivial⟩ ?_
                      refine append_one (size := 1) (n := i) (el' := fun y => [Dat.one lr].getD y (.one undef)) (e' := fun y => .one (if y < i then s.sl y else lr)) 10 rfl hs.vl (Knw.fact qM) (fun y _ => by by_cases e : y < i <;> simp [e]) (by omega) (by omega) fun vl' hvl' => ?_
                      refine eGo ⟨qM, trivial⟩ ?_
                      refine field_ptr ?_
                      refine field_ptr ?_
                      refine store4 3 0 rfl rfl (by decide) hvb'.one (by kernel_rfl) ?_
                      refine field_ptr ?_
                      refine field_ptr ?_
                      refine store4 3 1 rfl rfl (by decide) hvu'.one (by kernel_rfl) ?_
                      refine field_ptr ?_
                      refine store4 3 3 rfl rfl (by decide) hvl'.one (by kernel_rfl) ?_
                      exact again (lr, vb', vu', vl') ⟨hlr, hvb', hvu', hvl'⟩ trivial qF (Seals.sub qD)
                    · refine ordE_go [own4 (ptr0 s.r 0) s.vb s.vu s.vd s.vl] [7, 15, 22, 24] [9, 10, 17, 18, 25, 26, 27] [] [0, 1, 2, 3, 4, 5, 6, 7, 8, 11, 12, 13, 14, 15, 16, 19, 20, 21, 22, 23, 24, 25, 9, 10, 17, 26, 18, 27, 28, 29, 30, 31, 32, 33, 34, 35, 36, 37, 38] (by kernel_rfl) (by kernel_rfl) (by kernel_rfl) ?_
                      refine field_ptr ?_
                      refine field_ptr ?_
                      refine lookD (v := s.vb) ⟨qM, trivial⟩ rfl (lookE4 0 rfl (by decide)) ?_
                      refine field_ptr ?_
                      refine field_ptr ?_
                      refine lookD (v := s.vu) ⟨qM, trivial⟩ rfl (lookE4 1 rfl (by decide)) ?_
                      refine field_ptr ?_
                      refine lookD (v := s.vl) ⟨qM, trivial⟩ rfl (lookE4 3 rfl (by decide)) ?_
                      refine lookD (v := .int .i64 a.length) ⟨qM, trivial⟩ rfl (fun _ _ _ => len_eq hsv rfl) ?_
                      refine make_rule (t := 22) (d := I false []) a.length rfl rfl (by omega) (by omega) fun lr hlr => ?_
                      refine eGo ⟨qM, trivial⟩ ?_
                      refine buildSlice_fact (size := 1) (n := 1) [sb' i] [.one (sb' i)] rfl rfl (by decide) (by decide) ⟨Reads.one hrow.one, rfl, trivial⟩ fun q1 => ?_
                      refine eGo ⟨qM, trivial⟩ ?_
                      first | refine append_one (size := 1) (n := i) (el' := fun y => [Dat.one (sb' i)].getD y (.one undef)) (e' := fun y => .one (sb' y)) 4 rfl hs.vb (Knw.fact qM) eb (by omega) (by omega) fun vb' hvb' => ?_ | refine append_one (size := 1) (n := i) (el' := fun y => [Dat.one (sb' i)].getD y (.one undef)) (e' := fun y => .one (sb' y)) 5 rfl hs.vb (Knw.fact qM) eb (by omega) (by omega) fun vb' hvb' => ?_
                      refine eGo ⟨qM, trivial⟩ ?_
                      refine buildSlice_fact (size := 1) (n := 1) [su' i] [.one (su' i)] rfl rfl (by decide) (by decide) ⟨Reads.one hone.one, rfl, trivial⟩ fun q2 => ?_
                      refine eGo ⟨qM, trivial⟩ ?_
                      refine buildSlice_fact (size := 1) (n := 1) [lr] [.one lr] rfl rfl (by decide) (by decide) ⟨Reads.one hlr.one, rfl, trivial⟩ fun q3 => ?_
                      refine eGo ⟨qM, trivial⟩ ?_
                      first | refine append_one (size := 1) (n := i) (el' := fun y => [Dat.one (su' i)].getD y (.one undef)) (e' := fun y => .one (su' y)) 6 rfl hs.vu (Knw.fact qM) eu (by omega) (by omega) fun vu' hvu' => ?_ | refine append_one (size := 1) (n := i) (el' := fun y => [Dat.one (su' i)].getD y (.one undef)) (e' := fun y => .one (su' y)) 7 rfl hs.vu (Knw.fact qM) eu (by omega) (by omega) fun vu' hvu' => ?_
                      refine eGo ⟨qM, trivial⟩ ?_
                      refine append_one (size := 1) (n := i) (el' := fun y => [Dat.one lr].getD y (.one undef)) (e' := fun y => .one (if y < i then s.sl y else lr)) 10 rfl hs.vl (Knw.fact qM) (fun y _ => by by_cases e : y < i <;> simp [e]) (by omega) (by omega) fun vl' hvl' => ?_
                      refine eGo ⟨qM, trivial⟩ ?_
                      refine field_ptr ?_
                      refine field_ptr ?_
                      refine store4 3 0 rfl rfl (by decide) hvb'.one (by kernel_rfl) ?_
                      refine field_ptr ?_
                      refine field_ptr ?_
                      refine store4 3 1 rfl rfl (by decide) hvu'.one (by kernel_rfl) ?_
                      refine field_ptr ?_
                      refine store4 3 3 rfl rfl (by decide) hvl'.one (by kernel_rfl) ?_
                      exact again (lr, vb', vu', vl') ⟨hlr, hvb', hvu', hvl'⟩ trivial qF (Seals.sub qD)
                  · refine ordE_go [own4 (ptr0 s.r 0) s.vb s.vu s.vd s.vl] [7, 15, 22, 24] [9, 10, 17, 18, 25, 26, 27] [] [0, 1, 2, 3, 4, 5, 6, 7, 8, 11, 12, 13, 14, 15, 16, 19, 20, 21, 22, 23, 24, 25, 9, 10, 26, 17, 18, 27, 28, 29, 30, 31, 32, 33, 34, 35, 36, 37, 38] (by kernel_rfl) (by kernel_rfl) (by kernel_rfl) ?_
                    refine field_ptr ?_
                    refine field_ptr ?_
                    refine lookD (v := s.vb) ⟨qM, trivial⟩ rfl (lookE4 0 rfl (by decide)) ?_
                    refine field_ptr ?_
                    refine field_ptr ?_
                    refine lookD (v := s.vu) ⟨qM, trivial⟩ rfl (lookE4 1 rfl (by decide)) ?_
                    refine field_ptr ?_
                    refine lookD (v := s.vl) ⟨qM, trivial⟩ rfl (lookE4 3 rfl (by decide)) ?_
                    refine lookD (v := .int .i64 a.length) ⟨qM, trivial⟩ rfl (fun _ _ _ => len_eq hsv rfl) ?_
                    refine make_rule (t := 22) (d := I false []) a.length rfl rfl (by omega) (by omega) fun lr hlr => ?_
                    refine eGo ⟨qM, trivial⟩ ?_
                    refine buildSlice_fact (size := 1) (n := 1) [sb' i] [.one (sb' i)] rfl rfl (by decide) (by decide) ⟨Reads.one hrow.one, rfl, trivial⟩ fun q1 => ?_
                    refine eGo ⟨qM, trivial⟩ ?_
                    first | refine append_one (size := 1) (n := i) (el' := fun y => [Dat.one (sb' i)].getD y (.one undef)) (e' := fun y => .one (sb' y)) 4 rfl hs.vb (Knw.fact qM) eb (by omega) (by omega) fun vb' hvb' => ?_ | refine append_one (size := 1) (n := i) (el' := fun y => [Dat.one (sb' i)].getD y (.one undef)) (e' := fun y => .one (sb' y)) 5 rfl hs.vb (Knw.fact qM) eb (by omega) (by omega) fun vb' hvb' => ?_
                    refine eGo ⟨qM, trivial⟩ ?_
                    refine buildSlice_fact (size := 1) (n := 1) [lr] [.one lr] rfl rfl (by decide) (by decide) ⟨Reads.one hlr.one, rfl, trivial⟩ fun q3 => ?_
                    refine eGo ⟨qM, trivial⟩ ?_
                    refine buildSlice_fact (size := 1) (n := 1) [su' i] [.one (su' i)] rfl rfl (by decide) (by decide) ⟨Reads.one hone.one, rfl, trivial⟩ fun q2 => ?_
                    refine eGo ⟨qM, trivial⟩ ?_
                    first | refine append_one (size := 1) (n := i) (el' := fun y => [Dat.one (su' i)].getD y (.one undef)) (e' := fun y => .one (su' y)) 6 rfl hs.vu (Knw.fact qM) eu (by omega) (by omega) fun vu' hvu' => ?_ | refine append_one (size := 1) (n := i) (el' := fun y => [Dat.one (su' i)].getD y (.one undef)) (e' := fun y => .one (su' y)) 7 rfl hs.vu (Knw.fact qM) eu (by omega) (by omega) fun vu' hvu' => ?_
                    refine eGo ⟨qM, trivial⟩ ?_
                    refine append_one (size := 1) (n := i) (el' := fun y => [Dat.one lr].getD y (.one undef)) (e' := fun y => .one (if y < i then s.sl y else lr)) 10 rfl hs.vl (Knw.fact qM) (fun y _ => by by_cases e : y < i <;> simp [e]) (by omega) (by omega) fun vl' hvl' => ?_
                    refine eGo ⟨qM, trivial⟩ ?_
                    refine field_ptr ?_
                    refine field_ptr ?_
                    refine store4 3 0 rfl rfl (by decide) hvb'.one (by kernel_rfl) ?_
                    refine field_ptr ?_
                    refine field_ptr ?_
                    refine store4 3 1 rfl rfl (by decide) hvu'.one (by kernel_rfl) ?_
                    refine field_ptr ?_
                    refine store4 3 3 rfl rfl (by decide) hvl'.one (by kernel_rfl) ?_
                    exact again (lr, vb', vu', vl') ⟨hlr, hvb', hvu', hvl'⟩ trivial qF (Seals.sub qD)
                · refine ordE_go [own4 (ptr0 s.r 0) s.vb s.vu s.vd s.vl] [7, 15, 22, 24] [9, 10, 17, 18, 25, 26, 27] [] [0, 1, 2, 3, 4, 5, 6, 7, 8, 11, 12, 13, 14, 15, 16, 19, 20, 21, 22, 23, 24, 25, 9, 26, 10, 17, 18, 27, 28, 29, 30, 31, 32, 33, 34, 35, 36, 37, 38] (by kernel_rfl) (by kernel_rfl) (by kernel_rfl) ?_
                  refine field_ptr ?_
                  refine field_ptr ?_
                  refine lookD (v := s.vb) ⟨qM, trivial⟩ rfl (lookE4 0 rfl (by decide)) ?_
                  refine field_ptr ?_
                  refine field_ptr ?_
                  refine lookD (v := s.vu) ⟨qM, trivial⟩ rfl (lookE4 1 rfl (by decide)) ?_
                  refine field_ptr ?_
                  refine lookD (v := s.vl) ⟨qM, trivial⟩ rfl (lookE4 3 rfl (by decide)) ?_
                  refine lookD (v := .int .i64 a.length) ⟨qM, trivial⟩ rfl (fun _ _ _ => len_eq hsv rfl) ?_
                  refine make_rule (t := 22) (d := I false []) a.length rfl rfl (by omega) (by omega) fun lr hlr => ?_
                  refine eGo ⟨qM, trivial⟩ ?_
                  refine buildSlice_fact (size := 1) (n := 1) [sb' i] [.one (sb' i)] rfl rfl (by decide) (by decide) ⟨Reads.one hrow.one, rfl, trivial⟩ fun q1 => ?_
                  refine eGo ⟨qM, trivial⟩ ?_
                  refine buildSlice_fact (size := 1) (n := 1) [lr] [.one lr] rfl rfl (by decide) (by decide) ⟨Reads.one hlr.one, rfl, trivial⟩ fun q3 => ?_
                  refine eGo ⟨qM, trivial⟩ ?_
                  first | refine append_one (size := 1) (n := i) (el' := fun y => [Dat.one (sb' i)].getD y (.one undef)) (e' := fun y => .one (sb' y)) 4 rfl hs.vb (Knw.fact qM) eb (by omega) (by omega) fun vb' hvb' => ?_ | refine append_one (size := 1) (n := i) (el' := fun y => [Dat.one (sb' i)].getD y (.one undef)) (e' := fun y => .one (sb' y)) 5 rfl hs.vb (Knw.fact qM) eb (by omega) (by omega) fun vb' hvb' => ?_
                  refine eGo ⟨qM, trivial⟩ ?_
                  refine buildSlice_fact (size := 1) (n := 1) [su' i] [.one (su' i)] rfl rfl (by decide) (by decide) ⟨Reads.one hone.one, rfl, trivial⟩ fun q2 => ?_
                  refine eGo ⟨qM, trivial⟩ ?_
                  first | refine append_one (size := 1) (n := i) (el' := fun y => [Dat.one (su' i)].getD y (.one undef)) (e' := fun y => .one (su' y)) 6 rfl hs.vu (Knw.fact qM) eu (by omega) (by omega) fun vu' hvu' => ?_ | refine append_one (size := 1) (n := i) (el' := fun y => [Dat.one (su' i)].getD y (.one undef)) (e' := fun y => .one (su' y)) 7 rfl hs.vu (Knw.fact qM) eu (by omega) (by omega) fun vu' hvu' => ?_
                  refine eGo ⟨qM, trivial⟩ ?_
                  refine append_one (size := 1) (n := i) (el' := fun y => [Dat.one lr].getD y (.one undef)) (e' := fun y => .one (if y < i then s.sl y else lr)) 10 rfl hs.vl (Knw.fact qM) (fun y _ => by by_cases e : y < i <;> simp [e]) (by omega) (by omega) fun vl' hvl' => ?_
                  refine eGo ⟨qM, trivial⟩ ?_
                  refine field_ptr ?_
                  refine field_ptr ?_
                  refine store4 3 0 rfl rfl (by decide) hvb'.one (by kernel_rfl) ?_
                  refine field_ptr ?_
                  refine field_ptr ?_
                  refine store4 3 1 rfl rfl (by decide) hvu'.one (by kernel_rfl) ?_
                  refine field_ptr ?_
                  refine store4 3 3 rfl rfl (by decide) hvl'.one (by kernel_rfl) ?_
                  exact again (lr, vb', vu', vl') ⟨hlr, hvb', hvu', hvl'⟩ trivial qF (Seals.sub qD)
              · refine ord_split 10 26 (by kernel_rfl) (by kernel_rfl) (by kernel_rfl) ?_ ?_
                · refine ord_split 18 26 (by kernel_rfl) (by kernel_rfl) (by kernel_rfl) ?_ ?_
                  · refine ordE_go [own4 (ptr0 s.r 0) s.vb s.vu s.vd s.vl] [7, 15, 22, 24] [9, 10, 17, 18, 25, 26, 27] [] [0, 1, 2, 3, 4, 5, 6, 7, 8, 11, 12, 13, 14, 15, 16, 19, 20, 21, 22, 23, 24, 25, 9, 17, 10, 18, 26, 27, 28, 29, 30, 31, 32, 33, 34, 35, 36, 37, 38] (by kernel_rfl) (by kernel_rfl) (by kernel_rfl) ?_
                    refine field_ptr ?_
                    refine field_ptr ?_
                    refine lookD (v := s.vb) ⟨qM, trivial⟩ rfl (lookE4 0 rfl (by decide)) ?_
                    refine field_ptr ?_
                    refine field_ptr ?_
                    refine lookD (v := s.vu) ⟨qM, trivial⟩ rfl (lookE4 1 rfl (by decide)) ?_
                    refine field_ptr ?_
                    refine lookD (v := s.vl) ⟨qM, trivial⟩ rfl (lookE4 3 rfl (by decide)) ?_
                    refine lookD (v := .int .i64 a.length) ⟨qM, trivial⟩ rfl (fun _ _ _ => len_eq hsv rfl) ?_
                    refine make_rule (t := 22) (d := I false []) a.length rfl rfl (by omega) (by omega) fun lr hlr => ?_
                    refine eGo ⟨qM, trivial⟩ ?_
                    refine buildSlice_fact (size := 1) (n := 1) [sb' i] [.one (sb' i)] rfl rfl (by decide) (by decide) ⟨Reads.one hrow.one, rfl, trivial⟩ fun q1 => ?_
                    refine eGo ⟨qM, trivial⟩ ?_
                    refine buildSlice_fact (size := 1) (n := 1) [su' i] [.one (su' i)] rfl rfl (by decide) (by decide) ⟨Reads.one hone.one, rfl, trivial⟩ fun q2 => ?_
                    refine eGo ⟨qM, trivial⟩ ?_
                    first | refine append_one (size := 1) (n := i) (el' := fun y => [Dat.one (sb' i)].getD y (.one undef)) (e' := fun y => .one (sb' y)) 4 rfl hs.vb (Knw.fact qM) eb (by omega) (by omega) fun vb' hvb' => ?_ | refine append_one (size := 1) (n := i) (el' := fun y => [Dat.one (sb' i)].getD y (.one undef)) (e' := fun y => .one (sb' y)) 5 rfl hs.vb (Knw.fact qM) eb (by omega) (by omega) fun vb' hvb' => ?_
                    refine eGo ⟨qM, trivial⟩ ?_
                    first | refine append_one (size := 1) (n := i) (el' := fun y => [Dat.one (su' i)].getD y (.one undef)) (e' := fun y => .one (su' y)) 6 rfl hs.vu (Knw.fact qM) eu (by omega) (by omega) fun vu' hvu' => ?_ | refine append_one (size := 1) (n := i) (el' := fun y => [Dat.one (su' i)].getD y (.one undef)) (e' := fun y => .one (su' y)) 7 rfl hs.vu (Knw.fact qM) eu (by omega) (by omega) fun vu' hvu' => ?_
                    refine eGo ⟨qM, trivial⟩ ?_
                    refine buildSlice_fact (size := 1) (n := 1) [lr] [.one lr] rfl rfl (by decide) (by decide) ⟨Reads.one hlr.one, rfl, trivial⟩ fun q3 => ?_
                    refine eGo ⟨qM, trivial⟩ ?_
                    refine append_one (size := 1) (n := i) (el' := fun y => [Dat.one lr].getD y (.one undef)) (e' := fun y => .one (if y < i then s.sl y else lr)) 10 rfl hs.vl (Knw.fact qM) (fun y _ => by by_cases e : y < i <;> simp [e]) (by omega) (by omega) fun vl' hvl' => ?_
                    refine eGo ⟨qM, trivial⟩ ?_
                    refine field_ptr ?_
                    refine field_ptr ?_
                    refine store4 3 0 rfl rfl (by decide) hvb'.one (by kernel_rfl) ?_
                    refine field_ptr ?_
                    refine field_ptr ?_
                    refine store4 3 1 rfl rfl (by decide) hvu'.one (by kernel_rfl) ?_
                    refine field_ptr ?_
                    refine store4 3 3 rfl rfl (by decide) hvl'.one (by kernel_rfl) ?_
                    exact again (lr, vb', vu', vl') ⟨hlr, hvb', hvu', hvl'⟩ trivial qF (Seals.sub qD)
                  · refine ordE_go [own4 (ptr0 s.r 0) s.vb s.vu s.vd s.vl] [7, 15, 22, 24] [9, 10, 17, 18, 25, 26, 27] [] [0, 1, 2, 3, 4, 5, 6, 7, 8, 11, 12, 13, 14, 15, 16, 19, 20, 21, 22, 23, 24, 25, 9, 17, 10, 26, 18, 27, 28, 29, 30, 31, 32, 33, 34, 35, 36, 37, 38] (by kernel_rfl) (by kernel_rfl) (by kernel_rfl) ?_
                    refine field_ptr ?_
                    refine field_ptr ?_
                    refine lookD (v := s.vb) ⟨qM, trivial⟩ rfl (lookE4 0 rfl (by decide)) ?_
                    refine field_ptr ?_
                    refine field_ptr ?_
                    refine lookD (v := s.vu) ⟨qM, trivial⟩ rfl (lookE4 1 rfl (by decide)) ?_
                    refine field_ptr ?_
                    refine lookD (v := s.vl) ⟨qM, trivial⟩ rfl (lookE4 3 rfl (by decide)) ?_
                    refine lookD (v := .int .i64 a.length) ⟨qM, trivial⟩ rfl (fun _ _ _ => len_eq hsv rfl) ?_
                    refine make_rule (t := 22) (d := I false []) a.length rfl rfl (by omega) (by omega) fun lr hlr => ?_
                    refine eGo ⟨qM, trivial⟩ ?_
                    refine buildSlice_fact (size := 1) (n := 1) [sb' i] [.one (sb' i)] rfl rfl (by decide) (by decide) ⟨Reads.one hrow.one, rfl, trivial⟩ fun q1 => ?_
                    refine eGo ⟨qM, trivial⟩ ?_
                    refine buildSlice_fact (size := 1) (n := 1) [su' i] [.one (su' i)] rfl rfl (by decide) (by decide) ⟨Reads.one hone.one, rfl, trivial⟩ fun q2 => ?_
                    refine eGo ⟨qM, trivial⟩ ?_
                    first | refine append_one (size := 1) (n := i) (el' := fun y => [Dat.one (sb' i)].getD y (.one undef)) (e' := fun y => .one (sb' y)) 4 rfl hs.vb (Knw.fact qM) eb (by omega) (by omega) fun vb' hvb' => ?_ | refine append_one (size := 1) (n := i) (el' := fun y => [Dat.one (sb' i)].getD y (.one undef)) (e' := fun y => .one (sb' y)) 5 rfl hs.vb (Knw.fact qM) eb (by omega) (by omega) fun vb' hvb' => ?_
                    refine eGo ⟨qM, trivial⟩ ?_
                    refine buildSlice_fact (size := 1) (n := 1) [lr] [.one lr] rfl rfl (by decide) (by decide) ⟨Reads.one hlr.one, rfl, trivial⟩ fun q3 => ?_
                    refine eGo ⟨qM, trivial⟩ ?_
                    first | refine append_one (size := 1) (n := i) (el' := fun y => [Dat.one (su' i)].getD y (.one undef)) (e' := fun y => .one (su' y)) 6 rfl hs.vu (Knw.fact qM) eu (by omega) (by omega) fun vu' hvu' => ?_ | refine append_one (size := 1) (n := i) (el' := fun y => [Dat.one (su' i)].getD y (.one undef)) (e' := fun y => .one (su' y)) 7 rfl hs.vu (Knw.fact qM) eu (by omega) (by omega) fun vu' hvu' => ?_
                    refine eGo ⟨qM, trivial⟩ ?_
                    refine append_one (size := 1) (n := i) (el' := fun y => [Dat.one lr].getD y (.one undef)) (e' := fun y => .one (if y < i then s.sl y else lr)) 10 rfl hs.vl (Knw.fact qM) (fun y _ => by by_cases e : y < i <;> simp [e]) (by omega) (by omega) fun vl' hvl' => ?_
                    refine eGo ⟨qM, trivial⟩ ?_
                    refine field_ptr ?_
                    refine field_ptr ?_
                    refine store4 3 0 rfl rfl (by decide) hvb'.one (by kernel_rfl) ?_
                    refine field_ptr ?_
                    refine field_ptr ?_
                    refine store4 3 1 rfl rfl (by decide) hvu'.one (by kernel_rfl) ?_
                    refine field_ptr ?_
                    refine store4 3 3 rfl rfl (by decide) hvl'.one (by kernel_rfl) ?_
                    exact again (lr, vb', vu', vl') ⟨hlr, hvb', hvu', hvl'⟩ trivial qF (Seals.sub qD)
                · refine ord_split 17 26 (by kernel_rfl) (by kernel_rfl) (by kernel_rfl) ?_ ?_
                  · refine ordE_go [own4 (ptr0 s.r 0) s.vb s.vu s.vd s.vl] [7, 15, 22, 24] [9, 10, 17, 18, 25, 26, 27] [] [0, 1, 2, 3, 4, 5, 6, 7, 8, 11, 12, 13, 14, 15, 16, 19, 20, 21, 22, 23, 24, 25, 9, 17, 26, 10, 18, 27, 28, 29, 30, 31, 32, 33, 34, 35, 36, 37, 38] (by kernel_rfl) (by kernel_rfl) (by kernel_rfl) ?_
                    refine field_ptr ?_
                    refine field_ptr ?_
                    refine lookD (v := s.vb) ⟨qM, trivial⟩ rfl (lookE4 0 rfl (by decide)) ?_
                    refine field_ptr ?_
                    refine field_ptr ?_
                    refine lookD (v := s.vu) ⟨qM, trivial⟩ rfl (lookE4 1 rfl (by decide)) ?_
                    refine field_ptr ?_
                    refine lookD (v := s.vl) ⟨qM, trivial⟩ rfl (lookE4 3 rfl (by decide)) ?_
                    refine lookD (v := .int .i64 a.length) ⟨qM, trivial⟩ rfl (fun _ _ _ => len_eq hsv rfl) ?_
                    refine make_rule (t := 22) (d := I false []) a.length rfl rfl (by omega) (by omega) fun lr hlr => ?_
                    refine eGo ⟨qM, trivial⟩ ?_
                    refine buildSlice_fact (size := 1) (n := 1) [sb' i] [.one (sb' i)] rfl rfl (by decide) (by decide) ⟨Reads.one hrow.one, rfl, trivial⟩ fun q1 => ?_
                    refine eGo ⟨qM, trivial⟩ ?_
                    refine buildSlice_fact (size := 1) (n := 1) [su' i] [.one (su' i)] rfl rfl (by decide) (by decide) ⟨Reads.one hone.one, rfl, trivial⟩ fun q2 => ?_
                    refine eGo ⟨qM, trivial⟩ ?_
                    refine buildSlice_fact (size := 1) (n := 1) [lr] [.one lr] rfl rfl (by decide) (by decide) ⟨Reads.one hlr.one, rfl, trivial⟩ fun q3 => ?_
                    refine eGo ⟨qM, trivial⟩ ?_
                    first | refine append_one (size := 1) (n := i) (el' := fun y => [Dat.one (sb' i)].getD y (.one undef)) (e' := fun y => .one (sb' y)) 4 rfl hs.vb (Knw.fact qM) eb (by omega) (by omega) fun vb' hvb' => ?_ | refine append_one (size := 1) (n := i) (el' := fun y => [Dat.one (sb' i)].getD y (.one undef)) (e' := fun y => .one (sb' y)) 5 rfl hs.vb (Knw.fact qM) eb (by omega) (by omega) fun vb' hvb' => ?_
                    refine eGo ⟨qM, trivial⟩ ?_
                    first | refine append_one (size := 1) (n := i) (el' := fun y => [Dat.one (su' i)].getD y (.one undef)) (e' := fun y => .one (su' y)) 6 rfl hs.vu (Knw.fact qM) eu (by omega) (by omega) fun vu' hvu' => ?_ | refine append_one (size := 1) (n := i) (el' := fun y => [Dat.one (su' i)].getD y (.one undef)) (e' := fun y => .one (su' y)) 7 rfl hs.vu (Knw.fact qM) eu (by omega) (by omega) fun vu' hvu' => ?_
                    refine eGo ⟨qM, trivial⟩ ?_
                    refine append_one (size := 1) (n := i) (el' := fun y => [Dat.one lr].getD y (.one undef)) (e' := fun y => .one (if y < i then s.sl y else lr)) 10 rfl hs.vl (Knw.fact qM) (fun y _ => by by_cases e : y < i <;> simp [e]) (by omega) (by omega) fun vl' hvl' => ?_
                    refine eGo ⟨qM, trivial⟩ ?_
                    refine field_ptr ?_
                    refine field_ptr ?_
                    refine store4 3 0 rfl rfl (by decide) hvb'.one (by kernel_rfl) ?_
                    refine field_ptr ?_
                    refine field_ptr ?_
                    refine store4 3 1 rfl rfl (by decide) hvu'.one (by kernel_rfl) ?_
                    refine field_ptr ?_
                    refine store4 3 3 rfl rfl (by decide) hvl'.one (by kernel_rfl) ?_
                    exact again (lr, vb', vu', vl') ⟨hlr, hvb', hvu', hvl'⟩ trivial qF (Seals.sub qD)
                  · refine ordE_go [own4 (ptr0 s.r 0) s.vb s.vu s.vd s.vl] [7, 15, 22, 24] [9, 10, 17, 18, 25, 26, 27] [] [0, 1, 2, 3, 4, 5, 6, 7, 8, 11, 12, 13, 14, 15, 16, 19, 20, 21, 22, 23, 24, 25, 9, 26, 17, 10, 18, 27, 28, 29, 30, 31, 32, 33, 34, 35, 36, 37, 38] (by kernel_rfl) (by kernel_rfl) (by kernel_rfl) ?_
                    refine field_ptr ?_
                    refine field_ptr ?_
                    refine lookD (v := s.vb) ⟨qM, trivial⟩ rfl (lookE4 0 rfl (by decide)) ?_
                    refine field_ptr ?_
                    refine field_ptr ?_
                    refine lookD (v := s.vu) ⟨qM, trivial⟩ rfl (lookE4 1 rfl (by decide)) ?_
                    refine field_ptr ?_
                    refine lookD (v := s.vl) ⟨qM, trivial⟩ rfl (lookE4 3 rfl (by decide)) ?_
                    refine lookD (v := .int .i64 a.length) ⟨qM, trivial⟩ rfl (fun _ _ _ => len_eq hsv rfl) ?_
                    refine make_rule (t := 22) (d := I false []) a.length rfl rfl (by omega) (by omega) fun lr hlr => ?_
                    refine eGo ⟨qM, trivial⟩ ?_
                    refine buildSlice_fact (size := 1) (n := 1) [sb' i] [.one (sb' i)] rfl rfl (by decide) (by decide) ⟨Reads.one hrow.one, rfl, trivial⟩ fun q1 => ?_
                    refine eGo ⟨qM, trivial⟩ ?_
                    refine buildSlice_fact (size := 1) (n := 1) [lr] [.one lr] rfl rfl (by decide) (by decide) ⟨Reads.one hlr.one, rfl, trivial⟩ fun q3 => ?_
                    refine eGo ⟨qM, trivial⟩ ?_
                    refine buildSlice_fact (size := 1) (n := 1) [su' i] [.one (su' i)] rfl rfl (by decide) (by decide) ⟨Reads.one hone.one, rfl, trivial⟩ fun q2 => ?_
                    refine eGo ⟨qM, trivial⟩ ?_
                    first | refine append_one (size := 1) (n := i) (el' := fun y => [Dat.one (sb' i)].getD y (.one undef)) (e' := fun y => .one (sb' y)) 4 rfl hs.vb (Knw.fact qM) eb (by omega) (by omega) fun vb' hvb' => ?_ | refine append_one (size := 1) (n := i) (el' := fun y => [Dat.one (sb' i)].getD y (.one undef)) (e' := fun y => .one (sb' y)) 5 rfl hs.vb (Knw.fact qM) eb (by omega) (by omega) fun vb' hvb' => ?_
                    refine eGo ⟨qM, trivial⟩ ?_
                    first | refine append_one (size := 1) (n := i) (el' := fun y => [Dat.one (su' i)].getD y (.one undef)) (e' := fun y => .one (su' y)) 6 rfl hs.vu (Knw.fact qM) eu (by omega) (by omega) fun vu' hvu' => ?_ | refine append_one (size := 1) (n := i) (el' := fun y => [Dat.one (su' i)].getD y (.one undef)) (e' := fun y => .one (su' y)) 7 rfl hs.vu (Knw.fact qM) eu (by omega) (by omega) fun vu' hvu' => ?_
                    refine eGo ⟨qM, trivial⟩ ?_
                    refine append_one (size := 1) (n := i) (el' := fun y => [Dat.one lr].getD y (.one undef)) (e' := fun y => .one (if y < i then s.sl y else lr)) 10 rfl hs.vl (Knw.fact qM) (fun y _ => by by_cases e : y < i <;> simp [e]) (by omega) (by omega) fun vl' hvl' => ?_
                    refine eGo ⟨qM, trivial⟩ ?_
                    refine field_ptr ?_
                    refine field_ptr ?_
                    refine store4 3 0 rfl rfl (by decide) hvb'.one (by kernel_rfl) ?_
                    refine field_ptr ?_
                    refine field_ptr ?_
                    refine store4 3 1 rfl rfl (by decide) hvu'.one (by kernel_rfl) ?_
                    refine field_ptr ?_
                    refine store4 3 3 rfl rfl (by decide) hvl'.one (by kernel_rfl) ?_
                    exact again (lr, vb', vu', vl') ⟨hlr, hvb', hvu', hvl'⟩ trivial qF (Seals.sub qD)
            · refine ord_split 10 17 (by kernel_rfl) (by kernel_rfl) (by kernel_rfl) ?_ ?_
              · refine ordE_go [own4 (ptr0 s.r 0) s.vb s.vu s.vd s.vl] [7, 15, 22, 24] [9, 10, 17, 18, 25, 26, 27] [] [0, 1, 2, 3, 4, 5, 6, 7, 8, 11, 12, 13, 14, 15, 16, 19, 20, 21, 22, 23, 24, 25, 26, 9, 10, 17, 18, 27, 28, 29, 30, 31, 32, 33, 34, 35, 36, 37, 38] (by kernel_rfl) (by kernel_rfl) (by kernel_rfl) ?_
                refine field_ptr ?_
                refine field_ptr ?_
                refine lookD (v := s.vb) ⟨qM, trivial⟩ rfl (lookE4 0 rfl (by decide)) ?_
                refine field_ptr ?_
                refine field_ptr ?_
                refine lookD (v := s.vu) ⟨qM, trivial⟩ rfl (lookE4 1 rfl (by decide)) ?_
                refine field_ptr ?_
                refine lookD (v := s.vl) ⟨qM, trivial⟩ rfl (lookE4 3 rfl (by decide)) ?_
                refine lookD (v := .int .i64 a.length) ⟨qM, trivial⟩ rfl (fun _ _ _ => len_eq hsv rfl) ?_
                refine make_rule (t := 22) (d := I false []) a.length rfl rfl (by omega) (by omega) fun lr hlr => ?_
                refine eGo ⟨qM, trivial⟩ ?_
                refine buildSlice_fact (size := 1) (n := 1) [lr] [.one lr] rfl rfl (by decide) (by decide) ⟨Reads.one hlr.one, rfl, trivial⟩ fun q3 => ?_
                refine eGo ⟨qM, trivial⟩ ?_
                refine buildSlice_fact (size := 1) (n := 1) [sb' i] [.one (sb' i)] rfl rfl (by decide) (by decide) ⟨Reads.one hrow.one, rfl, trivial⟩ fun q1 => ?_
                refine eGo ⟨qM, trivial⟩ ?_
                first | refine append_one (size := 1) (n := i) (el' := fun y => [Dat.one (sb' i)].getD y (.one undef)) (e' := fun y => .one (sb' y)) 4 rfl hs.vb (Knw.fact qM) eb (by omega) (by omega) fun vb' hvb' => ?_ | refine append_one (size := 1) (n := i) (el' := fun y => [Dat.one (sb' i)].getD y (.one undef)) (e' := fun y => .one (sb' y)) 5 rfl hs.vb (Knw.fact qM) eb (by omega) (by omega) fun vb' hvb' => ?_
                refine eGo ⟨qM, trivial⟩ ?_
                refine buildSlice_fact (size := 1) (n := 1) [su' i] [.one (su' i)] rfl rfl (by decide) (by decide) ⟨Reads.one hone.one, rfl, trivial⟩ fun q2 => ?_
                refine eGo ⟨qM, trivial⟩ ?_
                first | refine append_one (size := 1) (n := i) (el' := fun y => [Dat.one (su' i)].getD y (.one undef)) (e' := fun y => .one (su' y)) 6 rfl hs.vu (Knw.fact qM) eu (by omega) (by omega) fun vu' hvu' => ?_ | refine append_one (size := 1) (n := i) (el' := fun y => [Dat.one (su' i)].getD y (.one undef)) (e' := fun y => .one (su' y)) 7 rfl hs.vu (Knw.fact qM) eu (by omega) (by omega) fun vu' hvu' => ?_
                refine eGo ⟨qM, trivial⟩ ?_
                refine append_one (size := 1) (n := i) (el' := fun y => [Dat.one lr].getD y (.one undef)) (e' := fun y => .one (if y < i then s.sl y else lr)) 10 rfl hs.vl (Knw.fact qM) (fun y _ => by by_cases e : y < i <;> simp [e]) (by omega) (by omega) fun vl' hvl' => ?_
                refine eGo ⟨qM, trivial⟩ ?_
                refine field_ptr ?_
                refine field_ptr ?_
                refine store4 3 0 rfl rfl (by decide) hvb'.one (by kernel_rfl) ?_
                refine field_ptr ?_
                refine field_ptr ?_
                refine store4 3 1 rfl rfl (by decide) hvu'.one (by kernel_rfl) ?_
                refine field_ptr ?_
                refine store4 3 3 rfl rfl (by decide) hvl'.one (by kernel_rfl) ?_
                exact again (lr, vb', vu', vl') ⟨hlr, hvb', hvu', hvl'⟩ trivial qF (Seals.sub qD)
              · refine ordE_go [own4 (ptr0 s.r 0) s.vb s.vu s.vd s.vl] [7, 15, 22, 24] [9, 10, 17, 18, 25, 26, 27] [] [0, 1, 2, 3, 4, 5, 6, 7, 8, 11, 12, 13, 14, 15, 16, 19, 20, 21, 22, 23, 24, 25, 26, 9, 17, 10, 18, 27, 28, 29, 30, 31, 32, 33, 34, 35, 36, 37, 38] (by kernel_rfl) (by kernel_rfl) (by kernel_rfl) ?_
                refine field_ptr ?_
                refine field_ptr ?_
                refine lookD (v := s.vb) ⟨qM, trivial⟩ rfl (lookE4 0 rfl (by decide)) ?_
                refine field_ptr ?_
                refine field_ptr ?_
                refine lookD (v := s.vu) ⟨qM, trivial⟩ rfl (lookE4 1 rfl (by decide)) ?_
                refine field_ptr ?_
                refine lookD (v := s.vl) ⟨qM, trivial⟩ rfl (lookE4 3 rfl (by decide)) ?_
                refine lookD (v := .int .i64 a.length) ⟨qM, trivial⟩ rfl (fun _ _ _ => len_eq hsv rfl) ?_
                refine make_rule (t := 22) (d := I false []) a.length rfl rfl (by omega) (by omega) fun lr hlr => ?_
                refine eGo ⟨qM, trivial⟩ ?_
                refine buildSlice_fact (size := 1) (n := 1) [lr] [.one lr] rfl rfl (by decide) (by decide) ⟨Reads.one hlr.one, rfl, trivial⟩ fun q3 => ?_
                refine eGo ⟨qM, trivial⟩ ?_
                refine buildSlice_fact (size := 1) (n := 1) [sb' i] [.one (sb' i)] rfl rfl (by decide) (by decide) ⟨Reads.one hrow.one, rfl, trivial⟩ fun q1 => ?_
                refine eGo ⟨qM, trivial⟩ ?_
                refine buildSlice_fact (size := 1) (n := 1) [su' i] [.one (su' i)] rfl rfl (by decide) (by decide) ⟨Reads.one hone.one, rfl, trivial⟩ fun q2 => ?_
                refine eGo ⟨qM, trivial⟩ ?_
                first | refine append_one (size := 1) (n := i) (el' := fun y => [Dat.one (sb' i)].getD y (.one undef)) (e' := fun y => .one (sb' y)) 4 rfl hs.vb (Knw.fact qM) eb (by omega) (by omega) fun vb' hvb' => ?_ | refine append_one (size := 1) (n := i) (el' := fun y => [Dat.one (sb' i)].getD y (.one undef)) (e' := fun y => .one (sb' y)) 5 rfl hs.vb (Knw.fact qM) eb (by omega) (by omega) fun vb' hvb' => ?_
                refine eGo ⟨qM, trivial⟩ ?_
                first | refine append_one (size := 1) (n := i) (el' := fun y => [Dat.one (su' i)].getD y (.one undef)) (e' := fun y => .one (su' y)) 6 rfl hs.vu (Knw.fact qM) eu (by omega) (by omega) fun vu' hvu' => ?_ | refine append_one (size := 1) (n := i) (el' := fun y => [Dat.one (su' i)].getD y (.one undef)) (e' := fun y => .one (su' y)) 7 rfl hs.vu (Knw.fact qM) eu (by omega) (by omega) fun vu' hvu' => ?_
                refine eGo ⟨qM, trivial⟩ ?_
                refine append_one (size := 1) (n := i) (el' := fun y => [Dat.one lr].getD y (.one undef)) (e' := fun y => .one (if y < i then s.sl y else lr)) 10 rfl hs.vl (Knw.fact qM) (fun y _ => by by_cases e : y < i <;> simp [e]) (by omega) (by omega) fun vl' hvl' => ?_
                refine eGo ⟨qM, trivial⟩ ?_
                refine field_ptr ?_
                refine field_ptr ?_
                refine store4 3 0 rfl rfl (by decide) hvb'.one (by kernel_rfl) ?_
                refine field_ptr ?_
                refine field_ptr ?_
                refine store4 3 1 rfl rfl (by decide) hvu'.one (by kernel_rfl) ?_
                refine field_ptr ?_
                refine store4 3 3 rfl rfl (by decide) hvl'.one (by kernel_rfl) ?_
                exact again (lr, vb', vu', vl') ⟨hlr, hvb', hvu', hvl'⟩ trivial qF (Seals.sub qD)
        · refine ord_split 9 25 (by kernel_rfl) (by kernel_rfl) (by kernel_rfl) ?_ ?_
          · refine ord_split 10 25 (by kernel_rfl) (by kernel_rfl) (by kernel_rfl) ?_ ?_
            · refine ord_split 18 25 (by kernel_rfl) (by kernel_rfl) (by kernel_rfl) ?_ ?_
              · refine ordE_go [own4 (ptr0 s.r 0) s.vb s.vu s.vd s.vl] [7, 15, 22, 24] [9, 10, 17, 18, 25, 26, 27] [] [0, 1, 2, 3, 4, 5, 6, 7, 8, 11, 12, 13, 14, 15, 16, 19, 20, 21, 22, 23, 24, 17, 9, 10, 18, 25, 26, 27, 28, 29, 30, 31, 32, 33, 34, 35, 36, 37, 38] (by kernel_rfl) (by kernel_rfl) (by kernel_rfl) ?_
                refine field_ptr ?_
                refine field_ptr ?_
                refine lookD (v := s.vb) ⟨qM, trivial⟩ rfl (lookE4 0 rfl (by decide)) ?_
                refine field_ptr ?_
                refine field_ptr ?_
                refine lookD (v := s.vu) ⟨qM, trivial⟩ rfl (lookE4 1 rfl (by decide)) ?_
                refine field_ptr ?_
                refine lookD (v := s.vl) ⟨qM, trivial⟩ rfl (lookE4 3 rfl (by decide)) ?_
                refine lookD (v := .int .i64 a.length) ⟨qM, trivial⟩ rfl (fun _ _ _ => len_eq hsv rfl) ?_
                refine buildSlice_fact (size := 1) (n := 1) [su' i] [.one (su' i)] rfl rfl (by decide) (by decide) ⟨Reads.one hone.one, rfl, trivial⟩ fun q2 => ?_
                refine eGo ⟨qM, trivial⟩ ?_
                refine buildSlice_fact (size := 1) (n := 1) [sb' i] [.one (sb' i)] rfl rfl (by decide) (by decide) ⟨Reads.one hrow.one, rfl, trivial⟩ fun q1 => ?_
                refine eGo ⟨qM, trivial⟩ ?_
                first | refine append_one (size := 1) (n := i) (el' := fun y => [Dat.one (sb' i)].getD y (.one undef)) (e' := fun y => .one (sb' y)) 4 rfl hs.vb (Knw.fact qM) eb (by omega) (by omega) fun vb' hvb' => ?_ | refine append_one (size := 1) (n := i) (el' := fun y => [Dat.one (sb' i)].getD y (.one undef)) (e' := fun y => .one (sb' y)) 5 rfl hs.vb (Knw.fact qM) eb (by omega) (by omega) fun vb' hvb' => ?_
                refine eGo ⟨qM, trivial⟩ ?_
                first | refine append_one (size := 1) (n := i) (el' := fun y => [Dat.one (su' i)].getD y (.one undef)) (e' := fun y => .one (su' y)) 6 rfl hs.vu (Knw.fact qM) eu (by omega) (by omega) fun vu' hvu' => ?_ | refine append_one (size := 1) (n := i) (el' := fun y => [Dat.one (su' i)].getD y (.one undef)) (e' := fun y => .one (su' y)) 7 rfl hs.vu (Knw.fact qM) eu (by omega) (by omega) fun vu' hvu' => ?_
                refine eGo ⟨qM, trivial⟩ ?_
                refine make_rule (t := 22) (d := I false []) a.length rfl rfl (by omega) (by omega) fun lr hlr => ?_
                refine eGo ⟨qM, trivial⟩ ?_
                refine buildSlice_fact (size := 1) (n := 1) [lr] [.one lr] rfl rfl (by decide) (by decide) ⟨Reads.one hlr.one, rfl, trivial⟩ fun q3 => ?_
                refine eGo ⟨qM, trivial⟩ ?_
                refine append_one (size := 1) (n := i) (el' := fun y => [Dat.one lr].getD y (.one undef)) (e' := fun y => .one (if y < i then s.sl y else lr)) 10 rfl hs.vl (Knw.fact qM) (fun y _ => by by_cases e : y < i <;> simp [e]) (by omega) (by omega) fun vl' hvl' => ?_
                refine eGo ⟨qM, trivial⟩ ?_
                refine field_ptr ?_
                refine field_ptr ?_
                refine store4 3 0 rfl rfl (by decide) hvb'.one (by kernel_rfl) ?_
                refine field_ptr ?_
                refine field_ptr ?_
                refine store4 3 1 rfl rfl (by decide) hvu'.one (by kernel_rfl) ?_
                refine field_ptr ?_
                refine store4 3 3 rfl rfl (by decide) hvl'.one (by kernel_rfl) ?_
                exact again (lr, vb', vu', vl') ⟨hlr, hvb', hvu', hvl'⟩ trivial qF (Seals.sub qD)
              · refine ord_split 18 26 (by kernel_rfl) (by kernel_rfl) (by kernel_rfl) ?_ ?_
                · refine ordE_go [own4 (ptr0 s.r 0) s.vb s.vu s.vd s.vl] [7, 15, 22, 24] [9, 10, 17, 18, 25, 26, 27] [] [0, 1, 2, 3, 4, 5, 6, 7, 8, 11, 12, 13, 14, 15, 16, 19, 20, 21, 22, 23, 24, 17, 9, 10, 25, 18, 26, 27, 28, 29, 30, 31, 32, 33, 34, 35, 36, 37, 38] (by kernel_rfl) (by kernel_rfl) (by kernel_rfl) ?_
                  refine field_ptr ?_
                  refine field_ptr ?_
                  refine lookD (v := s.vb) ⟨qM, trivial⟩ rfl (lookE4 0 rfl (by decide)) ?_
                  refine field_ptr ?_
                  refine field_ptr ?_
                  refine lookD (v := s.vu) ⟨qM, trivial⟩ rfl (lookE4 1 rfl (by decide)) ?_
                  refine field_ptr ?_
                  refine lookD (v := s.vl) ⟨qM, trivial⟩ rfl (lookE4 3 rfl (by decide)) ?_
                  refine lookD (v := .int .i64 a.length) ⟨qM, trivial⟩ rfl (fun _ _ _ => len_eq hsv rfl) ?_
                  refine buildSlice_fact (size := 1) (n := 1) [su' i] [.one (su' i)] rfl rfl (by decide) (by decide) ⟨Reads.one hone.one, rfl, trivial⟩ fun q2 => ?_
                  refine eGo ⟨qM, trivial⟩ ?_
                  refine buildSlice_fact (size := 1) (n := 1) [sb' i] [.one (sb' i)] rfl rfl (by decide) (by decide) ⟨Reads.one hrow.one, rfl, trivial⟩ fun q1 => ?_
                  refine eGo ⟨qM, trivial⟩ ?_
                  first | refine append_one (size := 1) (n := i) (el' := fun y => [Dat.one (sb' i)].getD y (.one undef)) (e' := fun y => .one (sb' y)) 4 rfl hs.vb (Knw.fact qM) eb (by omega) (by omega) fun vb' hvb' => ?_ | refine append_one (size := 1) (n := i) (el' := fun y => [Dat.one (sb' i)].getD y (.one undef)) (e' := fun y => .one (sb' y)) 5 rfl hs.vb (Knw.fact qM) eb (by omega) (by omega) fun vb' hvb' => ?_
                  refine eGo ⟨qM, trivial⟩ ?_
                  refine make_rule (t := 22) (d := I false []) a.length rfl rfl (by omega) (by omega) fun lr hlr => ?_
                  refine eGo ⟨qM, trivial⟩ ?_
                  first | refine append_one (size := 1) (n := i) (el' := fun y => [Dat.one (su' i)].getD y (.one undef)) (e' := fun y => .one (su' y)) 6 rfl hs.vu (Knw.fact qM) eu (by omega) (by omega) fun vu' hvu' => ?_ | refine append_one (size := 1) (n := i) (el' := fun y => [Dat.one (su' i)].getD y (.one undef)) (e' := fun y => .one (su' y)) 7 rfl hs.vu (Knw.fact qM) eu (by omega) (by omega) fun vu' hvu' => ?_
                  refine eGo ⟨qM, trivial⟩ ?_
                  refine buildSlice_fact (size := 1) (n := 1) [lr] [.one lr] rfl rfl (by decide) (by decide) ⟨Reads.one hlr.one, rfl, trivial⟩ fun q3 => ?_
                  refine eGo ⟨qM, trivial⟩ ?_
                  refine append_one (size := 1) (n := i) (el' := fun y => [Dat.one lr].getD y (.one undef)) (e' := fun y => .one (if y < i then s.sl y else lr)) 10 rfl hs.vl (Knw.fact qM) (fun y _ => by by_cases e : y < i <;> simp [e]) (by omega) (by omega) fun vl' hvl' => ?_
                  refine eGo ⟨qM, trivial⟩ ?_
                  refine field_ptr ?_
                  refine field_ptr ?_
                  refine store4 3 0 rfl rfl (by decide) hvb'.one (by kernel_rfl) ?_
                  refine field_ptr ?_
                  refine field_ptr ?_
                  refine store4 3 1 rfl rfl (by decide) hvu'.one (by kernel_rfl) ?_
                  refine field_ptr ?_
                  refine store4 3 3 rfl rfl (by decide) hvl'.one (by kernel_rfl) ?_
                  exact again (lr, vb', vu', vl') ⟨hlr, hvb', hvu', hvl'⟩ trivial qF (Seals.sub qD)
                · refine ordE_go [own4 (ptr0 s.r 0) s.vb s.vu s.vd s.vl] [7, 15, 22, 24] [9, 10, 17, 18, 25, 26, 27] [] [0, 1, 2, 3, 4, 5, 6, 7, 8, 11, 12, 13, 14, 15, 16, 19, 20, 21, 22, 23, 24, 17, 9, 10, 25, 26, 18, 27, 28, 29, 30, 31, 32, 33, 34, 35, 36, 37, 38] (by kernel_rfl) (by kernel_rfl) (by kernel_rfl) ?_
                  refine field_ptr ?_
                  refine field_ptr ?_
                  refine lookD (v := s.vb) ⟨qM, trivial⟩ rfl (lookE4 0 rfl (by decide)) ?_
                  refine field_ptr ?_
                  refine field_ptr ?_
                  refine lookD (v := s.vu) ⟨qM, trivial⟩ rfl (lookE4 1 rfl (by decide)) ?_
                  refine field_ptr ?_
                  refine lookD (v := s.vl) ⟨qM, trivial⟩ rfl (lookE4 3 rfl (by decide)) ?_
                  refine lookD (v := .int .i64 a.length) ⟨qM, trivial⟩ rfl (fun _ _ _ => len_eq hsv rfl) ?_
                  refine buildSlice_fact (size := 1) (n := 1) [su' i] [.one (su' i)] rfl rfl (by decide) (by decide) ⟨Reads.one hone.one, rfl, trivial⟩ fun q2 => ?_
                  refine eGo ⟨qM, trivial⟩ ?_
                  refine buildSlice_fact (size := 1) (n := 1) [sb' i] [.one (sb' i)] rfl rfl (by decide) (by decide) ⟨Reads.one hrow.one, rfl, trivial⟩ fun q1 => ?_
                  refine eGo ⟨qM, trivial⟩ ?_
                  first | refine append_one (size := 1) (n := i) (el' := fun y => [Dat.one (sb' i)].getD y (.one undef)) (e' := fun y => .one (sb' y)) 4 rfl hs.vb (Knw.fact qM) eb (by omega) (by omega) fun vb' hvb' => ?_ | refine append_one (size := 1) (n := i) (el' := fun y => [Dat.one (sb' i)].getD y (.one undef)) (e' := fun y => .one (sb' y)) 5 rfl hs.vb (Knw.fact qM) eb (by omega) (by omega) fun vb' hvb' => ?_
                  refine eGo ⟨qM, trivial⟩ ?_
                  refine make_rule (t := 22) (d := I false []) a.length rfl rfl (by omega) (by omega) fun lr hlr => ?_
                  refine eGo ⟨qM, trivial⟩ ?_
                  refine buildSlice_fact (size := 1) (n := 1) [lr] [.one lr] rfl rfl (by decide) (by decide) ⟨Reads.one hlr.one, rfl, trivial⟩ fun q3 => ?_
                  refine eGo ⟨qM, trivial⟩ ?_
                  first | refine append_one (size := 1) (n := i) (el' := fun y => [Dat.one (su' i)].getD y (.one undef)) (e' := fun y => .one (su' y)) 6 rfl hs.vu (Knw.fact qM) eu (by omega) (by omega) fun vu' hvu' => ?_ | refine append_one (size := 1) (n := i) (el' := fun y => [Dat.one (su' i)].getD y (.one undef)) (e' := fun y => .one (su' y)) 7 rfl hs.vu (Knw.fact qM) eu (by omega) (by omega) fun vu' hvu' => ?_
                  refine eGo ⟨qM, trivial⟩ ?_
                  refine append_one (size := 1) (n := i) (el' := fun y => [Dat.one lr].getD y (.one undef)) (e' := fun y => .one (if y < i then s.sl y else lr)) 10 rfl hs.vl (Knw.fact qM) (fun y _ => by by_cases e : y < i <;> simp [e]) (by omega) (by omega) fun vl' hvl' => ?_
                  refine eGo ⟨qM, trivial⟩ ?_
                  refine field_ptr ?_
                  refine field_ptr ?_
                  refine store4 3 0 rfl rfl (by decide) hvb'.one (by kernel_rfl) ?_
                  refine field_ptr ?_
                  refine field_ptr ?_
                  refine store4 3 1 rfl rfl (by decide) hvu'.one (by kernel_rfl) ?_
                  refine field_ptr ?_
                  refine store4 3 3 rfl rfl (by decide) hvl'.one (by kernel_rfl) ?_
                  exact again (lr, vb', vu', vl') ⟨hlr, hvb', hvu', hvl'⟩ trivial qF (Seals.sub qD)
            · refine ord_split 10 26 (by kernel_rfl) (by kernel_rfl) (by kernel_rfl) ?_ ?_
              · refine ord_split 18 26 (by kernel_rfl) (by kernel_rfl) (by kernel_rfl) ?_ ?_
                · refine ordE_go [own4 (ptr0 s.r 0) s.vb s.vu s.vd s.vl] [7, 15, 22, 24] [9, 10, 17, 18, 25, 26, 27] [] [0, 1, 2, 3, 4, 5, 6, 7, 8, 11, 12, 13, 14, 15, 16, 19, 20, 21, 22, 23, 24, 17, 9, 25, 10, 18, 26, 27, 28, 29, 30, 31, 32, 33, 34, 35, 36, 37, 38] (by kernel_rfl) (by kernel_rfl) (by kernel_rfl) ?_
                  refine field_ptr ?_
                  refine field_ptr ?_
                  refine lookD (v := s.vb) ⟨qM, trivial⟩ rfl (lookE4 0 rfl (by decide)) ?_
                  refine field_ptr ?_
                  refine field_ptr ?_
                  refine lookD (v := s.vu) ⟨qM, trivial⟩ rfl (lookE4 1 rfl (by decide)) ?_
                  refine field_ptr ?_
                  refine lookD (v := s.vl) ⟨qM, trivial⟩ rfl (lookE4 3 rfl (by decide)) ?_
                  refine lookD (v := .int .i64 a.length) ⟨qM, trivial⟩ rfl (fun _ _ _ => len_eq hsv rfl) ?_
                  refine buildSlice_fact (size := 1) (n := 1) [su' i] [.one (su' i)] rfl rfl (by decide) (by decide) ⟨Reads.one hone.one, rfl, trivial⟩ fun q2 => ?_
                  refine eGo ⟨qM, trivial⟩ ?_
                  refine buildSlice_fact (size := 1) (n := 1) [sb' i] [.one (sb' i)] rfl rfl (by decide) (by decide) ⟨Reads.one hrow.one, rfl, trivial⟩ fun q1 => ?_
                  refine eGo ⟨qM, trivial⟩ ?_
                  refine make_rule (t := 22) (d := I false []) a.length rfl rfl (by omega) (by omega) fun lr hlr => ?_
                  refine eGo ⟨qM, trivial⟩ ?_
                  first | refine append_one (size := 1) (n := i) (el' := fun y => [Dat.one (sb' i)].getD y (.one undef)) (e' := fun y => .one (sb' y)) 4 rfl hs.vb (Knw.fact qM) eb (by omega) (by omega) fun vb' hvb' => ?_ | refine append_one (size := 1) (n := i) (el' := fun y => [Dat.one (sb' i)].getD y (.one undef)) (e' := fun y => .one (sb' y)) 5 rfl hs.vb (Knw.fact qM) eb (by omega) (by omega) fun vb' hvb' => ?_
                  refine eGo ⟨qM, trivial⟩ ?_
                  first | refine append_one (size := 1) (n := i) (el' := fun y => [Dat.one (su' i)].getD y (.one undef)) (e' := fun y => .one (su' y)) 6 rfl hs.vu (Knw.fact qM) eu (by omega) (by omega) fun vu' hvu' => ?_ | refine append_one (size := 1) (n := i) (el' := fun y => [Dat.one (su' i)].getD y (.one undef)) (e' := fun y => .one (su' y)) 7 rfl hs.vu (Knw.fact qM) eu (by omega) (by omega) fun vu' hvu' => ?_
                  refine eGo ⟨qM, trivial⟩ ?_
                  refine buildSlice_fact (size := 1) (n := 1) [lr] [.one lr] rfl rfl (by decide) (by decide) ⟨Reads.one hlr.one, rfl, trivial⟩ fun q3 => ?_
                  refine eGo ⟨qM, trivial⟩ ?_
                  refine append_one (size := 1) (n := i) (el' := fun y => [Dat.one lr].getD y (.one undef)) (e' := fun y => .one (if y < i then s.sl y else lr)) 10 rfl hs.vl (Knw.fact qM) (fun y _ => by by_cases e : y < i <;> simp [e]) (by omega) (by omega) fun vl' hvl' => ?_
                  refine eGo ⟨qM, trivial⟩ ?_
                  refine field_ptr ?_
                  refine field_ptr ?_
                  refine store4 3 0 rfl rfl (by decide) hvb'.one (by kernel_rfl) ?_
                  refine field_ptr ?_
                  refine field_ptr ?_
                  refine store4 3 1 rfl rfl (by decide) hvu'.one (by kernel_rfl) ?_
                  refine field_ptr ?_
                  refine store4 3 3 rfl rfl (by decide) hvl'.one (by kernel_rfl) ?_
                  exact again (lr, vb', vu', vl') ⟨hlr, hvb', hvu', hvl'⟩ trivial qF (Seals.sub qD)
                · refine ordE_go [own4 (ptr0 s.r 0) s.vb s.vu s.vd s.vl] [7, 15, 22, 24] [9, 10, 17, 18, 25, 26, 27] [] [0, 1, 2, 3, 4, 5, 6, 7, 8, 11, 12, 13, 14, 15, 16, 19, 20, 21, 22, 23, 24, 17, 9, 25, 10, 26, 18, 27, 28, 29, 30, 31, 32, 33, 34, 35, 36, 37, 38] (by kernel_rfl) (by kernel_rfl) (by kernel_rfl) ?_
                  refine field_ptr ?_
                  refine field_ptr ?_
                  refine lookD (v := s.vb) ⟨qM, trivial⟩ rfl (lookE4 0 rfl (by decide)) ?_
                  refine field_ptr ?_
                  refine field_ptr ?_
                  refine lookD (v := s.vu) ⟨qM, trivial⟩ rfl (lookE4 1 rfl (by decide)) ?_
                  refine field_ptr ?_
                  refine lookD (v := s.vl) ⟨qM, trivial⟩ rfl (lookE4 3 rfl (by decide)) ?_
                  refine lookD (v := .int .i64 a.length) ⟨qM, trivial⟩ rfl (fun _ _ _ => len_eq hsv rfl) ?_
                  refine buildSlice_fact (size := 1) (n := 1) [su' i] [.one (su' i)] rfl rfl (by decide) (by decide) ⟨Reads.one hone.one, rfl, trivial⟩ fun q2 => ?_
                  refine eGo ⟨qM, trivial⟩ ?_
                  refine buildSlice_fact (size := 1) (n := 1) [sb' i] [.one (sb' i)] rfl rfl (by decide) (by decide) ⟨Reads.one hrow.one, rfl, trivial⟩ fun q1 => ?_
                  refine eGo ⟨qM, trivial⟩ ?_
                  refine make_rule (t := 22) (d := I false []) a.length rfl rfl (by omega) (by omega) fun lr hlr => ?_
                  refine eGo ⟨qM, trivial⟩ ?_
                  first | refine append_one (size := 1) (n := i) (el' := fun y => [Dat.one (sb' i)].getD y (.one undef)) (e' := fun y => .one (sb' y)) 4 rfl hs.vb (Knw.fact qM) eb (by omega) (by omega) fun vb' hvb' => ?_ | refine append_one (size := 1) (n := i) (el' := fun y => [Dat.one (sb' i)].getD y (.one undef)) (e' := fun y => .one (sb' y)) 5 rfl hs.vb (Knw.fact qM) eb (by omega) (by omega) fun vb' hvb' => ?_
                  refine eGo ⟨qM, trivial⟩ ?_
                  refine buildSlice_fact (size := 1) (n := 1) [lr] [.one lr] rfl rfl (by decide) (by decide) ⟨Reads.one hlr.one, rfl, trivial⟩ fun q3 => ?_
                  refine eGo ⟨qM, trivial⟩ ?_
                  first | refine append_one (size := 1) (n := i) (el' := fun y => [Dat.one (su' i)].getD y (.one undef)) (e' := fun y => .one (su' y)) 6 rfl hs.vu (Knw.fact qM) eu (by omega) (by omega) fun vu' hvu' => ?_ | refine append_one (size := 1) (n := i) (el' := fun y => [Dat.one (su' i)].getD y (.one undef)) (e' := fun y => .one (su' y)) 7 rfl hs.vu (Knw.fact qM) eu (by omega) (by omega) fun vu' hvu' => ?_
                  refine eGo ⟨qM, trivial⟩ ?_
                  refine append_one (size := 1) (n := i) (el' := fun y => [Dat.one lr].getD y (.one undef)) (e' := fun y => .one (if y < i then s.sl y else lr)) 10 rfl hs.vl (Knw.fact qM) (fun y _ => by by_cases e : y < i <;> simp [e]) (by omega) (by omega) fun vl' hvl' => ?_
                  refine eGo ⟨qM, trivial⟩ ?_
                  refine field_ptr ?_
                  refine field_ptr ?_
                  refine store4 3 0 rfl rfl (by decide) hvb'.one (by kernel_rfl) ?_
                  refine field_ptr ?_
                  refine field_ptr ?_
                  refine store4 3 1 rfl rfl (by decide) hvu'.one (by kernel_rfl) ?_
                  refine field_ptr ?_
                  refine store4 3 3 rfl rfl (by decide) hvl'.one (by kernel_rfl) ?_
                  exact again (lr, vb', vu', vl') ⟨hlr, hvb', hvu', hvl'⟩ trivial qF (Seals.sub qD)
              · refine ordE_go [own4 (ptr0 s.r 0) s.vb s.vu s.vd s.vl] [7, 15, 22, 24] [9, 10, 17, 18, 25, 26, 27] [] [0, 1, 2, 3, 4, 5, 6, 7, 8, 11, 12, 13, 14, 15, 16, 19, 20, 21, 22, 23, 24, 17, 9, 25, 26, 10, 18, 27, 28, 29, 30, 31, 32, 33, 34, 35, 36, 37, 38] (by kernel_rfl) (by kernel_rfl) (by kernel_rfl) ?_
                refine field_ptr ?_
                refine field_ptr ?_
                refine lookD (v := s.vb) ⟨qM, trivial⟩ rfl (lookE4 0 rfl (by decide)) ?_
                refine field_ptr ?_
                refine field_ptr ?_
                refine lookD (v := s.vu) ⟨qM, trivial⟩ rfl (lookE4 1 rfl (by decide)) ?_
                refine field_ptr ?_
                refine lookD (v := s.vl) ⟨qM, trivial⟩ rfl (lookE4 3 rfl (by decide)) ?_
                refine lookD (v := .int .i64 a.length) ⟨qM, trivial⟩ rfl (fun _ _ _ => len_eq hsv rfl) ?_
                refine buildSlice_fact (size := 1) (n := 1) [su' i] [.one (su' i)] rfl rfl (by decide) (by decide) ⟨Reads.one hone.one, rfl, trivial⟩ fun q2 => ?_
                refine eGo ⟨qM, trivial⟩ ?_
                refine buildSlice_fact (size := 1) (n := 1) [sb' i] [.one (sb' i)] rfl rfl (by decide) (by decide) ⟨Reads.one hrow.one, rfl, trivial⟩ fun q1 => ?_
                refine eGo ⟨qM, trivial⟩ ?_
                refine make_rule (t := 22) (d := I false []) a.length rfl rfl (by omega) (by omega) fun lr hlr => ?_
                refine eGo ⟨qM, trivial⟩ ?_
                refine buildSlice_fact (size := 1) (n := 1) [lr] [.one lr] rfl rfl (by decide) (by decide) ⟨Reads.one hlr.one, rfl, trivial⟩ fun q3 => ?_
                refine eGo ⟨qM, trivial⟩ ?_
                first | refine append_one (size := 1) (n := i) (el' := fun y => [Dat.one (sb' i)].getD y (.one undef)) (e' := fun y => .one (sb' y)) 4 rfl hs.vb (Knw.fact qM) eb (by omega) (by omega) fun vb' hvb' => ?_ | refine append_one (size := 1) (n := i) (el' := fun y => [Dat.one (sb' i)].getD y (.one undef)) (e' := fun y => .one (sb' y)) 5 rfl hs.vb (Knw.fact qM) eb (by omega) (by omega) fun vb' hvb' => ?_
                refine eGo ⟨qM, trivial⟩ ?_
                first | refine append_one (size := 1) (n := i) (el' := fun y => [Dat.one (su' i)].getD y (.one undef)) (e' := fun y => .one (su' y)) 6 rfl hs.vu (Knw.fact qM) eu (by omega) (by omega) fun vu' hvu' => ?_ | refine append_one (size := 1) (n := i) (el' := fun y => [Dat.one (su' i)].getD y (.one undef)) (e' := fun y => .one (su' y)) 7 rfl hs.vu (Knw.fact qM) eu (by omega) (by omega) fun vu' hvu' => ?_
                refine eGo ⟨qM, trivial⟩ ?_
                refine append_one (size := 1) (n := i) (el' := fun y => [Dat.one lr].getD y (.one undef)) (e' := fun y => .one (if y < i then s.sl y else lr)) 10 rfl hs.vl (Knw.fact qM) (fun y _ => by by_cases e : y < i <;> simp [e]) (by omega) (by omega) fun vl' hvl' => ?_
                refine eGo ⟨qM, trivial⟩ ?_
                refine field_ptr ?_
                refine field_ptr ?_
                refine store4 3 0 rfl rfl (by decide) hvb'.one (by kernel_rfl) ?_
                refine field_ptr ?_
                refine field_ptr ?_
                refine store4 3 1 rfl rfl (by decide) hvu'.one (by kernel_rfl) ?_
                refine field_ptr ?_
                refine store4 3 3 rfl rfl (by decide) hvl'.one (by kernel_rfl) ?_
                exact again (lr, vb', vu', vl') ⟨hlr, hvb', hvu', hvl'⟩ trivial qF (Seals.sub qD)
          · refine ord_split 9 26 (by kernel_rfl) (by kernel_rfl) (by kernel_rfl) ?_ ?_
            · refine ord_split 10 26 (by kernel_rfl) (by kernel_rfl) (by kernel_rfl) ?_ ?_
              · refine ord_split 17 25 (by kernel_rfl) (by kernel_rfl) (by kernel_rfl) ?_ ?_
                · refine ord_split 18 26 (by kernel_rfl) (by kernel_rfl) (by kernel_rfl) ?_ ?_
                  · refine ordE_go [own4 (ptr0 s.r 0) s.vb s.vu s.vd s.vl] [7, 15, 22, 24] [9, 10, 17, 18, 25, 26, 27] [] [0, 1, 2, 3, 4, 5, 6, 7, 8, 11, 12, 13, 14, 15, 16, 19, 20, 21, 22, 23, 24, 17, 25, 9, 10, 18, 26, 27, 28, 29, 30, 31, 32, 33, 34, 35, 36, 37, 38] (by kernel_rfl) (by kernel_rfl) (by kernel_rfl) ?_
                    refine field_ptr ?_
                    refine field_ptr ?_
                    refine lookD (v := s.vb) ⟨qM, trivial⟩ rfl (lookE4 0 rfl (by decide)) ?_
                    refine field_ptr ?_
                    refine field_ptr ?_
                    refine lookD (v := s.vu) ⟨qM, trivial⟩ rfl (lookE4 1 rfl (by decide)) ?_
                    refine field_ptr ?_
                    refine lookD (v := s.vl) ⟨qM, trivial⟩ rfl (lookE4 3 rfl (by decide)) ?_
                    refine lookD (v := .int .i64 a.length) ⟨qM, trivial⟩ rfl (fun _ _ _ => len_eq hsv rfl) ?_
                    refine buildSlice_fact (size := 1) (n := 1) [su' i] [.one (su' i)] rfl rfl (by decide) (by decide) ⟨Reads.one hone.one, rfl, trivial⟩ fun q2 => ?_
                    refine eGo ⟨qM, trivial⟩ ?_
                    refine make_rule (t := 22) (d := I false []) a.length rfl rfl (by omega) (by omega) fun lr hlr => ?_
                    refine eGo ⟨qM, trivial⟩ ?_
                    refine buildSlice_fact (size := 1) (n := 1) [sb' i] [.one (sb' i)] rfl rfl (by decide) (by decide) ⟨Reads.one hrow.one, rfl, trivial⟩ fun q1 => ?_
                    refine eGo ⟨qM, trivial⟩ ?_
                    first | refine append_one (size := 1) (n := i) (el' := fun y => [Dat.one (sb' i)].getD y (.one undef)) (e' := fun y => .one (sb' y)) 4 rfl hs.vb (Knw.fact qM) eb (by omega) (by omega) fun vb' hvb' => ?_ | refine append_one (size := 1) (n := i) (el' := fun y => [Dat.one (sb' i)].getD y (.one undef)) (e' := fun y => .one (sb' y)) 5 rfl hs.vb (Knw.fact qM) eb (by omega) (by omega) fun vb' hvb' => ?_
                    refine eGo ⟨qM, trivial⟩ ?_
                    first | refine append_one (size := 1) (n := i) (el' := fun y => [Dat.one (su' i)].getD y (.one undef)) (e' := fun y => .one (su' y)) 6 rfl hs.vu (Knw.fact qM) eu (by omega) (by omega) fun vu' hvu' => ?_ | refine append_one (size := 1) (n := i) (el' := fun y => [Dat.one (su' i)].getD y (.one undef)) (e' := fun y => .one (su' y)) 7 rfl hs.vu (Knw.fact qM) eu (by omega) (by omega) fun vu' hvu' => ?_
                    refine eGo ⟨qM, trivial⟩ ?_
                    refine buildSlice_fact (size := 1) (n := 1) [lr] [.one lr] rfl rfl (by decide) (by decide) ⟨Reads.one hlr.one, rfl, trivial⟩ fun q3 => ?_
                    refine eGo ⟨qM, trivial⟩ ?_
                    refine append_one (size := 1) (n := i) (el' := fun y => [Dat.one lr].getD y (.one undef)) (e' := fun y => .one (if y < i then s.sl y else lr)) 10 rfl hs.vl (Knw.fact qM) (fun y _ => by by_cases e : y < i <;> simp [e]) (by omega) (by omega) fun vl' hvl' => ?_
                    refine eGo ⟨qM, trivial⟩ ?_
                    refine field_ptr ?_
                    refine field_ptr ?_
                    refine store4 3 0 rfl rfl (by decide) hvb'.one (by kernel_rfl) ?_
                    refine field_ptr ?_
                    refine field_ptr ?_
                    refine store4 3 1 rfl rfl (by decide) hvu'.one (by kernel_rfl) ?_
                    refine field_ptr ?_
                    refine store4 3 3 rfl rfl (by decide) hvl'.one (by kernel_rfl) ?_
                    exact again (lr, vb', vu', vl') ⟨hlr, hvb', hvu', hvl'⟩ trivial qF (Seals.sub qD)
                  · refine ordE_go [own4 (ptr0 s.r 0) s.vb s.vu s.vd s.vl] [7, 15, 22, 24] [9, 10, 17, 18, 25, 26, 27] [] [0, 1, 2, 3, 4, 5, 6, 7, 8, 11, 12, 13, 14, 15, 16, 19, 20, 21, 22, 23, 24, 17, 25, 9, 10, 26, 18, 27, 28, 29, 30, 31, 32, 33, 34, 35, 36, 37, 38] (by kernel_rfl) (by kernel_rfl) (by kernel_rfl) ?_
                    refine field_ptr ?_
                    refine field_ptr ?_
                    refine lookD (v := s.vb) ⟨qM, trivial⟩ rfl (lookE4 0 rfl (by decide)) ?_
                    refine field_ptr ?_
                    refine field_ptr ?_
                    refine lookD (v := s.vu) ⟨qM, trivial⟩ rfl (lookE4 1 rfl (by decide)) ?_
                    refine field_ptr ?_
                    refine lookD (v := s.vl) ⟨qM, trivial⟩ rfl (lookE4 3 rfl (by decide)) ?_
                    refine lookD (v := .int .i64 a.length) ⟨qM, trivial⟩ rfl (fun _ _ _ => len_eq hsv rfl) ?_
                    refine buildSlice_fact (size := 1) (n := 1) [su' i] [.one (su' i)] rfl rfl (by decide) (by decide) ⟨Reads.one hone.one, rfl, trivial⟩ fun q2 => ?_
                    refine eGo ⟨qM, trivial⟩ ?_
                    refine make_rule (t := 22) (d := I false []) a.length rfl rfl (by omega) (by omega) fun lr hlr => ?_
                    refine eGo ⟨qM, trivial⟩ ?_
                    refine buildSlice_fact (size := 1) (n := 1) [sb' i] [.one (sb' i)] rfl rfl (by decide) (by decide) ⟨Reads.one hrow.one, rfl, trivial⟩ fun q1 => ?_
                    refine eGo ⟨qM, trivial⟩ ?_
                    first | refine append_one (size := 1) (n := i) (el' := fun y => [Dat.one (sb' i)].getD y (.one undef)) (e' := fun y => .one (sb' y)) 4 rfl hs.vb (Knw.fact qM) eb (by omega) (by omega) fun vb' hvb' => ?_ | refine append_one (size := 1) (n := i) (el' := fun y => [Dat.one (sb' i)].getD y (.one undef)) (e' := fun y => .one (sb' y)) 5 rfl hs.vb (Knw.fact qM) eb (by omega) (by omega) fun vb' hvb' => ?_
                    refine eGo ⟨qM, trivial⟩ ?_
                    refine buildSlice_fact (size := 1) (n := 1) [lr] [.one lr] rfl rfl (by decide) (by decide) ⟨Reads.one hlr.one, rfl, trivial⟩ fun q3 => ?_
                    refine eGo ⟨qM, trivial⟩ ?_
                    first | refine append_one (size := 1) (n := i) (el' := fun y => [Dat.one (su' i)].getD y (.one undef)) (e' := fun y => .one (su' y)) 6 rfl hs.vu (Knw.fact qM) eu (by omega) (by omega) fun vu' hvu' => ?_ | refine append_one (size := 1) (n := i) (el' := fun y => [Dat.one (su' i)].getD y (.one undef)) (e' := fun y => .one (su' y)) 7 rfl hs.vu (Knw.fact qM) eu (by omega) (by omega) fun vu' hvu' => ?_
                    refine eGo ⟨qM, trivial⟩ ?_
                    refine append_one (size := 1) (n := i) (el' := fun y => [Dat.one lr].getD y (.one undef)) (e' := fun y => .one (if y < i then s.sl y else lr)) 10 rfl hs.vl (Knw.fact qM) (fun y _ => by by_cases e : y < i <;> simp [e]) (by omega) (by omega) fun vl' hvl' => ?_
                    refine eGo ⟨qM, trivial⟩ ?_
                    refine field_ptr ?_
                    refine field_ptr ?_
                    refine store4 3 0 rfl rfl (by decide) hvb'.one (by kernel_rfl) ?_
                    refine field_ptr ?_
                    refine field_ptr ?_
                    refine store4 3 1 rfl rfl (by decide) hvu'.one (by kernel_rfl) ?_
                    refine field_ptr ?_
                    refine store4 3 3 rfl rfl (by decide) hvl'.one (by kernel_rfl) ?_
                    exact again (lr, vb', vu', vl') ⟨hlr, hvb', hvu', hvl'⟩ trivial qF (Seals.sub qD)
                · refine ord_split 18 26 (by kernel_rfl) (by kernel_rfl) (by kernel_rfl) ?_ ?_
                  · refine ordE_go [own4 (ptr0 s.r 0) s.vb s.vu s.vd s.vl] [7, 15, 22, 24] [9, 10, 17, 18, 25, 26, 27] [] [0, 1, 2, 3, 4, 5, 6, 7, 8, 11, 12, 13, 14, 15, 16, 19, 20, 21, 22, 23, 24, 25, 17, 9, 10, 18, 26, 27, 28, 29, 30, 31, 32, 33, 34, 35, 36, 37, 38] (by kernel_rfl) (by kernel_rfl) (by kernel_rfl) ?_
                    refine field_ptr ?_
                    refine field_ptr ?_
                    refine lookD (v := s.vb) ⟨qM, trivial⟩ rfl (lookE4 0 rfl (by decide)) ?_
                    refine field_ptr ?_
                    refine field_ptr ?_
                    refine lookD (v := s.vu) ⟨qM, trivial⟩ rfl (lookE4 1 rfl (by decide)) ?_
                    refine field_ptr ?_
                    refine lookD (v := s.vl) ⟨qM, trivial⟩ rfl (lookE4 3 rfl (by decide)) ?_
                    refine lookD (v := .int .i64 a.length) ⟨qM, trivial⟩ rfl (fun _ _ _ => len_eq hsv rfl) ?_
                    refine make_rule (t := 22) (d := I false []) a.length rfl rfl (by omega) (by omega) fun lr hlr => ?_
                    refine eGo ⟨qM, trivial⟩ ?_
                    refine buildSlice_fact (size := 1) (n := 1) [su' i] [.one (su' i)] rfl rfl (by decide) (by decide) ⟨Reads.one hone.one, rfl, trivial⟩ fun q2 => ?_
                    refine eGo ⟨qM, trivial⟩ ?_
                    refine buildSlice_fact (size := 1) (n := 1) [sb' i] [.one (sb' i)] rfl rfl (by decide) (by decide) ⟨Reads.one hrow.one, rfl, trivial⟩ fun q1 => ?_
                    refine eGo ⟨qM, trivial⟩ ?_
                    first | refine append_one (size := 1) (n := i) (el' := fun y => [Dat.one (sb' i)].getD y (.one undef)) (e' := fun y => .one (sb' y)) 4 rfl hs.vb (Knw.fact qM) eb (by omega) (by omega) fun vb' hvb' => ?_ | refine append_one (size := 1) (n := i) (el' := fun y => [Dat.one (sb' i)].getD y (.one undef)) (e' := fun y => .one (sb' y)) 5 rfl hs.vb (Knw.fact qM) eb (by omega) (by omega) fun vb' hvb' => ?_
                    refine eGo ⟨qM, trivial⟩ ?_
                    first | refine append_one (size := 1) (n := i) (el' := fun y => [Dat.one (su' i)].getD y (.one undef)) (e' := fun y => .one (su' y)) 6 rfl hs.vu (Knw.fact qM) eu (by omega) (by omega) fun vu' hvu' => ?_ | refine append_one (size := 1) (n := i) (el' := fun y => [Dat.one (su' i)].getD y (.one undef)) (e' := fun y => .one (su' y)) 7 rfl hs.vu (Knw.fact qM) eu (by omega) (by omega) fun vu' hvu' => ?_
                    refine eGo ⟨qM, trivial⟩ ?_
                    refine buildSlice_fact (size := 1) (n := 1) [lr] [.one lr] rfl rfl (by decide) (by decide) ⟨Reads.one hlr.one, rfl, trivial⟩ fun q3 => ?_
                    refine eGo ⟨qM, trivial⟩ ?_
                    refine append_one (size := 1) (n := i) (el' := fun y => [Dat.one lr].getD y (.one undef)) (e' := fun y => .one (if y < i then s.sl y else lr)) 10 rfl hs.vl (Knw.fact qM) (fun y _ => by by_cases e : y < i <;> simp [e]) (by omega) (by omega) fun vl' hvl' => ?_
                    refine eGo ⟨qM, trivial⟩ ?_
                    refine field_ptr ?_
                    refine field_ptr ?_
                    refine store4 3 0 rfl rfl (by decide) hvb'.one (by kernel_rfl) ?_
                    refine field_ptr ?_
                    refine field_ptr ?_
                    refine store4 3 1 rfl rfl (by decide) hvu'.one (by kernel_rfl) ?_
                    refine field_ptr ?_
                    refine store4 3 3 rfl rfl (by decide) hvl'.one (by kernel_rfl) ?_
                    exact again (lr, vb', vu', vl') ⟨hlr, hvb', hvu', hvl'⟩ trivial qF (Seals.sub qD)
                  · refine ordE_go [own4 (ptr0 s.r 0) s.vb s.vu s.vd s.vl] [7, 15, 22, 24] [9, 10, 17, 18, 25, 26, 27] [] [0, 1, 2, 3, 4, 5, 6, 7, 8, 11, 12, 13, 14, 15, 16, 19, 20, 21, 22, 23, 24, 25, 17, 9, 10, 26, 18, 27, 28, 29, 30, 31, 32, 33, 34, 35, 36, 37, 38] (by kernel_rfl) (by kernel_rfl) (by kernel_rfl) ?_
                    refine field_ptr ?_
                    refine field_ptr ?_
                    refine lookD (v := s.vb) ⟨qM, trivial⟩ rfl (lookE4 0 rfl (by decide)) ?_
                    refine field_ptr ?_
                    refine field_ptr ?_
                    refine lookD (v := s.vu) ⟨qM, trivial⟩ rfl (lookE4 1 rfl (by decide)) ?_
                    refine field_ptr ?_
                    refine lookD (v := s.vl) ⟨qM, trivial⟩ rfl (lookE4 3 rfl (by decide)) ?_
                    refine lookD (v := .int .i64 a.length) ⟨qM, trivial⟩ rfl (fun _ _ _ => len_eq hsv rfl) ?_
                    refine make_rule (t := 22) (d := I false []) a.length rfl rfl (by omega) (by omega) fun lr hlr => ?_
                    refine eGo ⟨qM, trivial⟩ ?_
                    refine buildSlice_fact (size := 1) (n := 1) [su' i] [.one (su' i)] rfl rfl (by decide) (by decide) ⟨Reads.one hone.one, rfl, trivial⟩ fun q2 => ?_
                    refine eGo ⟨qM, trivial⟩ ?_
                    refine buildSlice_fact (size := 1) (n := 1) [sb' i] [.one (sb' i)] rfl rfl (by decide) (by decide) ⟨Reads.one hrow.one, rfl, trivial⟩ fun q1 => ?_
                    refine eGo ⟨qM, trivial⟩ ?_
                    first | refine append_one (size := 1) (n := i) (el' := fun y => [Dat.one (sb' i)].getD y (.one undef)) (e' := fun y => .one (sb' y)) 4 rfl hs.vb (Knw.fact qM) eb (by omega) (by omega) fun vb' hvb' => ?_ | refine append_one (size := 1) (n := i) (el' := fun y => [Dat.one (sb' i)].getD y (.one undef)) (e' := fun y => .one (sb' y)) 5 rfl hs.vb (Knw.fact qM) eb (by omega) (by omega) fun vb' hvb' => ?_
                    refine eGo ⟨qM, trivial⟩ ?_
                    refine buildSlice_fact (size := 1) (n := 1) [lr] [.one lr] rfl rfl (by decide) (by decide) ⟨Reads.one hlr.one, rfl, trivial⟩ fun q3 => ?_
                    refine eGo ⟨qM, trivial⟩ ?_
                    first | refine append_one (size := 1) (n := i) (el' := fun y => [Dat.one (su' i)].getD y (.one undef)) (e' := fun y => .one (su' y)) 6 rfl hs.vu (Knw.fact qM) eu (by omega) (by omega) fun vu' hvu' => ?_ | refine append_one (size := 1) (n := i) (el' := fun y => [Dat.one (su' i)].getD y (.one undef)) (e' := fun y => .one (su' y)) 7 rfl hs.vu (Knw.fact qM) eu (by omega) (by omega) fun vu' hvu' => ?_
                    refine eGo ⟨qM, trivial⟩ ?_
                    refine append_one (size := 1) (n := i) (el' := fun y => [Dat.one lr].getD y (.one undef)) (e' := fun y => .one (if y < i then s.sl y else lr)) 10 rfl hs.vl (Knw.fact qM) (fun y _ => by by_cases e : y < i <;> simp [e]) (by omega) (by omega) fun vl' hvl' => ?_
                    refine eGo ⟨qM, trivial⟩ ?_
                    refine field_ptr ?_
                    refine field_ptr ?_
                    refine store4 3 0 rfl rfl (by decide) hvb'.one (by kernel_rfl) ?_
                    refine field_ptr ?_
                    refine field_ptr ?_
                    refine store4 3 1 rfl rfl (by decide) hvu'.one (by kernel_rfl) ?_
                    refine field_ptr ?_
                    refine store4 3 3 rfl rfl (by decide) hvl'.one (by kernel_rfl) ?_
                    exact again (lr, vb', vu', vl') ⟨hlr, hvb', hvu', hvl'⟩ trivial qF (Seals.sub qD)
              · refine ord_split 17 25 (by kernel_rfl) (by kernel_rfl) (by kernel_rfl) ?_ ?_
                · refine ordE_go [own4 (ptr0 s.r 0) s.vb s.vu s.vd s.vl] [7, 15, 22, 24] [9, 10, 17, 18, 25, 26, 27] [] [0, 1, 2, 3, 4, 5, 6, 7, 8, 11, 12, 13, 14, 15, 16, 19, 20, 21, 22, 23, 24, 17, 25, 9, 26, 10, 18, 27, 28, 29, 30, 31, 32, 33, 34, 35, 36, 37, 38] (by kernel_rfl) (by kernel_rfl) (by kernel_rfl) ?_
                  refine field_ptr ?_
                  refine field_ptr ?_
                  refine lookD (v := s.vb) ⟨qM, trivial⟩ rfl (lookE4 0 rfl (by decide)) ?_
                  refine field_ptr ?_
                  refine field_ptr ?_
                  refine lookD (v := s.vu) ⟨qM, trivial⟩ rfl (lookE4 1 rfl (by decide)) ?_
                  refine field_ptr ?_
                  refine lookD (v := s.vl) ⟨qM, trivial⟩ rfl (lookE4 3 rfl (by decide)) ?_
                  refine lookD (v := .int .i64 a.length) ⟨qM, trivial⟩ rfl (fun _ _ _ => len_eq hsv rfl) ?_
                  refine buildSlice_fact (size := 1) (n := 1) [su' i] [.one (su' i)] rfl rfl (by decide) (by decide) ⟨Reads.one hone.one, rfl, trivial⟩ fun q2 => ?_
                  refine eGo ⟨qM, trivial⟩ ?_
                  refine make_rule (t := 22) (d := I false []) a.length rfl rfl (by omega) (by omega) fun lr hlr => ?_
                  refine eGo ⟨qM, trivial⟩ ?_
                  refine buildSlice_fact (size := 1) (n := 1) [sb' i] [.one (sb' i)] rfl rfl (by decide) (by decide) ⟨Reads.one hrow.one, rfl, trivial⟩ fun q1 => ?_
                  refine eGo ⟨qM, trivial⟩ ?_
                  refine buildSlice_fact (size := 1) (n := 1) [lr] [.one lr] rfl rfl (by decide) (by decide) ⟨Reads.one hlr.one, rfl, trivial⟩ fun q3 => ?_
                  refine eGo ⟨qM, trivial⟩ ?_
                  first | refine append_one (size := 1) (n := i) (el' := fun y => [Dat.one (sb' i)].getD y (.one undef)) (e' := fun y => .one (sb' y)) 4 rfl hs.vb (Knw.fact qM) eb (by omega) (by omega) fun vb' hvb' => ?_ | refine append_one (size := 1) (n := i) (el' := fun y => [Dat.one (sb' i)].getD y (.one undef)) (e' := fun y => .one (sb' y)) 5 rfl hs.vb (Knw.fact qM) eb (by omega) (by omega) fun vb' hvb' => ?_
                  refine eGo ⟨qM, trivial⟩ ?_
                  first | refine append_one (size := 1) (n := i) (el' := fun y => [Dat.one (su' i)].getD y (.one undef)) (e' := fun y => .one (su' y)) 6 rfl hs.vu (Knw.fact qM) eu (by omega) (by omega) fun vu' hvu' => ?_ | refine append_one (size := 1) (n := i) (el' := fun y => [Dat.one (su' i)].getD y (.one undef)) (e' := fun y => .one (su' y)) 7 rfl hs.vu (Knw.fact qM) eu (by omega) (by omega) fun vu' hvu' => ?_
                  refine eGo ⟨qM, trivial⟩ ?_
                  refine append_one (size := 1) (n := i) (el' := fun y => [Dat.one lr].getD y (.one undef)) (e' := fun y => .one (if y < i then s.sl y else lr)) 10 rfl hs.vl (Knw.fact qM) (fun y _ => by by_cases e : y < i <;> simp [e]) (by omega) (by omega) fun vl' hvl' => ?_
                  refine eGo ⟨qM, trivial⟩ ?_
                  refine field_ptr ?_
                  refine field_ptr ?_
                  refine store4 3 0 rfl rfl (by decide) hvb'.one (by kernel_rfl) ?_
                  refine field_ptr ?_
                  refine field_ptr ?_
                  refine store4 3 1 rfl rfl (by decide) hvu'.one (by kernel_rfl) ?_
                  refine field_ptr ?_
                  refine store4 3 3 rfl rfl (by decide) hvl'.one (by kernel_rfl) ?_
                  exact again (lr, vb', vu', vl') ⟨hlr, hvb', hvu', hvl'⟩ trivial qF (Seals.sub qD)
                · refine ordE_go [own4 (ptr0 s.r 0) s.vb s.vu s.vd s.vl] [7, 15, 22, 24] [9, 10, 17, 18, 25, 26, 27] [] [0, 1, 2, 3, 4, 5, 6, 7, 8, 11, 12, 13, 14, 15, 16, 19, 20, 21, 22, 23, 24, 25, 17, 9, 26, 10, 18, 27, 28, 29, 30, 31, 32, 33, 34, 35, 36, 37, 38] (by kernel_rfl) (by kernel_rfl) (by kernel_rfl) ?_
                  refine field_ptr ?_
                  refine field_ptr ?_
                  refine lookD (v := s.vb) ⟨qM, trivial⟩ rfl (lookE4 0 rfl (by decide)) ?_
                  refine field_ptr ?_
                  refine field_ptr ?_
                  refine lookD (v := s.vu) ⟨qM, trivial⟩ rfl (lookE4 1 rfl (by decide)) ?_
                  refine field_ptr ?_
                  refine lookD (v := s.vl) ⟨qM, trivial⟩ rfl (lookE4 3 rfl (by decide)) ?_
                  refine lookD (v := .int .i64 a.length) ⟨qM, trivial⟩ rfl (fun _ _ _ => len_eq hsv rfl) ?_
                  refine make_rule (t := 22) (d := I false []) a.length rfl rfl (by omega) (by omega) fun lr hlr => ?_
                  refine eGo ⟨qM, trivial⟩ ?_
                  refine buildSlice_fact (size := 1) (n := 1) [su' i] [.one (su' i)] rfl rfl (by decide) (by decide) ⟨Reads.one hone.one, rfl, trivial⟩ fun q2 => ?_
                  refine eGo ⟨qM, trivial⟩ ?_
                  refine buildSlice_fact (size := 1) (n := 1) [sb' i] [.one (sb' i)] rfl rfl (by decide) (by decide) ⟨Reads.one hrow.one, rfl, trivial⟩ fun q1 => ?_
                  refine eGo ⟨qM, trivial⟩ ?_
                  refine buildSlice_fact (size := 1) (n := 1) [lr] [.one lr] rfl rfl (by decide) (by decide) ⟨Reads.one hlr.one, rfl, trivial⟩ fun q3 => ?_
                  refine eGo ⟨qM, trivial⟩ ?_
                  first | refine append_one (size := 1) (n := i) (el' := fun y => [Dat.one (sb' i)].getD y (.one undef)) (e' := fun y => .one (sb' y)) 4 rfl hs.vb (Knw.fact qM) eb (by omega) (by omega) fun vb' hvb' => ?_ | refine append_one (size := 1) (n := i) (el' := fun y => [Dat.one (sb' i)].getD y (.one undef)) (e' := fun y => .one (sb' y)) 5 rfl hs.vb (Knw.fact qM) eb (by omega) (by omega) fun vb' hvb' => ?_
                  refine eGo ⟨qM, trivial⟩ ?_
                  first | refine append_one (size := 1) (n := i) (el' := fun y => [Dat.one (su' i)].getD y (.one undef)) (e' := fun y => .one (su' y)) 6 rfl hs.vu (Knw.fact qM) eu (by omega) (by omega) fun vu' hvu' => ?_ | refine append_one (size := 1) (n := i) (el' := fun y => [Dat.one (su' i)].getD y (.one undef)) (e' := fun y => .one (su' y)) 7 rfl hs.vu (Knw.fact qM) eu (by omega) (by omega) fun vu' hvu' => ?_
                  refine eGo ⟨qM, trivial⟩ ?_
                  refine append_one (size := 1) (n := i) (el' := fun y => [Dat.one lr].getD y (.one undef)) (e' := fun y => .one (if y < i then s.sl y else lr)) 10 rfl hs.vl (Knw.fact qM) (fun y _ => by by_cases e : y < i <;> simp [e]) (by omega) (by omega) fun vl' hvl' => ?_
                  refine eGo ⟨qM, trivial⟩ ?_
                  refine field_ptr ?_
                  refine field_ptr ?_
                  refine store4 3 0 rfl rfl (by decide) hvb'.one (by kernel_rfl) ?_
                  refine field_ptr ?_
                  refine field_ptr ?_
                  refine store4 3 1 rfl rfl (by decide) hvu'.one (by kernel_rfl) ?_
                  refine field_ptr ?_
                  refine store4 3 3 rfl rfl (by decide) hvl'.one (by kernel_rfl) ?_
                  exact again (lr, vb', vu', vl') ⟨hlr, hvb', hvu', hvl'⟩ trivial qF (Seals.sub qD)
            · refine ord_split 17 25 (by kernel_rfl) (by kernel_rfl) (by kernel_rfl) ?_ ?_
              · refine ordE_go [own4 (ptr0 s.r 0) s.vb s.vu s.vd s.vl] [7, 15, 22, 24] [9, 10, 17, 18, 25, 26, 27] [] [0, 1, 2, 3, 4, 5, 6, 7, 8, 11, 12, 13, 14, 15, 16, 19, 20, 21, 22, 23, 24, 17, 25, 26, 9, 10, 18, 27, 28, 29, 30, 31, 32, 33, 34, 35, 36, 37, 38] (by kernel_rfl) (by kernel_rfl) (by kernel_rfl) ?_
                refine field_ptr ?_
                refine field_ptr ?_
                refine lookD (v := s.vb) ⟨qM, trivial⟩ rfl (lookE4 0 rfl (by decide)) ?_
                refine field_ptr ?_
                refine field_ptr ?_
                refine lookD (v := s.vu) ⟨qM, trivial⟩ rfl (lookE4 1 rfl (by decide)) ?_
                refine field_ptr ?_
                refine lookD (v := s.vl) ⟨qM, trivial⟩ rfl (lookE4 3 rfl (by decide)) ?_
                refine lookD (v := .int .i64 a.length) ⟨qM, trivial⟩ rfl (fun _ _ _ => len_eq hsv rfl) ?_
                refine buildSlice_fact (size := 1) (n := 1) [su' i] [.one (su' i)] rfl rfl (by decide) (by decide) ⟨Reads.one hone.one, rfl, trivial⟩ fun q2 => ?_
                refine eGo ⟨qM, trivial⟩ ?_
                refine make_rule (t := 22) (d := I false []) a.length rfl rfl (by omega) (by omega) fun lr hlr => ?_
                refine eGo ⟨qM, trivial⟩ ?_
                refine buildSlice_fact (size := 1) (n := 1) [lr] [.one lr] rfl rfl (by decide) (by decide) ⟨Reads.one hlr.one, rfl, trivial⟩ fun q3 => ?_
                refine eGo ⟨qM, trivial⟩ ?_
                refine buildSlice_fact (size := 1) (n := 1) [sb' i] [.one (sb' i)] rfl rfl (by decide) (by decide) ⟨Reads.one hrow.one, rfl, trivial⟩ fun q1 => ?_
                refine eGo ⟨qM, trivial⟩ ?_
                first | refine append_one (size := 1) (n := i) (el' := fun y => [Dat.one (sb' i)].getD y (.one undef)) (e' := fun y => .one (sb' y)) 4 rfl hs.vb (Knw.fact qM) eb (by omega) (by omega) fun vb' hvb' => ?_ | refine append_one (size := 1) (n := i) (el' := fun y => [Dat.one (sb' i)].getD y (.one undef)) (e' := fun y => .one (sb' y)) 5 rfl hs.vb (Knw.fact qM) eb (by omega) (by omega) fun vb' hvb' => ?_
                refine eGo ⟨qM, trivial⟩ ?_
                first | refine append_one (size := 1) (n := i) (el' := fun y => [Dat.one (su' i)].getD y (.one undef)) (e' := fun y => .one (su' y)) 6 rfl hs.vu (Knw.fact qM) eu (by omega) (by omega) fun vu' hvu' => ?_ | refine append_one (size := 1) (n := i) (el' := fun y => [Dat.one (su' i)].getD y (.one undef)) (e' := fun y => .one (su' y)) 7 rfl hs.vu (Knw.fact qM) eu (by omega) (by omega) fun vu' hvu' => ?_
                refine eGo ⟨qM, trivial⟩ ?_
                refine append_one (size := 1) (n := i) (el' := fun y => [Dat.one lr].getD y (.one undef)) (e' := fun y => .one (if y < i then s.sl y else lr)) 10 rfl hs.vl (Knw.fact qM) (fun y _ => by by_cases e : y < i <;> simp [e]) (by omega) (by omega) fun vl' hvl' => ?_
                refine eGo ⟨qM, trivial⟩ ?_
                refine field_ptr ?_
                refine field_ptr ?_
                refine store4 3 0 rfl rfl (by decide) hvb'.one (by kernel_rfl) ?_
                refine field_ptr ?_
                refine field_ptr ?_
                refine store4 3 1 rfl rfl (by decide) hvu'.one (by kernel_rfl) ?_
                refine field_ptr ?_
                refine store4 3 3 rfl rfl (by decide) hvl'.one (by kernel_rfl) ?_
                exact again (lr, vb', vu', vl') ⟨hlr, hvb', hvu', hvl'⟩ trivial qF (Seals.sub qD)
              · refine ord_split 17 26 (by kernel_rfl) (by kernel_rfl) (by kernel_rfl) ?_ ?_
                · refine ordE_go [own4 (ptr0 s.r 0) s.vb s.vu s.vd s.vl] [7, 15, 22, 24] [9, 10, 17, 18, 25, 26, 27] [] [0, 1, 2, 3, 4, 5, 6, 7, 8, 11, 12, 13, 14, 15, 16, 19, 20, 21, 22, 23, 24, 25, 17, 26, 9, 10, 18, 27, 28, 29, 30, 31, 32, 33, 34, 35, 36, 37, 38] (by kernel_rfl) (by kernel_rfl) (by kernel_rfl) ?_
                  refine field_ptr ?_
                  refine field_ptr ?_
                  refine lookD (v := s.vb) ⟨qM, trivial⟩ rfl (lookE4 0 rfl (by decide)) ?_
                  refine field_ptr ?_
                  refine field_ptr ?_
                  refine lookD (v := s.vu) ⟨qM, trivial⟩ rfl (lookE4 1 rfl (by decide)) ?_
                  refine field_ptr ?_
                  refine lookD (v := s.vl) ⟨qM, trivial⟩ rfl (lookE4 3 rfl (by decide)) ?_
                  refine lookD (v := .int .i64 a.length) ⟨qM, trivial⟩ rfl (fun _ _ _ => len_eq hsv rfl) ?_
                  refine make_rule (t := 22) (d := I false []) a.length rfl rfl (by omega) (by omega) fun lr hlr => ?_
                  refine eGo ⟨qM, trivial⟩ ?_
                  refine buildSlice_fact (size := 1) (n := 1) [su' i] [.one (su' i)] rfl rfl (by decide) (by decide) ⟨Reads.one hone.one, rfl, trivial⟩ fun q2 => ?_
                  refine eGo ⟨qM, trivial⟩ ?_
                  refine buildSlice_fact (size := 1) (n := 1) [lr] [.one lr] rfl rfl (by decide) (by decide) ⟨Reads.one hlr.one, rfl, trivial⟩ fun q3 => ?_
                  refine eGo ⟨qM, trivial⟩ ?_
                  refine buildSlice_fact (size := 1) (n := 1) [sb' i] [.one (sb' i)] rfl rfl (by decide) (by decide) ⟨Reads.one hrow.one, rfl, trivial⟩ fun q1 => ?_
                  refine eGo ⟨qM, trivial⟩ ?_
                  first | refine append_one (size := 1) (n := i) (el' := fun y => [Dat.one (sb' i)].getD y (.one undef)) (e' := fun y => .one (sb' y)) 4 rfl hs.vb (Knw.fact qM) eb (by omega) (by omega) fun vb' hvb' => ?_ | refine append_one (size := 1) (n := i) (el' := fun y => [Dat.one (sb' i)].getD y (.one undef)) (e' := fun y => .one (sb' y)) 5 rfl hs.vb (Knw.fact qM) eb (by omega) (by omega) fun vb' hvb' => ?_
                  refine eGo ⟨qM, trivial⟩ ?_
                  first | refine append_one (size := 1) (n := i) (el' := fun y => [Dat.one (su' i)].getD y (.one undef)) (e' := fun y => .one (su' y)) 6 rfl hs.vu (Knw.fact qM) eu (by omega) (by omega) fun vu' hvu' => ?_ | refine append_one (size := 1) (n := i) (el' := fun y => [Dat.one (su' i)].getD y (.one undef)) (e' := fun y => .one (su' y)) 7 rfl hs.vu (Knw.fact qM) eu (by omega) (by omega) fun vu' hvu' => ?_
                  refine eGo ⟨qM, trivial⟩ ?_
                  refine append_one (size := 1) (n := i) (el' := fun y => [Dat.one lr].getD y (.one undef)) (e' := fun y => .one (if y < i then s.sl y else lr)) 10 rfl hs.vl (Knw.fact qM) (fun y _ => by by_cases e : y < i <;> simp [e]) (by omega) (by omega) fun vl' hvl' => ?_
                  refine eGo ⟨qM, trivial⟩ ?_
                  refine field_ptr ?_
                  refine field_ptr ?_
                  refine store4 3 0 rfl rfl (by decide) hvb'.one (by kernel_rfl) ?_
                  refine field_ptr ?_
                  refine field_ptr ?_
                  refine store4 3 1 rfl rfl (by decide) hvu'.one (by kernel_rfl) ?_
                  refine field_ptr ?_
                  refine store4 3 3 rfl rfl (by decide) hvl'.one (by kernel_rfl) ?_
                  exact again (lr, vb', vu', vl') ⟨hlr, hvb', hvu', hvl'⟩ trivial qF (Seals.sub qD)
                · refine ordE_go [own4 (ptr0 s.r 0) s.vb s.vu s.vd s.vl] [7, 15, 22, 24] [9, 10, 17, 18, 25, 26, 27] [] [0, 1, 2, 3, 4, 5, 6, 7, 8, 11, 12, 13, 14, 15, 16, 19, 20, 21, 22, 23, 24, 25, 26, 17, 9, 10, 18, 27, 28, 29, 30, 31, 32, 33, 34, 35, 36, 37, 38] (by kernel_rfl) (by kernel_rfl) (by kernel_rfl) ?_
                  refine field_ptr ?_
                  refine field_ptr ?_
                  refine lookD (v := s.vb) ⟨qM, trivial⟩ rfl (lookE4 0 rfl (by decide)) ?_
                  refine field_ptr ?_
                  refine field_ptr ?_
                  refine lookD (v := s.vu) ⟨qM, trivial⟩ rfl (lookE4 1 rfl (by decide)) ?_
                  refine field_ptr ?_
                  refine lookD (v := s.vl) ⟨qM, trivial⟩ rfl (lookE4 3 rfl (by decide)) ?_
                  refine lookD (v := .int .i64 a.length) ⟨qM, trivial⟩ rfl (fun _ _ _ => len_eq hsv rfl) ?_
                  refine make_rule (t := 22) (d := I false []) a.length rfl rfl (by omega) (by omega) fun lr hlr => ?_
                  refine eGo ⟨qM, trivial⟩ ?_
                  refine buildSlice_fact (size := 1) (n := 1) [lr] [.one lr] rfl rfl (by decide) (by decide) ⟨Reads.one hlr.one, rfl, trivial⟩ fun q3 => ?_
                  refine eGo ⟨qM, trivial⟩ ?_
                  refine buildSlice_fact (size := 1) (n := 1) [su' i] [.one (su' i)] rfl rfl (by decide) (by decide) ⟨Reads.one hone.one, rfl, trivial⟩ fun q2 => ?_
                  refine eGo ⟨qM, trivial⟩ ?_
                  refine buildSlice_fact (size := 1) (n := 1) [sb' i] [.one (sb' i)] rfl rfl (by decide) (by decide) ⟨Reads.one hrow.one, rfl, trivial⟩ fun q1 => ?_
                  refine eGo ⟨qM, trivial⟩ ?_
                  first | refine append_one (size := 1) (n := i) (el' := fun y => [Dat.one (sb' i)].getD y (.one undef)) (e' := fun y => .one (sb' y)) 4 rfl hs.vb (Knw.fact qM) eb (by omega) (by omega) fun vb' hvb' => ?_ | refine append_one (size := 1) (n := i) (el' := fun y => [Dat.one (sb' i)].getD y (.one undef)) (e' := fun y => .one (sb' y)) 5 rfl hs.vb (Knw.fact qM) eb (by omega) (by omega) fun vb' hvb' => ?_
                  refine eGo ⟨qM, trivial⟩ ?_
                  first | refine append_one (size := 1) (n := i) (el' := fun y => [Dat.one (su' i)].getD y (.one undef)) (e' := fun y => .one (su' y)) 6 rfl hs.vu (Knw.fact qM) eu (by omega) (by omega) fun vu' hvu' => ?_ | refine append_one (size := 1) (n := i) (el' := fun y => [Dat.one (su' i)].getD y (.one undef)) (e' := fun y => .one (su' y)) 7 rfl hs.vu (Knw.fact qM) eu (by omega) (by omega) fun vu' hvu' => ?_
                  refine eGo ⟨qM, trivial⟩ ?_
                  refine append_one (size := 1) (n := i) (el' := fun y => [Dat.one lr].getD y (.one undef)) (e' := fun y => .one (if y < i then s.sl y else lr)) 10 rfl hs.vl (Knw.fact qM) (fun y _ => by by_cases e : y < i <;> simp [e]) (by omega) (by omega) fun vl' hvl' => ?_
                  refine eGo ⟨qM, trivial⟩ ?_
                  refine field_ptr ?_
                  refine field_ptr ?_
                  refine store4 3 0 rfl rfl (by decide) hvb'.one (by kernel_rfl) ?_
                  refine field_ptr ?_
                  refine field_ptr ?_
                  refine store4 3 1 rfl rfl (by decide) hvu'.one (by kernel_rfl) ?_
                  refine field_ptr ?_
                  refine store4 3 3 rfl rfl (by decide) hvl'.one (by kernel_rfl) ?_
                  exact again (lr, vb', vu', vl') ⟨hlr, hvb', hvu', hvl'⟩ trivial qF (Seals.sub qD)
      rintro ⟨lr, vb', vu', vl'⟩ ⟨hlr, hvb', hvu', hvl'⟩
      simp only at hlr hvb' hvu' hvl' ⊢
      obtain ⟨sl', e5, e6⟩ : ∃ f : Nat → Value, f i = lr ∧ ∀ y, y < i → f y = s.sl y := ⟨fun y => if y = i then lr else s.sl y, if_pos rfl, fun y hy => if_neg (by omega)⟩
      subst e5
      have hsn : BS.ok ⟨s.r, vb', vu', s.vd, vl', sb', su', sl'⟩ (i + 1) := ⟨hvb', hvu', hs.vd, hvl', fun y hy => by
          by_cases e : y < i
          · show isSl (sb' y); rw [e2 y e]; exact hs.sb y e
          · show isSl (sb' y); rw [show y = i by omega]; exact hrow, fun y hy => by
          by_cases e : y < i
          · show isSl (su' y); rw [e4 y e]; exact hs.su y e
          · show isSl (su' y); rw [show y = i by omega]; exact hone, fun y hy => by
          by_cases e : y < i
          · show isSl (sl' y); rw [e6 y e]; exact hs.sl y e
          · show isSl (sl' y); rw [show y = i by omega]; exact hlr⟩
      refine ar rfl qI ?_
      refine loop_rule (X := Nat × Nat × BS) (fun x => ([(0, v), (3, ptr0 x.2.2.r 0), (4, .int .i64 (i : Nat)), (5, x.2.2.sb i), (15, .int .i64 (a.length : Nat)), (16, .int .i64 (i : Nat)), (75, .int .i64 ((i + 1 : Nat) : Nat)), (76, .int .i64 (x.1 : Nat))],
          bak x.2.2 C a.length (i + 1) x.2.1 (rawJ a) uniJ (dG G) (ltb C (rvm a) i x.1) [], [(v, W a)]))
        (fun x => x.1 ≤ i + 1 ∧ x.2.1 = i + 1 + (x.1 - i) ∧ x.2.2.ok (i + 1) ∧ ∀ t, t < x.2.1 → 0 < dG G t) (fun x => i + 1 - x.1) rfl ?_ ?_
      · refine again (0, i + 1, ⟨s.r, vb', vu', s.vd, vl', sb', su', sl'⟩) ⟨Nat.zero_le _, by simp only; omega, hsn, fun t ht => hpos t (by simp only at ht; omega)⟩ trivial qF ?_
        refine Seals.trans (Seals.own_cong (os := [_, _, _, _, _, _, _, _, _, _, _]) 10 (fun y => .one (sl' y)) rfl rfl (fun y hy => ?_)) (Seals.trans (Seals.pick [2, 4, 0, 1, 3, 5, 6, 7, 8, 9, 10] 11 rfl (by decide))
          (Seals.trans (Seals.join (F' := famJ sb' (i + 1) C (rawJ a)) rfl rfl rfl (fun y hy => ⟨e2 y hy, rfl, fun _ _ => rfl⟩) ⟨rfl, rfl, fun c hc => ?_⟩) (Seals.trans (Seals.pick [2, 5, 0, 1, 3, 4, 6, 7, 8, 9] 10 rfl (by decide))
          (Seals.trans (Seals.join (F' := famJ su' (i + 1) a.length uniJ) rfl rfl rfl (fun y hy => ⟨e4 y hy, rfl, fun _ _ => rfl⟩) ⟨rfl, rfl, fun c hc => ?_⟩) (Seals.trans (Seals.pick [2, 7, 0, 1, 3, 4, 5, 6, 8] 9 rfl (by decide))
          (Seals.trans (Seals.join (F' := famZ sl' (i + 1) a.length (ltb C (rvm a) i 0)) rfl rfl rfl (fun y hy => ⟨e6 y hy, rfl, fun _ _ => rfl⟩) ⟨rfl, rfl, fun c hc => ?_⟩) (Seals.trans (Seals.pick [3, 2, 4, 1, 5, 6, 0, 7] 8 rfl (by decide)) (Seals.sub qS))))))))
        · by_cases e : y < i
          · rw [if_pos e, e6 y e]
          · rw [if_neg e, show y = i by omega]
        · show J (rawJ a i c) = if c < C then _ else _
          rw [if_pos hc]; rfl
        · show J (uniJ i c) = upd (fun _ => I false []) i (zd 1) c
          unfold uniJ upd
          split <;> rfl
        · show J (cn (ltb C (rvm a) i 0 i c)) = I false []
          unfold ltb
          rw [if_neg (by omega), cn0]; rfl
      · rintro ⟨j, dn, s⟩ ⟨hj, hdn, hs, hps⟩
        simp only at hj hdn hs hps ⊢
        refine cmp_split _ rfl (fun hc => ?_) (fun hc => ?_)
        · have hji : j ≤ i := by omega
          refine field_ptr ?_
          refine field_ptr ?_
          refine ld4b 0 rfl rfl ?_
          refine index_elem 2 rfl hs.vb j rfl (by omega) ?_
          refine load_one_elem 2 rfl j (by omega) (u := s.sb j) rfl ?_
          refine dot_call 1 i j rfl (by omega) (by omega) hs.sb (k := k) (fun x c _ _ => hrx x c) (by omega) (by omega) fun x1 => ?_
          refine alloc_rule (d := I false []) fun xb hxb => ?_
          refine store_box (d := zd (mi G 0 i j)) 0 rfl hxb rfl (by kernel_rfl) (by rw [← e0 i j]; exact Reads.fact qM) ?_
          refine loop_rule (X := Nat) (fun t => ([(0, v), (3, ptr0 s.r 0), (4, .int .i64 (i : Nat)), (5, s.sb i), (7, .int .i64 (j : Nat)), (8, xb), (15, .int .i64 (a.length : Nat)), (16, .int .i64 (i : Nat)), (75, .int .i64 ((i + 1 : Nat) : Nat)), (76, .int .i64 (j : Nat)), (89, .int .i64 (j : Nat)), (90, .int .i64 (t : Nat))],
              own1 xb 2 1 (fun _ => zd (mi G t i j)) :: bak s C a.length (i + 1) dn (rawJ a) uniJ (dG G) (ltb C (rvm a) i j) [], [(v, W a)])) (fun t => t ≤ j) (fun t => j - t) rfl ?_ ?_
          · exact again 0 (Nat.zero_le _) trivial qF (Seals.trans (Seals.box0 rfl) (Seals.sub (fs' := [(v, W a)]) qS))
          · rintro t ht
            refine cmp_split _ rfl (fun hlt => ?_) (fun hlt => ?_)
            · have htj : t < j := by omega
              have g0 := hdz t (by omega)
              have g1 := hdz (t + 1) (by omega)
              have m1 := hmz t i j (by omega)
              have m2 := hmz t i t (by omega)
              have m3 := hmz t j t (by omega)
              have n0 : dG G t ≠ 0 := by have := hps t (by omega); omega
              have hq := fun z y => lquot_meets z y (dG G (t + 1) * mi G t i j - mi G t i t * mi G t j t) (dG G t) _ _ (sz_sub (g1.mul m1) (m2.mul m3)) g0 (by decide) (by decide) n0
              rw [hstep t i j n0] at hq
              refine draw_rule [0, 1, 2, 3, 4, 5, 6, 7, 8, 10, 11, 12, 13, 14, 15, 16, 17, 18, 19, 20, 21, 22, 23, 24, 25, 26, 27, 28, 29, 32, 33, 34, 35, 36, 37, 38, 9, 30, 31, 39, 40] [0, 1, 2, 3, 4, 5, 6, 7, 8, 9, 10, 11, 12, 13, 14, 15, 16, 17, 18, 19, 20, 21, 22, 23, 24, 25, 26, 27, 28, 29, 30, 31, 32, 33, 34, 35, 36, 37, 38, 39, 40] (by kernel_rfl) (by kernel_rfl) ?_
              refine field_ptr ?_
              refine ld4d 1 rfl rfl ?_
              refine ar rfl qI ?_
              refine index_elem 6 rfl hs.vd (t + 1) (by omega) (by omega) ?_
              refine load_elem' (d := zd (dG G (t + 1))) 6 rfl (t + 1) (by omega) rfl (load_I _ _) fun y1 => ?_
              refine load_box (d := zd (mi G t i j)) 0 rfl hxb rfl (load_I _ _) fun y2 => ?_
              refine field_ptr ?_
              refine ld4l 1 rfl rfl ?_
              refine index_elem 8 rfl hs.vl (i) (by omega) (by omega) ?_
              refine load_one_elem 8 rfl (i) (by omega) (u := s.sl (i)) rfl ?_
              refine index_fj 7 (i) rfl (by omega) (hs.sl (i) (by omega)) (t) (by omega) (by omega) ?_
              refine load_fj 7 i t rfl (by omega) (by omega) (cn (mi G t i t)) (by unfold ltb; rw [if_pos (by omega), hlm]) fun y3 => ?_
              refine field_ptr ?_
              refine ld4l 1 rfl rfl ?_
              refine index_elem 8 rfl hs.vl (j) (by omega) (by omega) ?_
              refine load_one_elem 8 rfl (j) (by omega) (u := s.sl (j)) rfl ?_
              refine index_fj 7 (j) rfl (by omega) (hs.sl (j) (by omega)) (t) (by omega) (by omega) ?_
              refine load_fj 7 j t rfl (by omega) (by omega) (cn (mi G t j t)) (by unfold ltb; rw [if_pos (by omega), hlm]) fun y4 => ?_
              refine field_ptr ?_
              refine ld4d 1 rfl rfl ?_
              refine index_elem 6 rfl hs.vd t (by omega) (by omega) ?_
              refine load_elem' (d := zd (dG G t)) 6 rfl t (by omega) rfl (load_I _ _) fun y5 => ?_
              refine call_fn (zMulZ y1 y2 (dG G (t + 1)) (mi G t i j) _ _ g1 m1 (by decide) (by decide)) (Seals.refl _ _) qS ?_
              rintro z1 _ _ ⟨rfl, rfl⟩
              refine call_fn (zMulZ y3 y4 (mi G t i t) (mi G t j t) _ _ m2 m3 (by decide) (by decide)) (Seals.refl _ _) qS ?_
              rintro z2 _ _ ⟨rfl, rfl⟩
              refine call_fn (zSubZ z1 z2 _ _ _ _ (g1.mul m1) (m2.mul m3) (by decide) (by decide)) (Seals.refl _ _) qS ?_
              rintro z3 _ _ ⟨rfl, rfl⟩
              refine call_fn (hq z3 y5) (Seals.refl _ _) qS ?_
              rintro z4 _ _ ⟨rfl, rfl⟩
              refine store_box (d := zd (mi G (t + 1) i j)) 0 rfl hxb rfl (by kernel_rfl) ?_ ?_; exact Reads.fact qM
              refine ar rfl qI ?_
              exact again (t + 1) (by omega) (by simp only; omega) qF (Seals.trans (Seals.box0 rfl) (Seals.sub (fs' := [(v, W a)]) qS))
            · have htj : t = j := by omega
              subst htj
              refine cmp_split _ rfl (fun hlt2 => ?_) (fun hlt2 => ?_)
              · have hti : t < i := by omega
                refine draw_rule [0, 1, 2, 3, 4, 5, 6, 7, 8, 9, 10] [0, 1, 2, 3, 4, 5, 6, 7, 8, 9, 10] (by kernel_rfl) (by kernel_rfl) ?_
                refine field_ptr ?_
                refine ld4l 1 rfl rfl ?_
                refine index_elem 8 rfl hs.vl (i) (by omega) (by omega) ?_
                refine load_one_elem 8 rfl (i) (by omega) (u := s.sl (i)) rfl ?_
                refine load_box (d := zd (mi G t i t)) 0 rfl hxb rfl (load_I _ _) fun y2 => ?_
                refine index_fj 7 (i) rfl (by omega) (hs.sl (i) (by omega)) (t) (by omega) (by omega) ?_
                refine store_fj 7 i t rfl (by omega) (by omega) (cn (mi G t i t)) (fun x y => cn (ltb C (rvm a) i (t + 1) x y)) (Reads.fact (d := zd (mi G t i t)) qM) (fun x y hx hy => ?_) ?_
                · by_cases e : x = i ∧ y = t
                  · rw [if_pos e, e.1, e.2]; unfold ltb; rw [if_pos (by omega), hlm]
                  · rw [if_neg e]; unfold ltb
                    by_cases e2 : y < x ∧ (x < i ∨ y < t)
                    · rw [if_pos e2, if_pos (by omega)]
                    · rw [if_neg e2, if_neg (by omega)]
                refine ar rfl qI ?_
                exact again (t + 1, dn, s) ⟨by simp only; omega, by simp only; omega, hs, hps⟩ (by simp only; omega) qF (Seals.trans (Seals.drop 0 _ _) (Seals.sub (fs' := [(v, W a)]) qS))
              · have hti : t = i := by omega
                subst hti
                have hms := hmz t t t (by omega)
                refine load_box (d := zd (mi G t t t)) 0 rfl hxb rfl (load_I _ _) fun y2 => ?_
                refine call_fn (zSignZ y2 _ _ hms (by decide)) (Seals.refl _ _) qS ?_
                rintro _ _ _ ⟨rfl, rfl, rfl⟩
                refine cmp_split _ rfl (fun h0 => ?_) (fun h0 => ?_)
                · have h0' : mi G t t t = 0 := Int.sign_eq_zero_iff_zero.1 h0
                  refine fin (.inl ⟨fun hI => ?_, rfl, rfl, rfl⟩) (by repeat (first | exact Seals.nil _ _ | refine Seals.trans (Seals.drop 0 _ _) ?_))
                  have h9 := hI (t + 1) (by omega)
                  rw [hdm, dG_succ, h0'] at h9
                  omega
                · have h0' : mi G t t t ≠ 0 := fun e => h0 (by rw [e]; rfl)
                  have hp1 : 0 < dG G (t + 1) := by
                    have h8 := hnn t
                    rw [hdm, hdm] at h8
                    have h7 := hps t (by omega)
                    have h6 : dG G (t + 1) ≠ 0 := by rw [dG_succ]; exact h0'
                    by_cases h5 : dG G (t + 1) < 0
                    · have := Int.mul_neg_of_pos_of_neg h7 h5
                      omega
                    · omega
                  refine draw_rule [0, 1, 2, 3, 4, 5, 6, 7, 8, 9, 10] [0, 1, 2, 3, 4, 5, 6, 7, 8, 9, 10] (by kernel_rfl) (by kernel_rfl) ?_
                  refine field_ptr ?_
                  refine ld4d 1 rfl rfl ?_
                  refine load_box (d := zd (mi G t t t)) 0 rfl hxb rfl (load_I _ _) fun y3 => ?_
                  refine lit_L (size := 2) J z0 (cn (mi G t t t)) (by decide) (Reads.fact (d := zd (mi G t t t)) qM) rfl fun l1 => ?_
                  refine append_one (size := 2) (n := dn) (el' := fun y => J ([cn (mi G t t t)].getD y z0)) (e' := fun y => zd (dG G y)) 6 rfl hs.vd (Knw.fact qM) (fun y hy => ?_) (by omega) (by omega) fun vd2 hvd2 => ?_
                  · by_cases hyj : y < dn
                    · rw [if_pos hyj]
                    · rw [if_neg hyj, show y = t + 1 by omega, dG_succ]; rfl
                  refine field_ptr ?_
                  refine store4 1 2 rfl rfl (by decide) hvd2.one (by kernel_rfl) ?_
                  refine ar rfl qI ?_
                  refine again (t + 1, dn + 1, { s with vd := vd2 }) ⟨by simp only; omega, by simp only; omega, ⟨hs.vb, hs.vu, hvd2, hs.vl, hs.sb, hs.su, hs.sl⟩, fun y hy => by
                    by_cases e : y < dn
                    · exact hps y e
                    · rw [show y = t + 1 by simp only at hy; omega]; exact hp1⟩ (by simp only; omega) qF (Seals.trans (Seals.drop 0 _ _) (Seals.trans (Seals.fjcong (vs := s.sl) (vs' := s.sl) (x := fun x y => cn (ltb C (rvm a) t t x y)) (x' := fun x y => cn (ltb C (rvm a) t (t + 1) x y)) (os := [_, _, _, _, _, _, _, _]) 6 rfl (fun x => x) (fun x hx => ⟨hx, rfl, fun y hy => ?_⟩) (fun _ _ _ _ e => e)) (Seals.sub qS)))
                  show cn _ = cn _
                  congr 1
                  unfold ltb
                  by_cases e : y < x
                  · rw [if_pos (by omega), if_pos (by omega)]
                  · rw [if_neg (fun h => e h.1), if_neg (fun h => e h.1)]
        · have hji : j = i + 1 := by omega
          subst hji
          have hd2 : dn = i + 1 + 1 := by omega
          subst hd2
          refine ar rfl qI ?_
          refine again (i + 1, s) ⟨by simp only; omega, hs, fun t ht => hps t (by simp only at ht; omega)⟩ (by simp only; omega) qF (Seals.trans (Seals.fjcong (vs := s.sl) (vs' := s.sl) (x := fun x y => cn (ltb C (rvm a) i (i + 1) x y)) (x' := fun x y => cn (ltb C (rvm a) (i + 1) 0 x y)) (os := [_, _, _, _, _, _, _, _]) 6 rfl (fun x => x) (fun x hx => ⟨hx, rfl, fun y hy => ?_⟩) (fun _ _ _ _ e => e)) (Seals.sub qS))
          show cn _ = cn _
          congr 1
          unfold ltb
          by_cases e : y < x
          · rw [if_pos (by omega), if_pos (by omega)]
          · rw [if_neg (fun h => e h.1), if_neg (fun h => e h.1)]
    · have hin : i = a.length := by omega
      subst hin
      subst hG
      exact fin (.inr ⟨fun t ht => hpos t ht, s, hs, rfl, rfl, rfl⟩) (Seals.sub (fs' := []) qS)
open Go.RowKit
theorem len_famR {t e' ty : TypeId} {size' : Nat} {vs : Nat → Value} {m : List Row} {os : List Own} {fs : List Fact} {K : Cont} [ht : TSl Tryz.prog t e' size'] (pos i : Nat)
    (h : nthOwn os pos = some (famR vs m)) (hi : i < m.length) (hs : isSl (vs i)) (k : (m.getD i []).length ≤ 9223372036854775807 → K (.int .i64 (m.getD i []).length) os fs) : LenK Tryz.prog [t] ty (vs i) os fs K := by
  obtain ⟨a, n, c, hv⟩ := hs
  refine ⟨fun G w hw => ?_⟩
  generalize hC : (m.getD i []).length = C at *
  have key : ∃ (a' : Option Addr) (c' : Nat), vs i = .slice a' C c' ∧ C ≤ 9223372036854775807 := by
    rcases hw.own _ (nthOwn_mem h) i hi with ⟨h1, h2⟩ | ⟨r, cap, h1, b1, b2, b3, _⟩ | ⟨r, h1, _⟩ | ⟨_, _, _, _, _, _, ⟨r, _, _, h1, _⟩ | ⟨r, _, _, _, _, _, _, h1, _⟩⟩
    rotate_right
    · have h1' : vs i = _ := h1
      rw [hv] at h1'; simp at h1'
    rotate_right
    · have h1' : vs i = _ := h1
      rw [hv] at h1'; simp at h1'
    · have h2' : (m.getD i []).length = 0 := h2
      exact ⟨none, 0, by rw [← hC, h2']; exact h1, by omega⟩
    · have b2' : (m.getD i []).length ≤ cap := b2
      exact ⟨some ⟨r, 0, none⟩, cap, by rw [← hC]; exact h1, by unfold maxLen at b3; omega⟩
    · have h1' : vs i = _ := h1
      rw [hv] at h1'; simp at h1'
  obtain ⟨a', c', e, hC'⟩ := key
  rw [e]
  exact (len_val (P := Tryz.prog) (t := t) (ty := ty) (a := a') (n := C) (c := c') (os := os) (fs := fs) (K := K) (k hC')).out G w hw
def gFs (s : List (Nat × Nat)) (T Y : Int) (R : List Int) : Nat → Nat → Nat → Int
  | 0, _, _ => 0
  | k + 1, u, v => if s.getD k (0, 0) = (u, v) then R.getD k 0 / sclV T Y (u, v) else gFs s T Y R k u v
def gridV (s : List (Nat × Nat)) (T Y : Int) (R : List Int) : List (List Int) := gof (gFs s T Y R s.length) 101 101
theorem gFs_out {s : List (Nat × Nat)} {T Y : Int} {R : List Int} {u v : Nat} : ∀ k, (∀ j, j < k → s.getD j (0, 0) ≠ (u, v)) → gFs s T Y R k u v = 0
  | 0, _ => rfl
  | k + 1, h => by
    rw [gFs, if_neg (h k (by omega))]
    exact gFs_out k fun j hj => h j (by omega)
theorem gridV_gn (s : List (Nat × Nat)) (T Y : Int) (R : List Int) : Gn (gridV s T Y R) := gof_gn _ _ _
theorem gridV_gv {s : List (Nat × Nat)} {T Y : Int} {R : List Int} (hb : ∀ p, p ∈ s → p.1 ≤ 100 ∧ p.2 ≤ 100) (u v : Nat) : gv (gridV s T Y R) u v = gFs s T Y R s.length u v := by
  unfold gridV
  rw [gof_gv]
  split
  · rfl
  · rename_i h
    refine (gFs_out _ fun j hj e => h ?_).symm
    have := hb _ (getD_mem (0, 0) hj)
    rw [e] at this
    simp only at this; omega
def asum : List Int → Int
  | [] => 0
  | x :: l => x.natAbs + asum l
theorem sz_abs {x : Int} {a : Nat} (h : sz x a) : sz ((x.natAbs : Nat) : Int) a := by unfold sz at *; simpa using h
theorem asum_snoc (l : List Int) (x : Int) : asum (l ++ [x]) = asum l + x.natAbs := by
  induction l with
  | nil => simp [asum]
  | cons y l ih => simp only [List.cons_append, asum, ih]; omega
theorem asum_nn (l : List Int) : 0 ≤ asum l := by
  induction l with
  | nil => simp [asum]
  | cons y l ih => simp only [asum]; omega
theorem asum_sz {l : List Int} {a : Nat} (h : szR a l) (hl : l.length ≤ 1000) : sz (asum l) (a + 1) := by
  have key : ∀ l : List Int, szR a l → (asum l).natAbs ≤ l.length * 18446744073709551616 ^ a := fun l => by
    induction l with
    | nil => intro _; simp [asum]
    | cons y l ih =>
      intro h
      have h1 := ih fun x hx => h x (List.mem_cons_of_mem _ hx)
      have h2 := h y (List.mem_cons_self ..)
      unfold sz at h2
      have h3 := asum_nn l
      simp only [asum, List.length_cons, Nat.succ_mul]
      omega
  have h1 := key l h
  unfold sz
  rw [Nat.pow_succ]
  have h2 : 0 < 18446744073709551616 ^ a := Nat.pow_pos (by decide)
  have h3 : l.length * 18446744073709551616 ^ a ≤ 1000 * 18446744073709551616 ^ a := Nat.mul_le_mul_right _ hl
  omega
theorem gv_more (m : List Row) (u v : Nat) : gv (ww (m ++ [[]])) u v = gv (ww m) u v := by
  rw [gv_ww, gv_ww]
  by_cases h : u < m.length
  · simp [List.getD_eq_getElem?_getD, List.getElem?_append_left h]
  · rw [getD_end (l := m) (by omega)]
    by_cases h2 : u = m.length
    · subst h2; simp [List.getD_eq_getElem?_getD]
    · rw [getD_end (l := m ++ [[]]) (by simp; omega)]
theorem gv_app {m : List Row} {i : Nat} (h : i < m.length) (u v : Nat) : gv (ww (m.set i (m.getD i [] ++ [z0]))) u v = gv (ww m) u v := by
  rw [gv_ww, gv_ww, getD_set2 h]
  split
  · subst_vars
    by_cases h2 : v < (m.getD u []).length
    · simp only [List.getD_eq_getElem?_getD] at h2 ⊢
      rw [List.getElem?_append_left h2]
    · rw [getD_end (l := m.getD u []) (by omega)]
      by_cases h3 : v = (m.getD u []).length
      · subst h3; simp [List.getD_eq_getElem?_getD]
      · rw [getD_end (l := m.getD u [] ++ [z0]) (by simp only [List.length_append, List.length_cons, List.length_nil]; omega)]
  · rfl
theorem gv_set {m : List Row} {i j : Nat} (h : i < m.length) (hj : j < (m.getD i []).length) (x : Bool × List Nat) (u v : Nat) : gv (ww (m.set i ((m.getD i []).set j x))) u v = if i = u ∧ j = v then jv x else gv (ww m) u v := by
  rw [gv_ww, gv_ww, getD_set2 h]
  by_cases e : u = i
  · subst e
    rw [if_pos rfl, getD_setL hj]
    by_cases e2 : v = j
    · subst e2; rw [if_pos rfl, if_pos ⟨rfl, rfl⟩]
    · rw [if_neg e2, if_neg (fun h => e2 h.2.symm)]
  · rw [if_neg e, if_neg (fun h => e h.1.symm)]
theorem set_mem {m : List Row} {i : Nat} {r x : Row} (h : x ∈ m.set i r) : x ∈ m ∨ x = r := by
  rcases List.mem_or_eq_of_mem_set h with h | h
  · exact .inl h
  · exact .inr h
theorem z0_lim : Lim z0.2 := fun x hx => by simp [z0] at hx
theorem Lg.more {m : List Row} {G : List (List Int)} {a n : Nat} (h : Lg m G a n) (hn : m.length + 1 ≤ n) : Lg (m ++ [[]]) (ww (m ++ [[]])) a n :=
  ⟨rfl, by simp; omega, fun r hr => by
    rcases List.mem_append.1 hr with hr | hr
    · exact h.row r hr
    · rw [List.mem_singleton.1 hr]; exact ⟨Nat.zero_le _, fun x hx => by simp at hx⟩⟩
theorem Lg.setR {m : List Row} {G : List (List Int)} {a n i : Nat} {r : Row} (h : Lg m G a n) (hr : r.length ≤ n) (hf : Fit a r) : Lg (m.set i r) (ww (m.set i r)) a n :=
  ⟨rfl, by rw [List.length_set]; exact h.len, fun x hx => by
    rcases set_mem hx with hx | rfl
    · exact h.row x hx
    · exact ⟨hr, hf⟩⟩
theorem Fit.app {a : Nat} {r : Row} (h : Fit a r) : Fit a (r ++ [z0]) := fun x hx => by
  rcases List.mem_append.1 hx with hx | hx
  · exact h x hx
  · rw [List.mem_singleton.1 hx]; exact ⟨z0_lim, Nat.zero_le _⟩
theorem Fit.set {a j : Nat} {r : Row} {x : Bool × List Nat} (h : Fit a r) (hx : Lim x.2 ∧ x.2.length ≤ a) : Fit a (r.set j x) := fun y hy => by
  rcases List.mem_or_eq_of_mem_set hy with hy | hy
  · exact h y hy
  · rw [hy]; exact hx
theorem lookNum {P : Program} {t : TypeId} {v u : Value} {size off : Nat} {e : Nat → Dat} [ht : TOne P t] (hp : Part off (e 0) (.one u)) (os : List Own) (fs : List Fact) (h : InO [own1 v size 1 e] os) : LoadK P t (eptr v off) os fs fun x _ _ => x = u := by
  obtain ⟨pos, hpos⟩ := nthOwn_of_mem h.1
  exact load_box_field_one pos hpos hp rfl
structure GdOk (s : List (Nat × Nat)) (T Y : Int) (R : List Int) (a i : Nat) (ov : Value) (vs : Nat → Value) (m : List Row) : Prop where
  ov : isSl ov
  vs : ∀ j, j < m.length → isSl (vs j)
  lg : Lg m (ww m) a 200
  gv : ∀ u v, Go.Proofs.YtjebljkoiaojaaaGreat.gv (ww m) u v = gFs s T Y R i u v
set_option maxHeartbeats 4000000 in
theorem slzgrid_meets (v w : Value) (s : List (Nat × Nat)) (T Y M : Int) (R : List Int) (a b c : Nat) (hb : ∀ p, p ∈ s → p.1 ≤ 100 ∧ p.2 ≤ 100) (ls : s.length ≤ 100) (lR : R.length = s.length) (hR : szR a R) (ha : a ≤ 100000000)
    (hz : ∀ p, p ∈ s → sz (sclV T Y p) b ∧ sclV T Y p ≠ 0) (hbb : b ≤ 100000000) (hM : sz M c) (hc : c ≤ 100000000) :
    Meets Tryz.prog 110 [v, w] [(v, planD s T Y M), (w, vd R)] (fun r os fs => os = [] ∧ ∃ q, r = .tuple #[q, .bool (decide (asum R < M))] ∧ fs = [(q, wd (gridV s T Y R))]) := by
  have hsl : ∀ i, i < s.length → ((s.map (sclV T Y)).map cn).getD i z0 = cn (sclV T Y (s.getD i (0, 0))) := fun i hi => by
    simp [List.getD_eq_getElem?_getD, hi]
  have hml : ((s.map (sclV T Y)).map cn).length = s.length := by simp
  have hRl : (R.map cn).length = s.length := by rw [List.length_map, lR]
  have hRg : ∀ i, i < s.length → (R.map cn).getD i z0 = cn (R.getD i 0) := fun i hi => map_cn_get (by omega)
  have hsum : ∀ i, i ≤ s.length → sz (asum (R.take i)) (a + 1) := fun i hi => asum_sz (hR.take i) (by rw [List.length_take]; omega)
  refine meets_of_vc Tryz.func110 (by kernel_rfl) rfl (by kernel_rfl) (Nat.le_of_ble_eq_true rfl) ?_
  refine box_rule (Reads.fact (d := planD s T Y M) qM) fun bp hbp => ?_
  refine empty_L (size := 1) (α := Value) Dat.one undef (by decide) fun g0 hg0 => ?_
  refine build0 (da := .one (.bool false)) (db := U (lims 0)) (fun S w => ⟨[.bool false], [.slice none 0 0], rfl, rd_false S w, by rw [lims_zero]; exact rd_nil S w 1 _⟩) fun z => ?_
  refine alloc_rule (d := I false []) fun sb hsb => ?_
  refine store_box (d := zd 0) 0 rfl hsb rfl (by kernel_rfl) (Reads.fact (v := z) qM) ?_
  refine field_box 2 rfl hbp ?_
  refine load_box_field (d := ShD s) 2 rfl (Part.left (Part.refl _)) (load_Sh _) fun q => ?_
  refine len_fact (v := q) (n := s.length) qM fun _ => ?_
  refine loop_rule (X := Nat × Value × (Nat → Value) × List Row) (fun x => ([(1, w), (2, bp), (6, x.2.1), (7, sb), (13, q), (14, .int .i64 (s.length : Nat)), (15, .int .i64 (x.1 : Nat))],
      [famR x.2.2.1 x.2.2.2, outer x.2.1 x.2.2.2.length x.2.2.1, own1 sb 2 1 (fun _ => zd (asum (R.take x.1))), own1 bp 5 1 (fun _ => planD s T Y M)], [(q, ShD s), (w, vd R)]))
    (fun x => x.1 ≤ s.length ∧ GdOk s T Y R a x.1 x.2.1 x.2.2.1 x.2.2.2) (fun x => s.length - x.1) rfl ?_ ?_
  · refine again (0, g0, fun _ => undef, []) ⟨Nat.zero_le _, hg0, fun j hj => absurd hj (Nat.not_lt_zero _), ⟨rfl, Nat.zero_le _, fun r hr => by simp at hr⟩, fun u v => by simp [gv, ww, gFs]⟩ trivial qF ?_
    refine Seals.trans (Seals.box0 (d := zd (asum (R.take 0))) rfl) (Seals.trans (Seals.none (famR (fun _ => undef) []) (by simp [famR])) ?_)
    refine Seals.trans (Seals.perm (List.Perm.cons _ (List.Perm.swap _ _ _))) ?_
    exact Seals.sub qS
  rintro ⟨i, ov, vs, m⟩ ⟨hi, hg⟩
  simp only at hi hg ⊢
  refine cmp_split _ rfl (fun hlt => ?_) (fun hlt => ?_)
  · have his : i < s.length := by omega
    have hpb := hb _ (getD_mem (0, 0) his)
    have hpz := hz _ (getD_mem (0, 0) his)
    have hgs : ∀ u v, gFs s T Y R (i + 1) u v = if s.getD i (0, 0) = (u, v) then R.getD i 0 / sclV T Y (s.getD i (0, 0)) else gFs s T Y R i u v := fun u v => by
      rw [gFs]; split
      · rename_i e; rw [e]
      · rfl
    have htk : R.take (i + 1) = R.take i ++ [R.getD i 0] := by
      rw [List.take_add_one, List.getElem?_eq_getElem (by omega), List.getD_eq_getElem?_getD, List.getElem?_eq_getElem (by omega)]; rfl
    have hsi := hsum i (by omega)
    have hsi2 := hsl i his
    have hRi := hRg i his
    have zR := hR.get i
    refine index_fact (v := q) qM i rfl his fun a1 => ?_
    refine load_fact (d := spE (s.getD i (0, 0))) qM (load_sp _) fun a2 => ?_
    generalize s.getD i (0, 0) = pp at *
    obtain ⟨p1, p2⟩ := pp
    simp only [Prod.mk.injEq] at hpb hgs
    refine alloc_rule (d := spotD 0 0) fun bq hbq => ?_
    refine store_box (d := spotD (p1 : Nat) (p2 : Nat)) 0 rfl hbq rfl (by kernel_rfl) (Reads.fact (d := spE (p1, p2)) qM) ?_
    refine loop_rule (X := Value × (Nat → Value) × List Row) (fun x => ([(1, w), (2, bp), (6, x.1), (7, sb), (8, .int .i64 (i : Nat)), (9, bq), (13, q), (14, .int .i64 (s.length : Nat)), (15, .int .i64 (i : Nat))],
        [own1 bq 2 1 (fun _ => spotD (p1 : Nat) (p2 : Nat)), famR x.2.1 x.2.2, outer x.1 x.2.2.length x.2.1, own1 sb 2 1 (fun _ => zd (asum (R.take i))), own1 bp 5 1 (fun _ => planD s T Y M)], [(q, ShD s), (w, vd R)]))
      (fun x => GdOk s T Y R a i x.1 x.2.1 x.2.2) (fun x => p1 + 1 - x.2.2.length) rfl ?_ ?_
    · exact again (ov, vs, m) hg trivial qF (Seals.trans (Seals.box0 rfl) (Seals.sub qS))
    clear hg
    rintro ⟨ov, vs, m⟩ hg
    simp only at hg ⊢
    have hml := hg.lg.len
    refine len_own 2 rfl hg.ov fun _ => ?_
    refine index_arr hbq 0 rfl (by decide) ?_
    refine load_box_field_one 0 rfl (Part.left (Part.refl _)) ?_
    refine cmp_split _ rfl (fun hl1 => ?_) (fun hl1 => ?_)
    · refine lit_L (size := 1) Dat.one undef nilV (by decide) (Reads.one rfl) rfl fun l1 => ?_
      refine append_one (size := 1) (n := m.length) (el' := fun y => Dat.one ([nilV].getD y undef)) (e' := fun y => .one (upv vs m.length nilV y)) 2 rfl hg.ov (Knw.fact qM) (fun y hy => ?_) (by omega) (by omega) fun ov2 hov2 => ?_
      · unfold upv
        by_cases e : y < m.length
        · rw [if_pos e, if_neg (by omega)]
        · have : y = m.length := by omega
          subst this
          simp
      refine again (ov2, upv vs m.length nilV, m ++ [[]]) ⟨hov2, fun j hj => ?_, hg.lg.more (by omega), fun u v => by rw [gv_more]; exact hg.gv u v⟩ (by simp only [List.length_append, List.length_cons, List.length_nil]; omega) qF ?_
      · show isSl (upv vs m.length nilV j)
        unfold upv
        split
        · exact isSl_nil
        · exact hg.vs j (by simp only [List.length_append, List.length_cons, List.length_nil] at hj; omega)
      · refine Seals.trans (Seals.perm (List.Perm.swap _ _ _)) (Seals.trans Seals.more (Seals.trans (Seals.perm (List.Perm.swap _ _ _)) ?_))
        simp only [List.length_append, List.length_cons, List.length_nil]
        exact Seals.sub qS
    have hp1 : p1 < m.length := by omega
    clear hl1
    refine loop_rule (X := (Nat → Value) × List Row) (fun x => ([(1, w), (2, bp), (6, ov), (7, sb), (8, .int .i64 (i : Nat)), (9, bq), (13, q), (14, .int .i64 (s.length : Nat)), (15, .int .i64 (i : Nat))],
        [own1 bq 2 1 (fun _ => spotD (p1 : Nat) (p2 : Nat)), famR x.1 x.2, outer ov x.2.length x.1, own1 sb 2 1 (fun _ => zd (asum (R.take i))), own1 bp 5 1 (fun _ => planD s T Y M)], [(q, ShD s), (w, vd R)]))
      (fun x => GdOk s T Y R a i ov x.1 x.2 ∧ p1 < x.2.length) (fun x => p2 + 1 - (x.2.getD p1 []).length) rfl ?_ ?_
    · exact again (vs, m) ⟨hg, hp1⟩ trivial qF (Seals.sub qS)
    clear hg hp1 hml
    rintro ⟨vs, m⟩ ⟨hg, hp1⟩
    simp only at hg hp1 ⊢
    have hml := hg.lg.len
    have hrw := hg.lg.row _ (getD_mem [] hp1)
    refine draw_rule [0, 1, 2, 3, 4, 5, 6, 7, 8] [0, 1, 2, 3, 4, 5, 6, 7, 8] (by kernel_rfl) (by kernel_rfl) ?_
    refine index_arr hbq 0 rfl (by decide) ?_
    refine load_box_field_one 0 rfl (Part.left (Part.refl _)) ?_
    refine index_elem 2 rfl hg.ov p1 rfl hp1 ?_
    refine load_one_elem 2 rfl p1 hp1 (u := vs p1) rfl ?_
    refine len_famR 1 p1 rfl hp1 (hg.vs p1 hp1) fun _ => ?_
    refine index_arr hbq 1 rfl (by decide) ?_
    refine load_box_field_one 0 rfl (Part.right (Part.refl _)) ?_
    refine cmp_split _ rfl (fun hl2 => ?_) (fun hl2 => ?_)
    · refine draw_ord [0, 1, 2, 3, 4, 5, 6, 7, 8, 9, 10, 11, 12] (by kernel_rfl) ?_
      refine ordE_go [own1 bq 2 1 (fun _ => spotD (p1 : Nat) (p2 : Nat))] [1, 2] [9, 10] [] [0, 1, 2, 3, 4, 5, 6, 7, 8, 9, 10, 11, 12] (by kernel_rfl) (by kernel_rfl) (by kernel_rfl) ?_
      refine lookD (v := eptr bq 0) ⟨qM, trivial⟩ rfl (fun _ _ _ => index_arr hbq 0 rfl (by decide) rfl) ?_
      refine lookD (v := .int .i64 (p1 : Nat)) ⟨qM, trivial⟩ rfl (lookNum (Part.left (Part.refl _))) ?_
      refine index_arr hbq 0 rfl (by decide) ?_
      refine load_box_field_one 0 rfl (Part.left (Part.refl _)) ?_
      refine index_elem 2 rfl hg.ov p1 rfl hp1 ?_
      refine load_one_elem 2 rfl p1 hp1 (u := vs p1) rfl ?_
      refine build0 (da := .one (.bool false)) (db := U []) (fun S w => ⟨[.bool false], [.slice none 0 0], rfl, rd_false S w, rd_nil S w 1 _⟩) fun z => ?_
      refine lit_L (size := 2) J z0 z0 (by decide) (Reads.fact (v := z) (d := J z0) qM) rfl fun l1 => ?_
      refine eGo ⟨qM, trivial⟩ ?_
      refine append_famR (x := [z0]) 1 p1 rfl hp1 (hg.vs p1 hp1) qM (by simp only [List.length_cons, List.length_nil]; omega) (by simp only [List.length_cons, List.length_nil]; omega) fun v2 hv2 => ?_
      refine eGo ⟨qM, trivial⟩ ?_
      refine index_elem 2 rfl hg.ov p1 rfl hp1 ?_
      refine store_elem (d := .one v2) 2 rfl p1 hp1 rfl (by kernel_rfl) (Reads.one hv2.one) ?_
      refine again (upv vs p1 v2, m.set p1 (m.getD p1 [] ++ [z0])) ⟨⟨hg.ov, fun j hj => ?_, hg.lg.setR (by simp only [List.length_append, List.length_cons, List.length_nil]; omega) hrw.2.app, fun u v => by rw [gv_app hp1]; exact hg.gv u v⟩, by rw [List.length_set]; exact hp1⟩ (by simp only [getD_set2 hp1, if_pos, List.length_append, List.length_cons, List.length_nil]; omega) qF ?_
      · simp only [List.length_set] at hj
        show isSl (upv vs p1 v2 j)
        unfold upv
        split
        · exact hv2
        · exact hg.vs j hj
      · rw [List.length_set]
        refine Seals.trans (Seals.own_cong (os := [_, _, _, _, _]) 2 (fun y => .one (upv vs p1 v2 y)) rfl rfl fun y _ => ?_) (Seals.sub qS)
        unfold upd upv
        split <;> rfl
    have hp2 : p2 < (m.getD p1 []).length := by omega
    clear hl2
    refine draw_rule [0, 1, 2, 3, 4, 5, 6, 7, 8, 9, 10, 11, 12, 13, 14, 15, 16, 17, 18, 19, 20, 21, 22] [0, 1, 2, 3, 4, 5, 6, 7, 8, 9, 10, 11, 12, 13, 14, 15, 16, 17, 18, 21, 22, 19, 20] (by kernel_rfl) (by kernel_rfl) ?_
    refine index_arr hbq 0 rfl (by decide) ?_
    refine load_box_field_one 0 rfl (Part.left (Part.refl _)) ?_
    refine index_elem 2 rfl hg.ov p1 rfl hp1 ?_
    refine load_one_elem 2 rfl p1 hp1 (u := vs p1) rfl ?_
    refine index_arr hbq 1 rfl (by decide) ?_
    refine load_box_field_one 0 rfl (Part.right (Part.refl _)) ?_
    refine index_fact (v := w) qM i rfl (by rw [hRl]; exact his) fun a3 => ?_
    refine load_fact (d := J ((R.map cn).getD i z0)) qM (load_J _) fun y1 => ?_
    refine field_box 4 rfl hbp ?_
    refine load_box_field (d := vd (s.map (sclV T Y))) 4 rfl (Part.right (Part.right (Part.left (Part.refl _)))) (load_V _) fun y2 => ?_
    refine index_fact (v := y2) qM i rfl (by rw [List.length_map, List.length_map]; exact his) fun a4 => ?_
    refine load_fact (d := J (((s.map (sclV T Y)).map cn).getD i z0)) qM (load_J _) fun y3 => ?_
    rw [hRi, hsi2]
    refine call_fn (zDivModZ y1 y3 (R.getD i 0) (sclV T Y (p1, p2)) a b zR hpz.1 (by omega) (by omega) hpz.2) (Seals.refl _ _) qS ?_
    rintro _ _ _ ⟨rfl, q1, r1, rfl, rfl⟩
    refine index_famR 1 p1 rfl hp1 (hg.vs p1 hp1) p2 rfl hp2 ?_
    refine store_R 1 p1 p2 rfl hp1 hp2 (cn (R.getD i 0 / sclV T Y (p1, p2))) (Reads.fact (d := zd (R.getD i 0 / sclV T Y (p1, p2))) qM) ?_
    refine draw_rule [0, 1, 2, 3, 4, 5, 6, 7] [0, 1, 2, 3, 4, 5, 6, 7] (by kernel_rfl) (by kernel_rfl) ?_
    refine load_box (d := zd (asum (R.take i))) 3 rfl hsb rfl (load_I _ _) fun y4 => ?_
    refine index_fact (v := w) qM i rfl (by rw [hRl]; exact his) fun a5 => ?_
    refine load_fact (d := J ((R.map cn).getD i z0)) qM (load_J _) fun y5 => ?_
    rw [hRi]
    refine call_fn (zAbsZ y5 (R.getD i 0) a zR (by omega)) (Seals.refl _ _) qS ?_
    rintro y6 _ _ ⟨rfl, rfl⟩
    refine call_fn (zAddZ y4 y6 _ _ (a + 1) a hsi (sz_abs zR) (by omega) (by omega)) (Seals.refl _ _) qS ?_
    rintro y7 _ _ ⟨rfl, rfl⟩
    refine store_box (d := zd (asum (R.take i) + ((R.getD i 0).natAbs : Nat))) 3 rfl hsb rfl (by kernel_rfl) (Reads.fact qM) ?_
    refine ar rfl qI ?_
    refine again (i + 1, ov, vs, m.set p1 ((m.getD p1 []).set p2 (cn (R.getD i 0 / sclV T Y (p1, p2))))) ⟨by simp only; omega, hg.ov, fun j hj => hg.vs j (by rw [List.length_set] at hj; exact hj), hg.lg.setR (by rw [List.length_set]; exact hrw.1) (hrw.2.set ⟨Lim_lims _, (sz_div zR).len⟩), fun u v => ?_⟩ (by simp only; omega) qF ?_
    · rw [gv_set hp1 hp2, jv_cn, hgs, hg.gv]
    · rw [htk, asum_snoc, List.length_set]
      exact Seals.trans (Seals.drop 0 _ _) (Seals.trans (Seals.boxAt 2 rfl rfl) (Seals.sub qS))
  · have hil : i = s.length := by omega
    subst hil
    rw [show R.take s.length = R by rw [← lR, List.take_length]]
    have hs1 := hsum s.length (Nat.le_refl _)
    rw [show R.take s.length = R by rw [← lR, List.take_length]] at hs1
    have hN := xgNorm ov hg.lg (by omega) (by decide)
    have hge : gn (ww m) = gridV s T Y R := (gn_gn _).ext (gridV_gn _ _ _ _) fun u v => by rw [gn_gv, hg.gv, gridV_gv hb]
    rw [hge] at hN
    refine draw_rule [0, 2, 3, 4, 1, 5, 6, 7, 8] [0, 1, 2, 3, 4, 5, 7, 6, 8] (by kernel_rfl) (by kernel_rfl) ?_
    refine load_box (d := zd (asum R)) 2 rfl hsb rfl (load_I _ _) fun y1 => ?_
    refine field_box 3 rfl hbp ?_
    refine load_box_field (d := zd M) 3 rfl (Part.right (Part.right (Part.right (Part.refl _)))) (load_I _ _) fun y2 => ?_
    refine call_fn hN (Seals.madeR' rfl hg.ov hg.vs) qS ?_
    rintro r _ _ ⟨rfl, rfl⟩
    refine call_fn (zCmpSZ y1 y2 _ _ (a + 1) c hs1 hM (by omega) (by omega)) (Seals.refl _ _) qS ?_
    rintro _ _ _ ⟨rfl, rfl, rfl⟩
    refine cmp_split _ rfl (fun hl => ?_) (fun hl => ?_)
    · rw [decide_eq_true (show asum R < M by have := sgn_lt.1 hl; omega)]
      exact fin ⟨rfl, r, rfl, rfl⟩ (Seals.trans (Seals.drop 0 _ _) (Seals.trans (Seals.drop 0 _ _) (Seals.sub qS)))
    · rw [decide_eq_false (show ¬ asum R < M from fun h => hl (sgn_lt.2 (by omega)))]
      exact fin ⟨rfl, r, rfl, rfl⟩ (Seals.trans (Seals.drop 0 _ _) (Seals.trans (Seals.drop 0 _ _) (Seals.sub qS)))
open Go.RowKit
theorem shp_big (d n : Nat) : d * n + 1 ≤ (shp d n).length := by
  unfold shp
  rw [List.range_succ_eq_map, List.flatMap_cons, List.length_append, List.length_map, List.length_range]
  have : d * (n - 0) = d * n := by rw [Nat.sub_zero]
  omega
def glJ : Row → List Row
  | [] => []
  | c :: l => [c, cn (-1)] :: l.map fun c => [c]
theorem glJ_len (L : Row) : (glJ L).length = L.length := by cases L <;> simp [glJ]
theorem glJ_ww (l : List Int) : ww (glJ (l.map cn)) = gless l := by
  cases l with
  | nil => rfl
  | cons c l =>
    simp only [List.map_cons, glJ, ww, gless, vv, List.map_nil, jv_cn, List.map_map]
    congr 1
    refine List.map_congr_left fun x _ => ?_
    simp [vv, jv_cn]
theorem glJ_step {L : Row} {i : Nat} (hi : i < L.length) (h0 : i ≠ 0) : glJ (L.take (i + 1)) = glJ (L.take i) ++ [[L.getD i z0]] := by
  obtain ⟨j, rfl⟩ : ∃ j, i = j + 1 := ⟨i - 1, by omega⟩
  cases L with
  | nil => simp at hi
  | cons c l =>
    simp only [List.length_cons] at hi
    have e : l.take (j + 1) = l.take j ++ [(c :: l).getD (j + 1) z0] := by
      rw [List.take_add_one, List.getElem?_eq_getElem (show j < l.length by omega)]
      simp [List.getD_eq_getElem?_getD, List.getElem?_eq_getElem (show j < l.length by omega)]
    simp only [List.take_succ_cons, glJ, e, List.map_append, List.map_cons, List.map_nil, List.cons_append]
theorem glJ_one {L : Row} (h : 0 < L.length) : glJ (L.take 1) = [[L.getD 0 z0, cn (-1)]] := by
  cases L with
  | nil => simp at h
  | cons c l => simp [glJ]
theorem glJ_row {L : Row} {r : Row} (h : r ∈ glJ L) : ∃ c, c ∈ L ∧ (r = [c] ∨ r = [c, cn (-1)]) := by
  cases L with
  | nil => simp [glJ] at h
  | cons c l =>
    rcases List.mem_cons.1 h with rfl | h
    · exact ⟨c, List.mem_cons_self .., .inr rfl⟩
    · obtain ⟨x, hx, rfl⟩ := List.mem_map.1 h
      exact ⟨x, List.mem_cons_of_mem _ hx, .inl rfl⟩
theorem glJ_lg {l : List Int} {k n : Nat} (hl : szR k l) (h1 : 1 ≤ k) (hn : l.length ≤ n) (h2 : 2 ≤ n) : Lg (glJ (l.map cn)) (gless l) k n :=
  ⟨glJ_ww l, by rw [glJ_len, List.length_map]; exact hn, fun r hr => by
    obtain ⟨c, hc, h⟩ := glJ_row hr
    obtain ⟨x, hx, rfl⟩ := List.mem_map.1 hc
    have h3 : Lim (cn x).2 ∧ (cn x).2.length ≤ k := ⟨Lim_lims _, (hl x hx).len⟩
    have h4 : Lim (cn (-1)).2 ∧ (cn (-1)).2.length ≤ k := ⟨Lim_lims _, ((sz_one (-1) (by decide)).mono h1).len⟩
    rcases h with rfl | rfl
    · exact ⟨by simp only [List.length_cons, List.length_nil]; omega, fun y hy => by rw [List.mem_singleton.1 hy]; exact h3⟩
    · refine ⟨by simp only [List.length_cons, List.length_nil]; omega, fun y hy => ?_⟩
      rcases List.mem_cons.1 hy with rfl | hy
      · exact h3
      · rw [List.mem_singleton.1 hy]; exact h4⟩
theorem LD_wd (m : List (List Int)) : LD 1 vd [] m = wd m := by
  unfold wd W LD
  rw [List.length_map]
  congr 1
  funext i
  show V ((m.getD i []).map cn) = V ((m.map fun l => l.map cn).getD i [])
  congr 1
  by_cases h : i < m.length
  · simp [List.getD_eq_getElem?_getD, h]
  · simp [List.getD_eq_getElem?_getD, h]
def matG (P : List Int) (m : Int) (n : Nat) (s : Nat × Nat) : List (List Int) := gpw (gless (nrm P)) (gone (m ^ (n - s.2)) s.1) s.2
def matR (P : List Int) (m t y n : Int) : List (List Int) × Int :=
  if planOk P m t y n then ((shp (dg P - 1) n.toNat).map fun s => rowV (shp (dg P - 1) n.toNat) (lst1 t) (lst1 y) (matG P m n.toNat s), 0) else ([], 1)
theorem gone_lg {c : Int} {i k n : Nat} (hc : sz c k) (hi : i + 1 ≤ n) : Lg (toW (gone c i)) (gone c i) k n :=
  Lg.told (by simp [gone]; omega) fun r hr => by
    unfold gone at hr
    rcases List.mem_append.1 hr with hr | hr
    · rw [(List.mem_replicate.1 hr).2]; exact ⟨Nat.zero_le _, fun x hx => by simp at hx⟩
    · rw [List.mem_singleton.1 hr]
      exact ⟨by simp only [List.length_cons, List.length_nil]; omega, fun x hx => by rw [List.mem_singleton.1 hx]; exact hc⟩
theorem gpw_lg {L G : List (List Int)} {k j n n' : Nat} (hL : Lg (toW L) L j n') (hG : Lg (toW G) G k n) (hn' : n' ≤ 1024) : ∀ i, n + i * n' ≤ 1024 → Lg (toW (gpw L G i)) (gpw L G i) (k + i * (j + 1)) (n + i * n')
  | 0, _ => by rw [Nat.zero_mul, Nat.zero_mul]; exact hG
  | i + 1, h => by
    have h1 : n + i * n' ≤ 1024 := by rw [Nat.succ_mul] at h; omega
    have := (gpw_lg hL hG hn' i h1).mul hL h1 hn'
    rw [Nat.succ_mul, Nat.succ_mul, ← Nat.add_assoc, ← Nat.add_assoc, ← Nat.add_assoc]
    exact this
theorem sclV_sz {T Y : Int} {a n : Nat} {p : Nat × Nat} (hT : sz T a) (hY : sz Y a) (hp : p.1 ≤ n ∧ p.2 ≤ n) : sz (sclV T Y p) (2 * (n * a + 1)) := by
  have h1 := (sz_pow hT p.1).mono (Nat.succ_le_succ (Nat.mul_le_mul_right a hp.1))
  have h2 := (sz_pow hY p.2).mono (Nat.succ_le_succ (Nat.mul_le_mul_right a hp.2))
  exact (h1.mul h2).mono (by omega)
theorem lst1_sz {x : Int} {a : Nat} (h : sz x a) (h1 : 1 ≤ a) : sz (lst1 x) a := by
  unfold lst1; split
  · exact (sz_one 1 (by decide)).mono h1
  · exact h
theorem lst1_ne (x : Int) : lst1 x ≠ 0 := by unfold lst1; split <;> omega
theorem sclV_ne {T Y : Int} (hT : T ≠ 0) (hY : Y ≠ 0) (p : Nat × Nat) : sclV T Y p ≠ 0 := Int.mul_ne_zero (Int.pow_ne_zero hT) (Int.pow_ne_zero hY)
set_option maxHeartbeats 4000000 in
theorem slzMatrix_meets (v w u z : Value) (p : Row) (m t y : Bool × List Nat) (n : Int) (k a : Nat) (hp : Fit k p) (lp : p.length ≤ 1000) (h1k : 1 ≤ k) (hk : k ≤ 10000) (hm : Lim m.2) (hma : m.2.length ≤ a) (ht : Lim t.2) (hta : t.2.length ≤ a) (hy : Lim y.2) (hya : y.2.length ≤ a) (h1a : 1 ≤ a) (ha : a ≤ 10000) (hn : inK .i64 n) :
    Meets Tryz.prog 17 [v, w, u, z, .int .i64 n] [(v, V p), (w, J m), (u, J t), (z, J y)] (fun r os fs => os = [] ∧ ∃ q, r = .tuple #[q, .int .i64 (matR (vv p) (jv m) (jv t) (jv y) n).2] ∧ fs = [(q, wd (matR (vv p) (jv m) (jv t) (jv y) n).1)]) := by
  have hpl := fun y1 y2 y3 => slzplanned_meets v y1 y2 y3 p m t y n k a hp lp (by omega) hm hma ht hta hy hya ha hn
  have hnm := pNorm_meets v p (hp.mono (by omega)) (by omega)
  by_cases hok : planOk (vv p) (jv m) (jv t) (jv y) n
  case neg =>
    rw [show planR (vv p) (jv m) (jv t) (jv y) n = (planZD, 1) from if_neg hok] at hpl
    refine meets_of_vc Tryz.func17 (by kernel_rfl) rfl (by kernel_rfl) (Nat.le_of_ble_eq_true rfl) ?_
    refine box_rule (Reads.fact (d := J m) qM) fun b1 h1 => ?_
    refine box_rule (Reads.fact (d := J t) qM) fun b2 h2 => ?_
    refine box_rule (Reads.fact (d := J y) qM) fun b3 h3 => ?_
    refine load_box (d := J m) 2 rfl h1 rfl (load_J _) fun y1 => ?_
    refine load_box (d := J t) 1 rfl h2 rfl (load_J _) fun y2 => ?_
    refine load_box (d := J y) 0 rfl h3 rfl (load_J _) fun y3 => ?_
    refine call_fn (hpl y1 y2 y3) (Seals.refl _ _) qS ?_
    rintro _ _ _ ⟨rfl, q, rfl, rfl⟩
    refine alloc_rule (d := planZD) fun bp hbp => ?_
    refine store_box (d := planZD) 0 rfl hbp rfl (by kernel_rfl) (Reads.fact qM) ?_
    refine cmp_true rfl (by decide) ?_
    rw [show matR (vv p) (jv m) (jv t) (jv y) n = ([], 1) from if_neg hok]
    exact fin ⟨rfl, .slice none 0 0, rfl, rfl⟩ (Seals.trans (Seals.drop 0 _ _) (Seals.trans (Seals.drop 0 _ _) (Seals.trans (Seals.drop 0 _ _) (Seals.trans (Seals.drop 0 _ _) (Seals.cons (Knw.nil 1 _) (Seals.nil _ _))))))
  rw [show planR (vv p) (jv m) (jv t) (jv y) n = (planD (shp (dg (vv p) - 1) n.toNat) (lst1 (jv t)) (lst1 (jv y)) (jv m ^ n.toNat), 0) from if_pos hok] at hpl
  have hres : matR (vv p) (jv m) (jv t) (jv y) n = ((shp (dg (vv p) - 1) n.toNat).map fun s => rowV (shp (dg (vv p) - 1) n.toNat) (lst1 (jv t)) (lst1 (jv y)) (matG (vv p) (jv m) n.toNat s), 0) := if_pos hok
  rw [hres]
  clear hres
  have hdl : dg (vv p) ≤ 1000 := by have := dg_le_len (vv p); rw [vv_len] at this; omega
  obtain ⟨k1, k2, k3, k4⟩ := hok
  obtain ⟨j1, j2, j3, j4, j5, j6⟩ := shpR_ok k1
  obtain ⟨n, rfl⟩ : ∃ k : Nat, n = (k : Int) := ⟨n.toNat, by omega⟩
  rw [Int.toNat_natCast] at *
  rw [show (((dg (vv p) : Nat) - 1 : Int)).toNat = dg (vv p) - 1 by omega] at j5
  clear j6 k1
  have hpd : (nrm (vv p)).length = dg (vv p) := rfl
  obtain ⟨d, hd⟩ : ∃ d, dg (vv p) = d + 1 := ⟨dg (vv p) - 1, by omega⟩
  rw [hd, Nat.add_sub_cancel] at hpl j5 ⊢
  have hbig := shp_big d n
  have hnd := shp_nodup d n
  have hmemS : ∀ s, s ∈ shp d n → s.1 ≤ 23 ∧ s.2 ≤ n ∧ s.1 ≤ d * (n - s.2) := fun s hs => by
    obtain ⟨x, y⟩ := s
    have h1 := shp_mem.1 hs
    have h2 : d * (n - y) ≤ d * n := Nat.mul_le_mul_left _ (by omega)
    exact ⟨by simp only; omega, h1⟩
  have hlg : Lg (glJ ((nrm (vv p)).map cn)) (gless (nrm (vv p))) k 24 := glJ_lg hp.szR.nrm h1k (by omega) (by decide)
  have hm2 : sz (jv m) a := sz_jv hm hma
  have hshape : ∀ s, s ∈ shp d n → ∀ u v, gv (matG (vv p) (jv m) n s) u v ≠ 0 → (u, v) ∈ shp d n := fun s hs u v h => by
    have := hmemS s hs
    exact gpw_shape (d := d) (n := n) (by rw [hpd]; omega) this.2.2 this.2.1 (by omega) h
  have hgl : ∀ s, s ∈ shp d n → ∀ j, j ≤ s.2 → Lg (toW (gpw (gless (nrm (vv p))) (gone (jv m ^ (n - s.2)) s.1) j)) (gpw (gless (nrm (vv p))) (gone (jv m ^ (n - s.2)) s.1) j) (23 * a + 1 + 23 * (k + 1)) 576 := fun s hs j hj => by
    have h1 := hmemS s hs
    have h2 : sz (jv m ^ (n - s.2)) (23 * a + 1) := (sz_pow hm2 (n - s.2)).mono (Nat.succ_le_succ (Nat.mul_le_mul_right a (by omega)))
    have h3 : j * 24 ≤ 23 * 24 := Nat.mul_le_mul_right _ (by omega)
    have h4 : j * (k + 1) ≤ 23 * (k + 1) := Nat.mul_le_mul_right _ (by omega)
    exact (gpw_lg hlg.toW (gone_lg (n := 24) h2 (by omega)) (by decide) j (by omega)).mono (by omega) (by omega)
  have hscl : ∀ s, s ∈ shp d n → sz (sclV (lst1 (jv t)) (lst1 (jv y)) s) (2 * (23 * a + 1)) := fun s hs => by
    have := hmemS s hs
    exact sclV_sz (lst1_sz (sz_jv ht hta) h1a) (lst1_sz (sz_jv hy hya) h1a) ⟨this.1, by omega⟩
  have hrow : ∀ s, s ∈ shp d n → ∀ x1 x2, Meets Tryz.prog 59 [x1, x2] [(x1, planD (shp d n) (lst1 (jv t)) (lst1 (jv y)) (jv m ^ n)), (x2, wd (matG (vv p) (jv m) n s))] (fun r os fs => os = [] ∧ fs = [(r, vd (rowV (shp d n) (lst1 (jv t)) (lst1 (jv y)) (matG (vv p) (jv m) n s)))]) := fun s hs x1 x2 => by
    have h1 : Lg (toW (matG (vv p) (jv m) n s)) (matG (vv p) (jv m) n s) _ _ := hgl s hs s.2 (Nat.le_refl _)
    have h2 := slzrow_meets x1 x2 (shp d n) (lst1 (jv t)) (lst1 (jv y)) (jv m ^ n) (toW (matG (vv p) (jv m) n s)) _ _ hnd (fun p hp => by have := hmemS p hp; omega) (by omega) (fun r hr => ⟨by have := (h1.row r hr).1; omega, (h1.row r hr).2⟩) (by have := h1.len; omega)
      (by rw [ww_toW]; exact hshape s hs) (by omega) hscl (by omega)
    rw [ww_toW] at h2
    exact h2
  have hpw := fun (i : Nat) (hi : i ≤ n) y1 => slzpower_meets y1 m i a hm hma (by omega) (by omega)
  have hmu : ∀ s, s ∈ shp d n → ∀ j, j < s.2 → ∀ x1 x2, Meets Tryz.prog 58 [x1, x2] [(x1, wd (gpw (gless (nrm (vv p))) (gone (jv m ^ (n - s.2)) s.1) j)), (x2, W (glJ ((nrm (vv p)).map cn)))] (fun r os fs => os = [] ∧ fs = [(r, wd (gpw (gless (nrm (vv p))) (gone (jv m ^ (n - s.2)) s.1) (j + 1)))]) := fun s hs j hj x1 x2 =>
    xgMul x1 x2 (hgl s hs j (by omega)) hlg (by omega) (by decide) (by decide)
  clear hgl hscl hm2 k2 k3 k4 hbig j1 hk hdl hshape hp hlg
  have hmG : ∀ s, gpw (gless (nrm (vv p))) (gone (jv m ^ (n - s.2)) s.1) s.2 = matG (vv p) (jv m) n s := fun _ => rfl
  generalize nrm (vv p) = L at *
  generalize hT : lst1 (jv t) = T at *
  generalize hY : lst1 (jv y) = Y at *
  generalize hMM : jv m ^ n = M at *
  generalize hS : shp d n = S at *
  generalize hGG : matG (vv p) (jv m) n = GG at *
  have hLl : (L.map cn).length = d + 1 := by rw [List.length_map, hpd, hd]
  refine meets_of_vc Tryz.func17 (by kernel_rfl) rfl (by kernel_rfl) (Nat.le_of_ble_eq_true rfl) ?_
  refine box_rule (Reads.fact (d := J m) qM) fun b1 h1 => ?_
  refine box_rule (Reads.fact (d := J t) qM) fun b2 h2 => ?_
  refine box_rule (Reads.fact (d := J y) qM) fun b3 h3 => ?_
  refine load_box (d := J m) 2 rfl h1 rfl (load_J _) fun y1 => ?_
  refine load_box (d := J t) 1 rfl h2 rfl (load_J _) fun y2 => ?_
  refine load_box (d := J y) 0 rfl h3 rfl (load_J _) fun y3 => ?_
  refine call_fn (hpl y1 y2 y3) (Seals.refl _ _) qS ?_
  rintro _ _ _ ⟨rfl, q, rfl, rfl⟩
  refine alloc_rule (d := planZD) fun bp hbp => ?_
  refine store_box (d := planD S T Y M) 0 rfl hbp rfl (by kernel_rfl) (Reads.fact qM) ?_
  refine cmp_false rfl (fun h => h rfl) ?_
  refine empty_L (size := 1) (α := Value) Dat.one undef (by decide) fun g0 hg0 => ?_
  refine call_fn hnm (Seals.refl _ _) qS ?_
  rintro pv _ _ ⟨rfl, rfl⟩
  refine len_fact (v := pv) (n := (L.map cn).length) qM fun _ => ?_
  refine loop_rule (X := Nat × Value × (Nat → Value)) (fun x => ([(4, .int .i64 (n : Nat)), (6, b1), (12, bp), (14, x.2.1), (35, pv), (36, .int .i64 ((L.map cn).length : Nat)), (37, .int .i64 (x.1 : Nat))],
      [famR x.2.2 (glJ ((L.map cn).take x.1)), outer x.2.1 x.1 x.2.2, own1 bp 5 1 (fun _ => planD S T Y M), own1 b1 2 1 (fun _ => J m)], [(pv, vd L)]))
    (fun x => x.1 ≤ (L.map cn).length ∧ isSl x.2.1 ∧ ∀ j, j < x.1 → isSl (x.2.2 j)) (fun x => (L.map cn).length - x.1) rfl ?_ ?_
  · refine again (0, g0, fun _ => undef) ⟨Nat.zero_le _, hg0, fun j hj => absurd hj (Nat.not_lt_zero _)⟩ trivial qF ?_
    refine Seals.trans (Seals.boxAt 1 (d := planD S T Y M) rfl rfl) (Seals.trans (Seals.drop 2 _ _) (Seals.trans (Seals.drop 2 _ _) (Seals.trans (Seals.none (famR (fun _ => undef) []) (by simp [famR])) ?_)))
    exact Seals.sub qS
  · rintro ⟨i, ov, vs⟩ ⟨hi, hov, hvs⟩
    simp only at hi hov hvs ⊢
    refine cmp_split _ rfl (fun hlt => ?_) (fun hlt => ?_)
    · have hil : i < (L.map cn).length := by omega
      have hml : (glJ ((L.map cn).take i)).length = i := by rw [glJ_len, List.length_take]; omega
      refine index_fact (v := pv) qM i rfl hil fun a1 => ?_
      refine load_fact (d := J ((L.map cn).getD i z0)) qM (load_J _) fun y4 => ?_
      refine alloc_rule (d := I false []) fun bc hbc => ?_
      refine store_box (d := J ((L.map cn).getD i z0)) 0 rfl hbc rfl (by kernel_rfl) (Reads.fact qM) ?_
      refine load_box (d := J ((L.map cn).getD i z0)) 0 rfl hbc rfl (load_J _) fun y5 => ?_
      refine buildSlice_own (size := 2) (n := 1) [y5] [J ((L.map cn).getD i z0)] rfl rfl (by decide) (by decide) ⟨Reads.fact qM, rfl, trivial⟩ fun r0 hr0 => ?_
      refine lit_L (size := 1) Dat.one undef r0 (by decide) (Reads.one hr0.one) rfl fun l1 => ?_
      have hjoin : ∀ {os : List Own} {fs : List Fact} (m : List Row), m.length = i → Seals (own1 r0 2 1 (fun j => [J ((L.map cn).getD i z0)].getD j (.one undef)) :: famR vs m :: os) fs (famR (upv vs i r0) (m ++ [[(L.map cn).getD i z0]]) :: os) fs := fun m hm => by
        refine Seals.join (F := famR vs m) (F' := famR (upv vs i r0) (m ++ [[(L.map cn).getD i z0]])) (by simp [famR]) rfl rfl (fun b (hb : b < m.length) => ⟨?_, ?_, fun j _ => ?_⟩) ⟨?_, ?_, fun j hj => ?_⟩
        · exact if_neg (by omega)
        · show ((m ++ [[(L.map cn).getD i z0]]).getD b []).length = (m.getD b []).length
          simp [List.getD_eq_getElem?_getD, List.getElem?_append_left hb]
        · show J (((m ++ [[(L.map cn).getD i z0]]).getD b []).getD j z0) = J ((m.getD b []).getD j z0)
          simp [List.getD_eq_getElem?_getD, List.getElem?_append_left hb]
        · show upv vs i r0 m.length = r0
          rw [hm]; exact if_pos rfl
        · show ((m ++ [[(L.map cn).getD i z0]]).getD m.length []).length = 1
          simp [List.getD_eq_getElem?_getD]
        · have hj0 : j = 0 := by omega
          subst hj0
          show J (((m ++ [[(L.map cn).getD i z0]]).getD m.length []).getD 0 z0) = _
          simp [List.getD_eq_getElem?_getD]
      refine append_one (size := 1) (n := i) (el' := fun y => Dat.one ([r0].getD y undef)) (e' := fun y => .one (upv vs i r0 y)) 3 rfl hov (Knw.fact qM) (fun y hy => ?_) (by omega) (by omega) fun ov2 hov2 => ?_
      · unfold upv
        by_cases e : y < i
        · rw [if_pos e, if_neg (by omega)]
        · rw [if_neg e, if_pos (by omega)]; rfl
      by_cases h0 : i = 0
      · subst h0
        refine cmp_true rfl rfl ?_
        refine draw_rule [0, 1, 2, 3, 4, 5, 6, 7, 8] [0, 1, 2, 3, 4, 5, 6, 7, 8] (by kernel_rfl) (by kernel_rfl) ?_
        refine index_elem 3 rfl hov2 0 rfl (Nat.lt_succ_self _) ?_
        refine load_one_elem 3 rfl 0 (Nat.lt_succ_self _) (u := r0) rfl ?_
        refine call_fn (zof_meets (-1) (by decide) (by decide)) (Seals.trans (Seals.perm (List.Perm.swap _ _ _)) (Seals.trans (Seals.drop 0 _ _) (hjoin [] rfl))) qS ?_
        rintro y6 _ _ ⟨rfl, rfl⟩
        refine lit_L (size := 2) J z0 (cn (-1)) (by decide) (Reads.fact (v := y6) (d := zd (-1)) qM) rfl fun l2 => ?_
        refine append_famR (vs := upv vs 0 r0) (m := [] ++ [[(L.map cn).getD 0 z0]]) (x := [cn (-1)]) 0 0 rfl (Nat.lt_succ_self _) hr0 qM (by simp) (by simp) fun v2 hv2 => ?_
        refine index_elem 1 rfl hov2 0 rfl (Nat.lt_succ_self _) ?_
        refine store_elem (d := .one v2) 1 rfl 0 (Nat.lt_succ_self _) rfl (by kernel_rfl) (Reads.one hv2.one) ?_
        refine ar rfl qI ?_
        refine again (1, ov2, upv (upv vs 0 r0) 0 v2) ⟨by simp only; omega, hov2, fun j hj => ?_⟩ (by simp only; omega) qF ?_
        · have hj0 : j = 0 := by simp only at hj; omega
          subst hj0
          exact hv2
        · rw [glJ_one (by omega)]
          refine Seals.trans (Seals.own_cong (os := [_, _, _, _]) 1 (fun y => .one (upv (upv vs 0 r0) 0 v2 y)) rfl rfl fun y hy => ?_) (Seals.sub qS)
          have hy0 : y = 0 := by omega
          subst hy0
          rfl
      · refine cmp_false rfl (by omega) ?_
        refine ar rfl qI ?_
        refine again (i + 1, ov2, upv vs i r0) ⟨by simp only; omega, hov2, fun j hj => ?_⟩ (by simp only; omega) qF ?_
        · show isSl (upv vs i r0 j)
          unfold upv; split
          · exact hr0
          · exact hvs j (by simp only at hj; omega)
        · rw [glJ_step hil h0]
          exact Seals.trans (Seals.perm (List.Perm.swap _ _ _)) (Seals.trans (Seals.drop 0 _ _) (Seals.trans (hjoin _ hml) (Seals.sub qS)))
    · have hil : i = (L.map cn).length := by omega
      subst hil
      rw [List.take_length]
      refine field_box 2 rfl hbp ?_
      refine load_box_field (d := ShD S) 2 rfl (Part.left (Part.refl _)) (load_Sh _) fun q => ?_
      refine len_fact (v := q) (n := S.length) qM fun _ => ?_
      refine loop_rule (X := Nat × Value) (fun x => ([(4, .int .i64 (n : Nat)), (6, b1), (12, bp), (14, ov), (17, x.2), (59, q), (60, .int .i64 (S.length : Nat)), (61, .int .i64 (x.1 : Nat))],
          [ownL 1 vd [] x.2 ((S.take x.1).map fun s => rowV S T Y (GG s)), own1 bp 5 1 (fun _ => planD S T Y M), own1 b1 2 1 (fun _ => J m)], [(q, ShD S), (ov, W (glJ (L.map cn)))]))
        (fun x => x.1 ≤ S.length ∧ isSl x.2) (fun x => S.length - x.1) rfl ?_ ?_
      · refine again (0, .slice none 0 0) ⟨Nat.zero_le _, isSl_nil⟩ trivial qF ?_
        exact Seals.trans (Seals.madeR' (by rw [glJ_len]) hov hvs) (Seals.trans (Seals.own_nil _ _ 1 fun i => vd (([] : List (List Int)).getD i [])) (Seals.sub qS))
      rintro ⟨i, xo⟩ ⟨hi, hxo⟩
      simp only at hi hxo ⊢
      refine cmp_split _ rfl (fun hlt => ?_) (fun hlt => ?_)
      · have his : i < S.length := by omega
        have hin : S.getD i (0, 0) ∈ S := getD_mem (0, 0) his
        have hb := hmemS _ hin
        have hmu' := hmu _ hin
        have hrow' := hrow _ hin
        have hmG' := hmG (S.getD i (0, 0))
        have htk : (S.take (i + 1)).map (fun s => rowV S T Y (GG s)) = (S.take i).map (fun s => rowV S T Y (GG s)) ++ [rowV S T Y (GG (S.getD i (0, 0)))] := by
          rw [List.take_add_one, List.getElem?_eq_getElem his, List.map_append, List.getD_eq_getElem?_getD, List.getElem?_eq_getElem his]; rfl
        have htl : ((S.take i).map fun s => rowV S T Y (GG s)).length = i := by rw [List.length_map, List.length_take]; omega
        refine index_fact (v := q) qM i rfl his fun a1 => ?_
        refine load_fact (d := spE (S.getD i (0, 0))) qM (load_sp _) fun a2 => ?_
        generalize hRR : rowV S T Y (GG (S.getD i (0, 0))) = RR at *
        generalize hgs : GG (S.getD i (0, 0)) = gs at *
        generalize S.getD i (0, 0) = pp at *
        obtain ⟨p1, p2⟩ := pp
        simp only at hb hmu' hmG'
        refine alloc_rule (d := spotD 0 0) fun bq hbq => ?_
        refine store_box (d := spotD (p1 : Nat) (p2 : Nat)) 0 rfl hbq rfl (by kernel_rfl) (Reads.fact (d := spE (p1, p2)) qM) ?_
        refine index_arr hbq 0 rfl (by decide) ?_
        refine load_box_field_one 0 rfl (Part.left (Part.refl _)) ?_
        refine ar (n := ((p1 + 1 : Nat) : Int)) (by simp [arZ]) qI ?_
        have tz22 : TZero Tryz.prog 22 (vd []) := inferInstanceAs (TZero _ _ (.sl 2 0 fun i => J (([] : Row).getD i z0)))
        refine make_rule (t := 56) (d := vd []) (p1 + 1) rfl rfl (by omega) (by omega) fun gv0 hgv0 => ?_
        refine draw_rule [0, 1, 2, 3, 4, 5, 6, 7, 8, 9, 10, 11] [0, 1, 2, 3, 4, 5, 6, 7, 8, 9, 10, 11] (by kernel_rfl) (by kernel_rfl) ?_
        refine index_arr hbq 0 rfl (by decide) ?_
        refine load_box_field_one 1 rfl (Part.left (Part.refl _)) ?_
        refine load_box (d := J m) 4 rfl h1 rfl (load_J _) fun y4 => ?_
        refine index_arr hbq 1 rfl (by decide) ?_
        refine load_box_field_one 1 rfl (Part.right (Part.refl _)) ?_
        refine ar (n := ((n - p2 : Nat) : Int)) (by simp only [arZ, Option.some.injEq]; omega) qI ?_
        refine call_fn (hpw (n - p2) (by omega) y4) (Seals.refl _ _) qS ?_
        rintro y5 _ _ ⟨rfl, rfl⟩
        refine lit_L (size := 2) J z0 (cn (jv m ^ (n - p2))) (by decide) (Reads.fact (v := y5) (d := zd (jv m ^ (n - p2))) qM) rfl fun l2 => ?_
        refine index_elem 0 rfl hgv0 p1 rfl (Nat.lt_succ_self _) ?_
        refine store_elem (d := vd [jv m ^ (n - p2)]) 0 rfl p1 (Nat.lt_succ_self _) rfl (by kernel_rfl) (Reads.fact qM) ?_
        refine index_arr hbq 1 rfl (by decide) ?_
        refine load_box_field_one 1 rfl (Part.right (Part.refl _)) ?_
        refine loop_rule (X := Nat × Value) (fun x => ([(4, .int .i64 (n : Nat)), (6, b1), (12, bp), (14, ov), (17, xo), (20, x.2), (59, q), (60, .int .i64 (S.length : Nat)), (61, .int .i64 (i : Nat)), (81, .int .i64 (p2 : Nat)), (82, .int .i64 (x.1 : Nat))],
            [ownL 1 vd [] xo ((S.take i).map fun s => rowV S T Y (GG s)), own1 bp 5 1 (fun _ => planD S T Y M), own1 b1 2 1 (fun _ => J m)], [(x.2, wd (gpw (gless L) (gone (jv m ^ (n - p2)) p1) x.1)), (q, ShD S), (ov, W (glJ (L.map cn)))]))
          (fun x => x.1 ≤ p2) (fun x => p2 - x.1) rfl ?_ ?_
        · refine again (0, gv0) (Nat.zero_le _) trivial qF ?_
          have hgl : (gone (jv m ^ (n - p2)) p1).length = p1 + 1 := by simp [gone]
          refine Seals.trans (Seals.own_cong (os := [_, _, _, _, _]) 0 (n' := (gone (jv m ^ (n - p2)) p1).length) (fun y => vd ((gone (jv m ^ (n - p2)) p1).getD y [])) rfl hgl.symm fun y hy => ?_) ?_
          · unfold upd
            by_cases e : y = p1
            · subst e
              rw [if_pos rfl]
              simp [gone, List.getD_eq_getElem?_getD]
            · rw [if_neg e]
              have hlt : y < p1 := by omega
              have : (gone (jv m ^ (n - p2)) p1).getD y [] = [] := by
                unfold gone
                rw [List.getD_eq_getElem?_getD, List.getElem?_append_left (by simpa using hlt)]; simp [hlt]
              rw [this]
          · refine Seals.trans (Seals.L (f := vd) (z := []) (l := gone (jv m ^ (n - p2)) p1) 0 rfl hgv0) ?_
            refine Seals.trans (Seals.drop 0 _ _) ?_
            exact Seals.cons (Knw.cast (Knw.fact (List.Mem.head _)) (LD_wd _)) (Seals.sub qS)
        rintro ⟨j, gx⟩ hj
        simp only at hj ⊢
        refine cmp_split _ rfl (fun hlt2 => ?_) (fun hlt2 => ?_)
        · refine call_fn (hmu' j (by omega) gx ov) (Seals.refl _ _) qS ?_
          rintro y6 _ _ ⟨rfl, rfl⟩
          refine ar rfl qI ?_
          exact again (j + 1, y6) (by simp only; omega) (by simp only; omega) qF (Seals.sub qS)
        · have hjp : j = p2 := by omega
          subst hjp
          rw [hmG']
          refine load_box (d := planD S T Y M) 1 rfl hbp rfl (load_plan _ _ _ _) fun y7 => ?_
          refine call_fn (hrow' y7 gx) (Seals.refl _ _) qS ?_
          rintro y8 _ _ ⟨rfl, rfl⟩
          refine lit_L (size := 1) (e := 22) vd [] RR (by decide) (Reads.fact (v := y8) (d := vd RR) qM) rfl fun l3 => ?_
          refine append_L (size := 1) (e := 22) (f := vd) (z := []) (l := (S.take i).map fun s => rowV S T Y (GG s)) (m := [RR]) 0 rfl hxo (Knw.fact qM) (by rw [htl]; simp only [List.length_cons, List.length_nil]; omega) (by rw [htl]; simp only [List.length_cons, List.length_nil]; omega) fun xo2 hxo2 => ?_
          refine ar rfl qI ?_
          refine again (i + 1, xo2) ⟨by simp only; omega, hxo2⟩ (by simp only; omega) qF ?_
          simp only
          rw [htk]
          exact Seals.sub qS
      · have his : i = S.length := by omega
        subst his
        rw [List.take_length]
        refine fin ⟨rfl, xo, rfl, rfl⟩ (Seals.trans (Seals.L (f := vd) (z := []) 0 rfl hxo) (Seals.trans (Seals.drop 0 _ _) (Seals.trans (Seals.drop 0 _ _) ?_)))
        exact Seals.cons (Knw.cast (Knw.fact (List.Mem.head _)) (LD_wd _)) (Seals.nil _ _)
open Go.RowKit
def smallI (x : Int) : Int × Bool := if -9223372036854775808 ≤ x ∧ x < 9223372036854775808 then (x, true) else (0, false)
theorem wrapI64 (n : Int) : IntKind.i64.wrap n = (n + 9223372036854775808) % 18446744073709551616 - 9223372036854775808 := by
  simp [IntKind.wrap, IntKind.bits, IntKind.signed]
  split <;> omega
theorem lims_get0 {n : Nat} (h : n ≠ 0) : (lims n).getD 0 0 = n % 18446744073709551616 := by rw [lims_pos h]; rfl
theorem lims_big {n : Nat} (h : n ≠ 0) : (1 < (lims n).length) ↔ 18446744073709551616 ≤ n := by
  rw [lims_pos h, List.length_cons]
  constructor
  · intro h1
    refine Nat.not_lt.1 fun h2 => ?_
    rw [Nat.div_eq_of_lt h2, lims_zero] at h1
    simp at h1
  · intro h1
    have : n / 18446744073709551616 ≠ 0 := by omega
    rw [lims_pos this]; simp
theorem zSmall_meets (v : Value) (x : Bool × List Nat) (hx : Lim x.2) (lx : x.2.length ≤ 137438953472) :
    Meets Tryz.prog 65 [v] [(v, J x)] (fun r os fs => os = [] ∧ fs = [] ∧ r = .tuple #[.int .i64 (smallI (jv x)).1, .bool (smallI (jv x)).2]) := by
  have hnm := fun y => norm_meets y x.2 hx (by omega)
  have hjv : jv x = if x.1 then -(nv x.2 : Int) else (nv x.2 : Int) := rfl
  generalize hN : nv x.2 = N at *
  obtain ⟨b, hb⟩ : ∃ b, x.1 = b := ⟨_, rfl⟩
  rw [hb] at hjv
  refine meets_of_vc Tryz.func65 (by kernel_rfl) rfl (by kernel_rfl) (Nat.le_of_ble_eq_true rfl) ?_
  refine box_rule (Reads.fact (d := J x) qM) fun b1 h1 => ?_
  refine field_box 0 rfl h1 ?_
  refine load_box_field (d := U x.2) 0 rfl (Part.right (Part.refl _)) (load_L _) fun y1 => ?_
  refine call_fn (hnm y1) (Seals.refl _ _) qS ?_
  rintro y2 _ _ ⟨rfl, rfl⟩
  refine len_fact (v := y2) (n := (lims N).length) qM fun _ => ?_
  refine cmp_split _ rfl (fun h0 => ?_) (fun h0 => ?_)
  · have hN0 : N = 0 := lims_eq_nil.1 (List.length_eq_zero_iff.1 (by omega))
    have : jv x = 0 := by rw [hjv, hN0]; cases b <;> rfl
    rw [this]
    exact fin ⟨rfl, rfl, rfl⟩ (Seals.trans (Seals.drop 0 _ _) (Seals.nil _ _))
  have hN0 : N ≠ 0 := fun e => h0 (by rw [e, lims_zero]; rfl)
  have hbig := lims_big hN0
  have hg0 := lims_get0 hN0
  have hll : 0 < (lims N).length := by rw [lims_pos hN0]; simp
  refine index_fact (v := y2) qM 0 rfl hll fun a1 => ?_
  refine load_one (u := .int .u64 ((lims N).getD 0 0 : Nat)) qM ?_
  rw [hg0]
  obtain ⟨w1, hw1⟩ : ∃ w1, w1 = IntKind.i64.wrap ((N % 18446744073709551616 : Nat) : Int) := ⟨_, rfl⟩
  refine conv_int ⟨_, Tryz.underlying122⟩ Tryz.underlying2 w1 hw1.symm ?_
  rw [wrapI64] at hw1
  refine field_box 0 rfl h1 ?_
  refine load_box_field_one 0 rfl (Part.left (Part.refl _)) ?_
  rw [hb]
  have hfin : ∀ w2 : Int, (b = true → w2 = (-w1 + 9223372036854775808) % 18446744073709551616 - 9223372036854775808) → (b = false → w2 = w1) →
      ((smallI (jv x)).2 = false → (smallI (jv x)).1 = 0) ∧ ((smallI (jv x)).2 = true → (smallI (jv x)).1 = w2) ∧ ((smallI (jv x)).2 = false ↔ 1 < (lims N).length ∨ (decide (w2 < 0)) ≠ b) := fun w2 e1 e2 => by
    rw [hbig, hjv]
    unfold smallI
    cases b
    · have e2 := e2 rfl
      simp only [Bool.false_eq_true, if_false]
      split
      · rename_i h
        refine ⟨fun h => by simp at h, fun _ => by simp only; omega, ⟨fun h => by simp at h, fun h => ?_⟩⟩
        rcases h with h | h
        · omega
        · rw [Ne, decide_eq_false_iff_not] at h; omega
      · rename_i h
        refine ⟨fun _ => rfl, fun h => by simp at h, ⟨fun _ => ?_, fun _ => rfl⟩⟩
        by_cases g : 18446744073709551616 ≤ N
        · exact .inl g
        · refine .inr ?_
          rw [Ne, decide_eq_false_iff_not]; omega
    · have e1 := e1 rfl
      simp only [if_true]
      split
      · rename_i h
        refine ⟨fun h => by simp at h, fun _ => by simp only; omega, ⟨fun h => by simp at h, fun h => ?_⟩⟩
        rcases h with h | h
        · omega
        · rw [Ne, decide_eq_true_iff] at h; omega
      · rename_i h
        refine ⟨fun _ => rfl, fun h => by simp at h, ⟨fun _ => ?_, fun _ => rfl⟩⟩
        by_cases g : 18446744073709551616 ≤ N
        · exact .inl g
        · refine .inr ?_
          rw [Ne, decide_eq_true_iff]; omega
  cases b
  · obtain ⟨f1, f2, f3⟩ := hfin w1 (fun h => by simp at h) fun _ => rfl
    refine len_fact (v := y2) (n := (lims N).length) qM fun _ => ?_
    refine cmp_split _ rfl (fun hl => ?_) (fun hl => ?_)
    ·
      have hs : (smallI (jv x)).2 = false := f3.2 (.inl (by omega))
      rw [f1 hs, hs]
      exact fin ⟨rfl, rfl, rfl⟩ (Seals.trans (Seals.drop 0 _ _) (Seals.nil _ _))
    refine cmp_split _ rfl (fun hs1 => ?_) (fun hs1 => ?_)
    · refine field_box 0 rfl h1 ?_
      refine load_box_field_one 0 rfl (Part.left (Part.refl _)) ?_
      rw [hb]
      refine bne_split (fun hne => ?_) (fun hne => ?_)
      ·
        have hs : (smallI (jv x)).2 = false := f3.2 (.inr fun e => hne ((decide_eq_true hs1).symm.trans e))
        rw [f1 hs, hs]
        exact fin ⟨rfl, rfl, rfl⟩ (Seals.trans (Seals.drop 0 _ _) (Seals.nil _ _))
      ·
        have hs : (smallI (jv x)).2 = true := by
          cases e : (smallI (jv x)).2 with
          | true => rfl
          | false => exact absurd (f3.1 e) (fun h => h.elim (fun h => hl (by omega)) fun h => h ((decide_eq_true hs1).trans hne))
        rw [f2 hs, hs]
        exact fin ⟨rfl, rfl, rfl⟩ (Seals.trans (Seals.drop 0 _ _) (Seals.nil _ _))
    · refine field_box 0 rfl h1 ?_
      refine load_box_field_one 0 rfl (Part.left (Part.refl _)) ?_
      rw [hb]
      refine bne_split (fun hne => ?_) (fun hne => ?_)
      ·
        have hs : (smallI (jv x)).2 = false := f3.2 (.inr fun e => hne ((decide_eq_false hs1).symm.trans e))
        rw [f1 hs, hs]
        exact fin ⟨rfl, rfl, rfl⟩ (Seals.trans (Seals.drop 0 _ _) (Seals.nil _ _))
      ·
        have hs : (smallI (jv x)).2 = true := by
          cases e : (smallI (jv x)).2 with
          | true => rfl
          | false => exact absurd (f3.1 e) (fun h => h.elim (fun h => hl (by omega)) fun h => h ((decide_eq_false hs1).trans hne))
        rw [f2 hs, hs]
        exact fin ⟨rfl, rfl, rfl⟩ (Seals.trans (Seals.drop 0 _ _) (Seals.nil _ _))
  · refine un_neg (m := (-w1 + 9223372036854775808) % 18446744073709551616 - 9223372036854775808) (by rw [wrapI64, Int.zero_sub]) ?_
    obtain ⟨f1, f2, f3⟩ := hfin ((-w1 + 9223372036854775808) % 18446744073709551616 - 9223372036854775808) (fun _ => rfl) fun h => by simp at h
    generalize (-w1 + 9223372036854775808) % 18446744073709551616 - 9223372036854775808 = w2 at *
    refine len_fact (v := y2) (n := (lims N).length) qM fun _ => ?_
    refine cmp_split _ rfl (fun hl => ?_) (fun hl => ?_)
    ·
      have hs : (smallI (jv x)).2 = false := f3.2 (.inl (by omega))
      rw [f1 hs, hs]
      exact fin ⟨rfl, rfl, rfl⟩ (Seals.trans (Seals.drop 0 _ _) (Seals.nil _ _))
    refine cmp_split _ rfl (fun hs1 => ?_) (fun hs1 => ?_)
    · refine field_box 0 rfl h1 ?_
      refine load_box_field_one 0 rfl (Part.left (Part.refl _)) ?_
      rw [hb]
      refine bne_split (fun hne => ?_) (fun hne => ?_)
      ·
        have hs : (smallI (jv x)).2 = false := f3.2 (.inr fun e => hne ((decide_eq_true hs1).symm.trans e))
        rw [f1 hs, hs]
        exact fin ⟨rfl, rfl, rfl⟩ (Seals.trans (Seals.drop 0 _ _) (Seals.nil _ _))
      ·
        have hs : (smallI (jv x)).2 = true := by
          cases e : (smallI (jv x)).2 with
          | true => rfl
          | false => exact absurd (f3.1 e) (fun h => h.elim (fun h => hl (by omega)) fun h => h ((decide_eq_true hs1).trans hne))
        rw [f2 hs, hs]
        exact fin ⟨rfl, rfl, rfl⟩ (Seals.trans (Seals.drop 0 _ _) (Seals.nil _ _))
    · refine field_box 0 rfl h1 ?_
      refine load_box_field_one 0 rfl (Part.left (Part.refl _)) ?_
      rw [hb]
      refine bne_split (fun hne => ?_) (fun hne => ?_)
      ·
        have hs : (smallI (jv x)).2 = false := f3.2 (.inr fun e => hne ((decide_eq_false hs1).symm.trans e))
        rw [f1 hs, hs]
        exact fin ⟨rfl, rfl, rfl⟩ (Seals.trans (Seals.drop 0 _ _) (Seals.nil _ _))
      ·
        have hs : (smallI (jv x)).2 = true := by
          cases e : (smallI (jv x)).2 with
          | true => rfl
          | false => exact absurd (f3.1 e) (fun h => h.elim (fun h => hl (by omega)) fun h => h ((decide_eq_false hs1).trans hne))
        rw [f2 hs, hs]
        exact fin ⟨rfl, rfl, rfl⟩ (Seals.trans (Seals.drop 0 _ _) (Seals.nil _ _))
open Go.RowKit
theorem gFs_get {s : List (Nat × Nat)} {T Y : Int} {R : List Int} {u v : Nat} : ∀ k, (∃ j, j < k ∧ gFs s T Y R k u v = R.getD j 0 / sclV T Y (u, v) ∧ s.getD j (0, 0) = (u, v)) ∨ gFs s T Y R k u v = 0
  | 0 => .inr rfl
  | k + 1 => by
    rw [gFs]
    split
    · rename_i h
      exact .inl ⟨k, by omega, rfl, h⟩
    · rcases gFs_get (s := s) (T := T) (Y := Y) (R := R) (u := u) (v := v) k with ⟨j, h1, h2, h3⟩ | h
      · exact .inl ⟨j, by omega, h2, h3⟩
      · exact .inr h
theorem gridV_eq {s : List (Nat × Nat)} {T Y : Int} {R : List Int} {n : Nat} (hb : ∀ p, p ∈ s → p.1 < n ∧ p.2 < n) (hn : n ≤ 101) : gridV s T Y R = gof (gFs s T Y R s.length) n n :=
  (gridV_gn _ _ _ _).ext (gof_gn _ _ _) fun u v => by
    rw [gridV_gv fun p hp => by have := hb p hp; omega, gof_gv]
    split
    · rfl
    · rename_i h
      refine gFs_out _ fun j hj e => h ?_
      have := hb _ (getD_mem (0, 0) hj)
      rw [e] at this
      exact this
theorem gridV_lg {s : List (Nat × Nat)} {T Y : Int} {R : List Int} {n c : Nat} (hb : ∀ p, p ∈ s → p.1 < n ∧ p.2 < n) (hn : n ≤ 101) (hR : szR c R) : Lg (toW (gridV s T Y R)) (gridV s T Y R) c n := by
  rw [gridV_eq hb hn]
  refine Lg.gof (fun i j => ?_) (Nat.le_refl _) (Nat.le_refl _)
  rcases gFs_get (s := s) (T := T) (Y := Y) (R := R) (u := i) (v := j) s.length with ⟨j, _, h2, _⟩ | h
  · rw [h2]; exact sz_div (hR.get j)
  · rw [h]; exact sz_zero _
theorem asum_mem {R : List Int} {x : Int} (h : x ∈ R) : (x.natAbs : Int) ≤ asum R := by
  induction R with
  | nil => simp at h
  | cons y l ih =>
    have h1 := asum_nn l
    simp only [asum]
    rcases List.mem_cons.1 h with rfl | h
    · omega
    · have := ih h; omega
theorem short_szR {R : List Int} {M : Int} {c : Nat} (h : asum R < M) (hM : sz M c) : szR c R := fun x hx => by
  have := asum_mem hx
  unfold sz at *
  omega
def foundR (s : List (Nat × Nat)) (T Y M : Int) (R : List (List Int)) : List Int × Bool :=
  if asum (R.getD 0 []) < M ∧ asum (R.getD 1 []) < M then (gel (gridV s T Y (R.getD 0 [])) (gridV s T Y (R.getD 1 [])), decide (0 < dg (gel (gridV s T Y (R.getD 0 [])) (gridV s T Y (R.getD 1 []))))) else ([], false)
theorem slzfound_meets (v w : Value) (s : List (Nat × Nat)) (T Y M : Int) (R : List (List Int)) (a b c : Nat) (hb : ∀ p, p ∈ s → p.1 < 24 ∧ p.2 < 24) (ls : s.length ≤ 100) (h2 : 2 ≤ R.length) (lR : ∀ i, i < 2 → (R.getD i []).length = s.length ∧ szR a (R.getD i [])) (ha : a ≤ 100000000)
    (hz : ∀ p, p ∈ s → sz (sclV T Y p) b ∧ sclV T Y p ≠ 0) (hbb : b ≤ 100000000) (hM : sz M c) (hc : c ≤ 100000) :
    Meets Tryz.prog 66 [v, w] [(v, planD s T Y M), (w, wd R)] (fun r os fs => os = [] ∧ ∃ q, r = .tuple #[q, .bool (foundR s T Y M R).2] ∧ fs = [(q, vd (foundR s T Y M R).1)]) := by
  have hg0 := fun x1 x2 => slzgrid_meets x1 x2 s T Y M (R.getD 0 []) a b c (fun p hp => by have := hb p hp; omega) ls (lR 0 (by omega)).1 (lR 0 (by omega)).2 ha hz hbb hM (by omega)
  have hg1 := fun x1 x2 => slzgrid_meets x1 x2 s T Y M (R.getD 1 []) a b c (fun p hp => by have := hb p hp; omega) ls (lR 1 (by omega)).1 (lR 1 (by omega)).2 ha hz hbb hM (by omega)
  refine meets_of_vc Tryz.func66 (by kernel_rfl) rfl (by kernel_rfl) (Nat.le_of_ble_eq_true rfl) ?_
  refine box_rule (Reads.fact (d := planD s T Y M) qM) fun bp hbp => ?_
  refine draw_rule [0, 1, 2, 3, 4, 5, 6, 7, 8, 9] [0, 1, 2, 3, 4, 5, 6, 8, 7, 9] (by kernel_rfl) (by kernel_rfl) ?_
  refine load_box (d := planD s T Y M) 0 rfl hbp rfl (load_plan _ _ _ _) fun y1 => ?_
  refine index_wd qM 0 rfl (by omega) fun a1 => ?_
  refine load_fact (d := vd (R.getD 0 [])) qM (load_V _) fun y2 => ?_
  refine call_fn (hg0 y1 y2) (Seals.refl _ _) qS ?_
  rintro _ _ _ ⟨rfl, q1, rfl, rfl⟩
  refine draw_rule [0, 1, 2, 3, 4, 5, 6, 7, 8, 9] [0, 1, 2, 3, 4, 5, 6, 8, 7, 9] (by kernel_rfl) (by kernel_rfl) ?_
  refine load_box (d := planD s T Y M) 0 rfl hbp rfl (load_plan _ _ _ _) fun y1 => ?_
  refine index_wd qM 1 rfl (by omega) fun a1 => ?_
  refine load_fact (d := vd (R.getD 1 [])) qM (load_V _) fun y2 => ?_
  refine call_fn (hg1 y1 y2) (Seals.refl _ _) qS ?_
  rintro _ _ _ ⟨rfl, q2, rfl, rfl⟩
  by_cases k1 : asum (R.getD 0 []) < M
  case neg =>
    rw [decide_eq_false k1]
    rw [show foundR s T Y M R = ([], false) from if_neg fun h => k1 h.1]
    exact fin ⟨rfl, .slice none 0 0, rfl, rfl⟩ (Seals.trans (Seals.drop 0 _ _) (Seals.cons (Knw.nil 2 _) (Seals.nil _ _)))
  by_cases k2 : asum (R.getD 1 []) < M
  case neg =>
    rw [decide_eq_true k1, decide_eq_false k2]
    rw [show foundR s T Y M R = ([], false) from if_neg fun h => k2 h.2]
    exact fin ⟨rfl, .slice none 0 0, rfl, rfl⟩ (Seals.trans (Seals.drop 0 _ _) (Seals.cons (Knw.nil 2 _) (Seals.nil _ _)))
  rw [decide_eq_true k1, decide_eq_true k2]
  have l0 := gridV_lg (T := T) (Y := Y) (n := 24) hb (by decide) (short_szR k1 hM)
  have l1 := gridV_lg (T := T) (Y := Y) (n := 24) hb (by decide) (short_szR k2 hM)
  have hel := fun y1 y2 => xgElim y1 y2 l0 l1 (by omega) (by decide) (by decide) (by decide) (by unfold pdB pdk; omega)
  have hsz := (l0.el l1 (by decide)).sz
  have hdd := fun y1 => pDegreeN y1 ((gel (gridV s T Y (R.getD 0 [])) (gridV s T Y (R.getD 1 []))).map cn) (hsz.fit.mono (by unfold pdk; omega))
  rw [vv_cn] at hdd
  rw [show foundR s T Y M R = _ from if_pos ⟨k1, k2⟩]
  generalize gel (gridV s T Y (R.getD 0 [])) (gridV s T Y (R.getD 1 [])) = E at *
  refine call_fn (hel q1 q2) (Seals.refl _ _) qS ?_
  rintro e1 _ _ ⟨rfl, rfl⟩
  refine call_fn (hdd e1) (Seals.refl _ _) qS ?_
  rintro _ _ _ ⟨rfl, rfl, rfl⟩
  refine cmp_split _ rfl (fun hl => ?_) (fun hl => ?_)
  · rw [decide_eq_true (show 0 < dg E by omega)]
    exact fin ⟨rfl, e1, rfl, rfl⟩ (Seals.trans (Seals.drop 0 _ _) (Seals.sub qS))
  · rw [decide_eq_false (show ¬ 0 < dg E by omega)]
    exact fin ⟨rfl, e1, rfl, rfl⟩ (Seals.trans (Seals.drop 0 _ _) (Seals.sub qS))
def allL (P : List Int) (m t y : Int) (n : Nat) : List Int := (lst n fun i => (i : Int) - t).filter fun x => near (pev P x) m y
def allR (P : List Int) (m t y : Int) : List Int × Int := if m < 1 ∨ t < 0 ∨ y < 0 then ([], 1) else if 4096 < t then ([], 3) else (allL P m t y (2 * t.toNat + 1), 0)
theorem allL_succ (P : List Int) (m t y : Int) (n : Nat) : allL P m t y (n + 1) = if near (pev P ((n : Int) - t)) m y = true then allL P m t y n ++ [(n : Int) - t] else allL P m t y n := by
  unfold allL
  rw [lst_snoc, List.filter_append]
  split
  · rename_i h; simp [h]
  · rename_i h; simp [h]
theorem allL_len (P : List Int) (m t y : Int) (n : Nat) : (allL P m t y n).length ≤ n := Nat.le_trans (List.length_filter_le _ _) (by rw [lst_len]; omega)
theorem sgn_lt1 {x : Int} : x.sign < 1 ↔ x < 1 := by
  rcases Int.lt_trichotomy x 0 with g | g | g
  · rw [sgn_neg g]; omega
  · rw [g]; simp
  · rw [sgn_pos g]; omega
theorem slzAll_meets (v w u z : Value) (p : Row) (m t y : Bool × List Nat) (k a : Nat) (hp : Fit k p) (lp : p.length ≤ 1000) (hk : k ≤ 1000000) (hm : Lim m.2) (hma : m.2.length ≤ a) (ht : Lim t.2) (hta : t.2.length ≤ a) (hy : Lim y.2) (hya : y.2.length ≤ a) (ha : a ≤ 1000000) :
    Meets Tryz.prog 24 [v, w, u, z] [(v, V p), (w, J m), (u, J t), (z, J y)] (fun r os fs => os = [] ∧ ∃ q, r = .tuple #[q, .int .i64 (allR (vv p) (jv m) (jv t) (jv y)).2] ∧ fs = [(q, vd (allR (vv p) (jv m) (jv t) (jv y)).1)]) := by
  have hsm : ∀ z, Meets Tryz.prog 51 [z] [(z, J m)] (fun r os fs => os = [] ∧ fs = [] ∧ r = .int .i64 (jv m).sign) := fun z => zsign_meets z m.1 m.2 hm (by omega)
  have hst : ∀ z, Meets Tryz.prog 51 [z] [(z, J t)] (fun r os fs => os = [] ∧ fs = [] ∧ r = .int .i64 (jv t).sign) := fun z => zsign_meets z t.1 t.2 ht (by omega)
  have hsy : ∀ z, Meets Tryz.prog 51 [z] [(z, J y)] (fun r os fs => os = [] ∧ fs = [] ∧ r = .int .i64 (jv y).sign) := fun z => zsign_meets z y.1 y.2 hy (by omega)
  have hsl := fun z => zSmall_meets z t ht (by omega)
  refine meets_of_vc Tryz.func24 (by kernel_rfl) rfl (by kernel_rfl) (Nat.le_of_ble_eq_true rfl) ?_
  refine box_rule (Reads.fact (d := J m) qM) fun b1 h1 => ?_
  refine box_rule (Reads.fact (d := J t) qM) fun b2 h2 => ?_
  refine box_rule (Reads.fact (d := J y) qM) fun b3 h3 => ?_
  refine load_box (d := J m) 2 rfl h1 rfl (load_J _) fun y1 => ?_
  refine call_fn (hsm y1) (Seals.refl _ _) qS ?_
  rintro _ _ _ ⟨rfl, rfl, rfl⟩
  refine cmp_split _ rfl (fun g1 => ?_) (fun g1 => ?_)
  ·
    rw [show allR (vv p) (jv m) (jv t) (jv y) = ([], 1) from if_pos (.inl (sgn_lt1.1 g1))]
    exact fin ⟨rfl, .slice none 0 0, rfl, rfl⟩ (Seals.trans (Seals.drop 0 _ _) (Seals.trans (Seals.drop 0 _ _) (Seals.trans (Seals.drop 0 _ _) (Seals.cons (Knw.nil 2 _) (Seals.nil _ _)))))
  refine load_box (d := J t) 1 rfl h2 rfl (load_J _) fun y2 => ?_
  refine call_fn (hst y2) (Seals.refl _ _) qS ?_
  rintro _ _ _ ⟨rfl, rfl, rfl⟩
  refine cmp_split _ rfl (fun g2 => ?_) (fun g2 => ?_)
  ·
    rw [show allR (vv p) (jv m) (jv t) (jv y) = ([], 1) from if_pos (.inr (.inl (sgn_lt.1 g2)))]
    exact fin ⟨rfl, .slice none 0 0, rfl, rfl⟩ (Seals.trans (Seals.drop 0 _ _) (Seals.trans (Seals.drop 0 _ _) (Seals.trans (Seals.drop 0 _ _) (Seals.cons (Knw.nil 2 _) (Seals.nil _ _)))))
  refine load_box (d := J y) 0 rfl h3 rfl (load_J _) fun y3 => ?_
  refine call_fn (hsy y3) (Seals.refl _ _) qS ?_
  rintro _ _ _ ⟨rfl, rfl, rfl⟩
  refine cmp_split _ rfl (fun g3 => ?_) (fun g3 => ?_)
  ·
    rw [show allR (vv p) (jv m) (jv t) (jv y) = ([], 1) from if_pos (.inr (.inr (sgn_lt.1 g3)))]
    exact fin ⟨rfl, .slice none 0 0, rfl, rfl⟩ (Seals.trans (Seals.drop 0 _ _) (Seals.trans (Seals.drop 0 _ _) (Seals.trans (Seals.drop 0 _ _) (Seals.cons (Knw.nil 2 _) (Seals.nil _ _)))))
  have hok : ¬ (jv m < 1 ∨ jv t < 0 ∨ jv y < 0) := fun h => h.elim (fun h => g1 (sgn_lt1.2 h)) fun h => h.elim (fun h => g2 (sgn_lt.2 h)) fun h => g3 (sgn_lt.2 h)
  clear g1 g2 g3 hsm hst hsy
  refine load_box (d := J t) 1 rfl h2 rfl (load_J _) fun y4 => ?_
  refine call_fn (hsl y4) (Seals.refl _ _) qS ?_
  rintro _ _ _ ⟨rfl, rfl, rfl⟩
  by_cases hsmall : -9223372036854775808 ≤ jv t ∧ jv t < 9223372036854775808
  case neg =>
    rw [show smallI (jv t) = (0, false) from if_neg hsmall]
    rw [show allR (vv p) (jv m) (jv t) (jv y) = ([], 3) from by rw [allR, if_neg hok, if_pos (by omega)]]
    exact fin ⟨rfl, .slice none 0 0, rfl, rfl⟩ (Seals.trans (Seals.drop 0 _ _) (Seals.trans (Seals.drop 0 _ _) (Seals.trans (Seals.drop 0 _ _) (Seals.cons (Knw.nil 2 _) (Seals.nil _ _)))))
  rw [show smallI (jv t) = (jv t, true) from if_pos hsmall]
  refine cmp_split _ rfl (fun g1 => ?_) (fun g1 => ?_)
  ·
    rw [show allR (vv p) (jv m) (jv t) (jv y) = ([], 3) from by rw [allR, if_neg hok, if_pos g1]]
    exact fin ⟨rfl, .slice none 0 0, rfl, rfl⟩ (Seals.trans (Seals.drop 0 _ _) (Seals.trans (Seals.drop 0 _ _) (Seals.trans (Seals.drop 0 _ _) (Seals.cons (Knw.nil 2 _) (Seals.nil _ _)))))
  rw [show allR (vv p) (jv m) (jv t) (jv y) = (allL (vv p) (jv m) (jv t) (jv y) (2 * (jv t).toNat + 1), 0) by rw [allR, if_neg hok, if_neg g1]]
  obtain ⟨n, hn⟩ : ∃ n : Nat, jv t = n := ⟨(jv t).toNat, by omega⟩
  rw [hn] at hsmall g1 hok ⊢
  rw [Int.toNat_natCast]
  have zx : ∀ i : Nat, i < 2 * n + 1 → sz ((i : Int) - n) 1 := fun i hi => sz_num _ (by omega)
  have hv := fun (i : Nat) (hi : i < 2 * n + 1) z => pValueJ v z p (cn ((i : Int) - n)) k 1 hp (Lim_lims _) (zx i hi).len (by omega) (by omega)
  have zv : ∀ i : Nat, i < 2 * n + 1 → sz (pev (vv p) ((i : Int) - n)) 1073741824 := fun i hi => (ev_sz hp.szR (zx i hi)).mono (by rw [vv_len]; omega)
  have hwi := fun (i : Nat) (hi : i < 2 * n + 1) y1 y2 y3 => slzwithin_meets y1 y2 y3 _ m y _ (zv i hi) (by decide) hm (by omega) hy (by omega) (by omega)
  have hal := fun i => allL_len (vv p) (jv m) (n : Int) (jv y) i
  refine ar (n := ((2 * n : Nat) : Int)) (by simp only [arZ, Option.some.injEq]; omega) qI ?_
  refine ar (n := ((2 * n + 1 : Nat) : Int)) (by simp only [arZ, Option.some.injEq]; omega) qI ?_
  refine loop_rule (X := Nat × Value) (fun x => ([(0, v), (5, b1), (7, b3), (10, .int .i64 (n : Nat)), (12, x.2), (41, .int .i64 ((2 * n + 1 : Nat) : Int)), (42, .int .i64 (x.1 : Nat))],
      [ownL 2 J z0 x.2 ((allL (vv p) (jv m) (n : Int) (jv y) x.1).map cn), own1 b3 2 1 (fun _ => J y), own1 b1 2 1 (fun _ => J m)], [(v, V p)]))
    (fun x => x.1 ≤ 2 * n + 1 ∧ isSl x.2) (fun x => 2 * n + 1 - x.1) rfl ?_ ?_
  · refine again (0, .slice none 0 0) ⟨Nat.zero_le _, isSl_nil⟩ trivial qF ?_
    exact Seals.trans (Seals.drop 1 _ _) (Seals.trans (Seals.own_nil _ _ 2 fun i => J (([] : Row).getD i z0)) (Seals.sub qS))
  rintro ⟨i, ov⟩ ⟨hi, hov⟩
  simp only at hi hov ⊢
  have hli : ((allL (vv p) (jv m) (n : Int) (jv y) i).map cn).length ≤ i := by rw [List.length_map]; exact hal i
  refine cmp_split _ rfl (fun hlt => ?_) (fun hlt => ?_)
  · have hin : i < 2 * n + 1 := by omega
    have hsu := allL_succ (vv p) (jv m) (n : Int) (jv y) i
    have hv' := hv i hin
    have hw' := hwi i hin
    rw [jv_cn] at hv'
    refine ar rfl qI ?_
    refine call_fn (zof_meets ((i : Int) - n) (by omega) (by omega)) (Seals.refl _ _) qS ?_
    rintro y5 _ _ ⟨rfl, rfl⟩
    generalize pev (vv p) ((i : Int) - n) = Z at *
    generalize (i : Int) - n = X at *
    refine alloc_rule (d := I false []) fun bx hbx => ?_
    refine store_box (d := zd X) 0 rfl hbx rfl (by kernel_rfl) (Reads.fact (v := y5) qM) ?_
    refine draw_rule [0, 1, 3, 4, 2, 5] [0, 1, 2, 3, 4, 5] (by kernel_rfl) (by kernel_rfl) ?_
    refine load_box (d := zd X) 0 rfl hbx rfl (load_I _ _) fun y6 => ?_
    refine load_box (d := J m) 3 rfl h1 rfl (load_J _) fun y7 => ?_
    refine load_box (d := J y) 2 rfl h3 rfl (load_J _) fun y8 => ?_
    refine call_fn (hv' y6) (Seals.refl _ _) qS ?_
    rintro y9 _ _ ⟨rfl, rfl⟩
    refine call_fn (hw' y9 y7 y8) (Seals.refl _ _) qS ?_
    rintro _ _ _ ⟨rfl, rfl, rfl⟩
    cases hne : near Z (jv m) (jv y) with
    | true =>
      rw [if_pos hne] at hsu
      refine load_box (d := zd X) 0 rfl hbx rfl (load_I _ _) fun y10 => ?_
      refine lit_L (size := 2) J z0 (cn X) (by decide) (Reads.fact (v := y10) (d := zd X) qM) rfl fun l1 => ?_
      refine append_L 1 rfl hov (Knw.fact qM) (by simp only [List.length_cons, List.length_nil]; omega) (by simp only [List.length_cons, List.length_nil]; omega) fun o2 ho2 => ?_
      refine ar rfl qI ?_
      refine again (i + 1, o2) ⟨by simp only; omega, ho2⟩ (by simp only; omega) qF ?_
      simp only [hsu, List.map_append, List.map_cons, List.map_nil]
      exact Seals.trans (Seals.drop 0 _ _) (Seals.sub qS)
    | false =>
      rw [if_neg (by rw [hne]; simp)] at hsu
      refine ar rfl qI ?_
      refine again (i + 1, ov) ⟨by simp only; omega, hov⟩ (by simp only; omega) qF ?_
      simp only [hsu]
      exact Seals.trans (Seals.drop 0 _ _) (Seals.sub qS)
  · have hin : i = 2 * n + 1 := by omega
    subst hin
    refine fin ⟨rfl, ov, rfl, rfl⟩ (Seals.trans (Seals.toldL hov) (Seals.trans (Seals.drop 0 _ _) (Seals.trans (Seals.drop 0 _ _) (Seals.sub qS))))
open Go.RowKit
instance (l : List Int) : Decidable (Nm l) := inferInstanceAs (Decidable (_ = _))
open Go.RowKit
instance (G : List (List Int)) : Decidable (Gn G) := inferInstanceAs (Decidable (_ ∧ _))
open Go.RowKit
open Go.RowKit
open Go.RowKit
theorem empty_F {α : Type} {P : Program} {t e : TypeId} {size bytes : Nat} {os : List Own} {fs : List Fact} {K : Cont} [ht : TSl P t e size] [he : TEl P e size bytes] (f : α → Dat) (z : α) (hsz : size ≤ 16)
    (k : ∀ v, K v os ((v, LD size f z []) :: fs)) : BuildSliceK P t 0 [] os fs K := by
  have h1 := buildSlice_fact (P := P) (t := t) (os := os) (fs := fs) (K := fun u os' fs' => ∃ os'' fs'', Seals os' fs' os'' fs'' ∧ K u os'' fs'') (n := 0) [] [] rfl rfl (by decide) hsz trivial
  refine ⟨Grw.sealed (h1 fun v => ⟨_, _, ?_, k v⟩).out⟩
  exact Seals.knw_cong rfl fun i hi => by omega
theorem rDegrees12_meets (v : Value) (g : List Row) (hk : ∀ r, r ∈ g → Fit 137438953472 r) (lg : g.length ≤ 1048576) (hl : ∀ r, r ∈ g → r.length ≤ 1048576) :
    Meets Tryz.prog 143 [v] [(v, W g)] (fun r os fs => os = [] ∧ fs = [] ∧ r = .tuple #[.int .i64 ((gdx (ww g) : Nat) - 1 : Int), .int .i64 ((gdy (ww g) : Nat) - 1 : Int)]) := by
  have hdy : ∀ n, gdyN (ww g) n ≤ 1048576 := gdyN_le fun i => by
    rw [ww_get]
    refine Nat.le_trans (dg_le_len _) ?_
    rw [vv_len]
    by_cases hi : i < g.length
    · exact hl _ (getD_mem [] hi)
    · rw [getD_end (l := g) (by omega)]; exact Nat.zero_le _
  refine meets_of_vc Tryz.func143 (by kernel_rfl) rfl (by kernel_rfl) (Nat.le_of_ble_eq_true rfl) ?_
  refine loop_rule (X := Nat) (fun i => ([(0, v), (4, .int .i64 ((gdxN (ww g) i : Nat) - 1 : Int)), (5, .int .i64 ((gdyN (ww g) i : Nat) - 1 : Int)), (6, .int .i64 (i : Nat))], [], [(v, W g)])) (fun i => i ≤ g.length) (fun i => g.length - i) rfl ?_ ?_
  · exact again 0 (Nat.zero_le _) trivial qF (Seals.sub qS)
  · rintro i hi
    refine len_fact qM fun _ => ?_
    refine cmp_split _ rfl (fun hlt => ?_) (fun hlt => ?_)
    · have hin : i < g.length := by omega
      have hx := gdxN_le (ww g) i
      have hy := hdy i
      have hx1 : gdxN (ww g) (i + 1) = if dg ((ww g).getD i []) = 0 then gdxN (ww g) i else i + 1 := rfl
      have hy1 : gdyN (ww g) (i + 1) = max (gdyN (ww g) i) (dg ((ww g).getD i [])) := rfl
      have hrm := getD_mem (l := g) [] hin
      have c1 := fun u => rDegreeN u (g.getD i []) ((hk _ hrm).mono (by decide))
      rw [ww_get] at hx1 hy1
      have hd : dg (vv (g.getD i [])) ≤ 1048576 := Nat.le_trans (dg_le_len _) (by rw [vv_len]; exact hl _ hrm)
      generalize dg (vv (g.getD i [])) = d at *
      refine index_fact qM i rfl hin fun b1 => ?_
      refine load_fact (d := V (g.getD i [])) qM (show TOne Tryz.prog 22 from inferInstance) fun u => ?_
      refine call_fn (c1 u) (Seals.refl _ _) qS ?_
      rintro _ _ _ ⟨rfl, rfl, rfl⟩
      refine cmp_split _ rfl (fun h0 => ?_) (fun h0 => ?_)
      · refine max2_rule ?_
        refine ar rfl qI ?_
        refine again (i + 1) (by omega) (by simp only; omega) (by
          refine ⟨rfl, i64_eq ?_, i64_eq ?_, i64_eq (by omega), trivial⟩
          · rw [hx1, if_neg (by omega)]; omega
          · rw [hy1]; omega) (Seals.sub qS)
      · refine max2_rule ?_
        refine ar rfl qI ?_
        refine again (i + 1) (by omega) (by simp only; omega) (by
          refine ⟨rfl, i64_eq ?_, i64_eq ?_, i64_eq (by omega), trivial⟩
          · rw [hx1, if_pos (by omega)]
          · rw [hy1]; omega) (Seals.sub qS)
    · have hip : i = g.length := by omega
      subst hip
      refine fin ⟨rfl, rfl, ?_⟩ (Seals.nil _ _)
      unfold gdx gdy
      rw [ww_len]
      rfl
end Go.Proofs.YtjebljkoiaojaaaGreat
