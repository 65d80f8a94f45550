/- The law GridTells is true of each input, and changes none. No condition. -/
import Derived.Test.YtfkeohlpcjpkbaaGreatM4
import Derived.Test.YtfkeohlpcjpkbaaGreatRows
import Derived.OpenShut
import Derived.Below
import Derived.Lib.SmallJoins
set_option linter.unusedVariables false
set_option linter.unusedSimpArgs false

namespace Go.Proofs.YtfkeohlpcjpkbaaGreat
open Go.RowKit
structure Es where
  s : Nat
  odd : Bool
  last : List Int
  lv : Value
  x : Px
  vs : Nat → Value
theorem gEliminate_core (v w : Value) (g h : List Row) (k l n : Nat) (hg : Gf k g) (hh : Gf k h) (hk : k ≤ 137438953472) (hb : PB k l n (syX (gtu (ww g)) (gtu (ww h)) (dy (ww g)) (dy (ww h)))) (hn : dy (ww g) + dy (ww h) ≤ n) (h0 : 0 < n) :
    Meets Tryz.prog 31 [v, w] [(v, W g), (w, W h)] (fun r os fs => os = [] ∧ fs = [(r, vd (gel (ww g) (ww h)))]) := by
  have t1 := gTurn_meets v g ⟨hg.len, fun r hr => ⟨(hg.row r hr).1, (hg.row r hr).2.mono hk⟩⟩
  have t2 := gTurn_meets w h ⟨hh.len, fun r hr => ⟨(hh.row r hr).1, (hh.row r hr).2.mono hk⟩⟩
  have d1 : (gtu (ww g)).length ≤ 1048576 := by rw [gtu_len]; exact hg.dy
  have d2 : (gtu (ww h)).length ≤ 1048576 := by rw [gtu_len]; exact hh.dy
  have hgel : ∀ h1 : ¬ (gtu (ww g) = [] ∨ gtu (ww h) = []), gel (ww g) (ww h) = pdet (dy (ww g) + dy (ww h)) (syX (gtu (ww g)) (gtu (ww h)) (dy (ww g)) (dy (ww h))) := fun h1 => if_neg h1
  have hgn : gtu (ww g) = [] ∨ gtu (ww h) = [] → gel (ww g) (ww h) = [] := gel_none
  have hl1 := fun h1 : gtu (ww g) ≠ [] => dy_len h1
  have hl2 := fun h1 : gtu (ww h) ≠ [] => dy_len h1
  have hnm := syX_nm (ww g) (ww h) (dy (ww g)) (dy (ww h))
  change Meets _ _ _ _ (fun r os fs => os = [] ∧ fs = [(r, wd (gtu (ww g)))]) at t1
  change Meets _ _ _ _ (fun r os fs => os = [] ∧ fs = [(r, wd (gtu (ww h)))]) at t2
  generalize gel (ww g) (ww h) = E at *
  generalize dy (ww g) = m at *
  generalize dy (ww h) = m' at *
  generalize gtu (ww g) = A at *
  generalize gtu (ww h) = B at *
  have hbig := hb.big
  have hl30 := hb.l30
  have hE1 : 0 ≤ pdk k n := Nat.zero_le _
  refine meets_of_vc Tryz.func31 (by kernel_rfl) rfl (by kernel_rfl) (Nat.le_of_ble_eq_true rfl) ?_
  refine call_fn t1 (Seals.refl _ _) (by repeat (first | exact Sub.nil _ | refine Sub.cons (by repeat (first | exact List.Mem.head _ | apply List.Mem.tail)) ?_)) ?_
  rintro va _ _ ⟨rfl, rfl⟩
  refine call_fn t2 (Seals.refl _ _) (by repeat (first | exact Sub.nil _ | refine Sub.cons (by repeat (first | exact List.Mem.head _ | apply List.Mem.tail)) ?_)) ?_
  rintro vb _ _ ⟨rfl, rfl⟩
  refine len_wd (by repeat (first | exact List.Mem.head _ | apply List.Mem.tail)) ?_
  refine cmp_split _ rfl (fun hA => ?_) (fun hA => ?_)
  · rw [hgn (.inl (List.length_eq_zero_iff.1 (by omega)))]
    exact fin ⟨rfl, rfl⟩ (Seals.cons (Knw.nil 2 _) (Seals.nil _ _))
  refine len_wd (by repeat (first | exact List.Mem.head _ | apply List.Mem.tail)) ?_
  refine cmp_split _ rfl (fun hB => ?_) (fun hB => ?_)
  · rw [hgn (.inr (List.length_eq_zero_iff.1 (by omega)))]
    exact fin ⟨rfl, rfl⟩ (Seals.cons (Knw.nil 2 _) (Seals.nil _ _))
  have hA' : A ≠ [] := fun e => hA (by rw [e]; rfl)
  have hB' : B ≠ [] := fun e => hB (by rw [e]; rfl)
  have hE := hgel fun e => e.elim hA' hB'
  have la := hl1 hA'
  have lb := hl2 hB'
  refine call_fn (zof_meets 1 (by decide) (by decide)) (Seals.refl _ _) (by repeat (first | exact Sub.nil _ | refine Sub.cons (by repeat (first | exact List.Mem.head _ | apply List.Mem.tail)) ?_)) ?_
  rintro u0 _ _ ⟨rfl, rfl⟩
  refine lit_L (size := 2) (f := J) (z := z0) (e := 26) (cn 1) (by decide) (Reads.fact (by repeat (first | exact List.Mem.head _ | apply List.Mem.tail))) rfl fun l0 => ?_
  refine len_wd (by repeat (first | exact List.Mem.head _ | apply List.Mem.tail)) ?_
  refine ar (n := ((m : Nat) : Int)) (by simp only [arZ, Option.some.injEq]; omega) (by first | exact ⟨by omega, by omega⟩ | (simp only [inK]; omega)) ?_
  refine len_wd (by repeat (first | exact List.Mem.head _ | apply List.Mem.tail)) ?_
  refine ar (n := ((m' : Nat) : Int)) (by simp only [arZ, Option.some.injEq]; omega) (by first | exact ⟨by omega, by omega⟩ | (simp only [inK]; omega)) ?_
  refine call_fn (gsylvester_meets va vb A B m m' la lb (by omega) (by omega)) (Seals.refl _ _) (by repeat (first | exact Sub.nil _ | refine Sub.cons (by repeat (first | exact List.Mem.head _ | apply List.Mem.tail)) ?_)) ?_
  rintro v' _ _ ⟨hv', vs0, hvs0, rfl, rfl⟩
  refine len_own 1 rfl hv' fun _ => ?_
  generalize hN : m + m' = N at *
  generalize syX A B m m' = S at *
  have hminor := fun (q : Nat) (hq : q ≤ N) rl cl => hb.minor (m := q) (by omega) h0 rl cl
  refine loop_rule (X := Es) (fun x => ([(7, x.lv), (8, v'), (9, .bool x.odd), (39, .int .i64 (N : Nat)), (40, .int .i64 (x.s : Nat))], [famP x.vs N N x.x, outer v' N x.vs], [(x.lv, vd x.last)]))
    (fun x => (∀ i, i < N → isSl (x.vs i)) ∧ ∃ rl cl p, PInv S N x.x x.last x.odd x.s rl cl p) (fun x => N - x.s) rfl ?_ ?_
  · exact again ⟨0, false, [1], l0, S, vs0⟩ ⟨hvs0, [], [], fun i => i, PInv.start fun i k _ _ => hnm i k⟩ trivial (by repeat (first | exact trivial | refine ⟨rfl, ?_⟩ | refine ⟨i64_eq (by first | omega | (simp only; omega)), ?_⟩ | refine ⟨u64_eq (by first | omega | (simp only; omega)), ?_⟩)) (Seals.sub (by repeat (first | exact Sub.nil _ | refine Sub.cons (by repeat (first | exact List.Mem.head _ | apply List.Mem.tail)) ?_)))
  · rintro ⟨s, odd, last, lv, x, vs⟩ ⟨hvs, rl, cl, p, hP⟩
    simp only at hvs hP ⊢
    have hsle := hP.le
    have hlast : szR (pdk k n) last ∧ last.length ≤ n * l + 1 := by rw [hP.lst]; exact hminor s hsle rl cl
    refine cmp_split _ rfl (fun hs => ?_) (fun hs => ?_)
    rotate_left
    · have hsN : s = N := by omega
      subst hsN
      have hdone := hP.done
      rw [hE]
      cases odd with
      | true =>
        refine call_fn (zof_meets (-1) (by decide) (by decide)) (Seals.refl _ _) (by repeat (first | exact Sub.nil _ | refine Sub.cons (by repeat (first | exact List.Mem.head _ | apply List.Mem.tail)) ?_)) ?_
        rintro c1 _ _ ⟨rfl, rfl⟩
        refine call_fn (pTimesT lv c1 last (-1) (pdk k n) 1 hlast.1 (sz_one _ (by decide)) (by unfold pdB at hbig; omega) (by omega)) (Seals.refl _ _) (by repeat (first | exact Sub.nil _ | refine Sub.cons (by repeat (first | exact List.Mem.head _ | apply List.Mem.tail)) ?_)) ?_
        rintro r _ _ ⟨rfl, rfl⟩
        refine fin ⟨rfl, ?_⟩ (Seals.trans (Seals.drop 0 _ _) (Seals.trans (Seals.drop 0 _ _) (Seals.sub (fs' := [(r, vd (ptim (-1) last))]) (by repeat (first | exact Sub.nil _ | refine Sub.cons (by repeat (first | exact List.Mem.head _ | apply List.Mem.tail)) ?_)))))
        rw [show ptim (-1) last = pdet s S from (ptim_nm _ _).ext (pdet_nm _ _) fun t => by rw [ev_ptim, hdone t, if_pos rfl]; omega]
        rfl
      | false =>
        refine call_fn (pNormT lv last (hlast.1.mono (by unfold pdB at hbig; omega)) (by omega)) (Seals.refl _ _) (by repeat (first | exact Sub.nil _ | refine Sub.cons (by repeat (first | exact List.Mem.head _ | apply List.Mem.tail)) ?_)) ?_
        rintro r _ _ ⟨rfl, rfl⟩
        refine fin ⟨rfl, ?_⟩ (Seals.trans (Seals.drop 0 _ _) (Seals.trans (Seals.drop 0 _ _) (Seals.sub (fs' := [(r, vd (nrm last))]) (by repeat (first | exact Sub.nil _ | refine Sub.cons (by repeat (first | exact List.Mem.head _ | apply List.Mem.tail)) ?_)))))
        rw [show nrm last = pdet s S from (Nm.nrm _).ext (pdet_nm _ _) fun t => by rw [ev_nrm, hdone t]; rfl]
        rfl
    have hsN : s < N := by omega
    refine loop_rule (X := Nat) (fun q => ([(7, lv), (8, v'), (9, .bool odd), (10, .int .i64 (s : Nat)), (11, .int .i64 (q : Nat)), (39, .int .i64 (N : Nat)), (40, .int .i64 (s : Nat))], [famP vs N N x, outer v' N vs], [(lv, vd last)]))
      (fun q => s ≤ q ∧ q ≤ N ∧ ∀ i, s ≤ i → i < q → x i s = []) (fun q => N - q) rfl ?_ ?_
    · exact again s ⟨Nat.le_refl _, hsle, fun i h1 h2 => by omega⟩ trivial (by repeat (first | exact trivial | refine ⟨rfl, ?_⟩ | refine ⟨i64_eq (by first | omega | (simp only; omega)), ?_⟩ | refine ⟨u64_eq (by first | omega | (simp only; omega)), ?_⟩)) (Seals.sub (by repeat (first | exact Sub.nil _ | refine Sub.cons (by repeat (first | exact List.Mem.head _ | apply List.Mem.tail)) ?_)))
    · rintro q ⟨hq1, hq2, hqz⟩
      refine len_own 1 rfl hv' fun _ => ?_
      refine cmp_split _ rfl (fun hq => ?_) (fun hq => ?_)
      rotate_left
      · have hqN : q = N := by omega
        subst hqN
        refine len_own 1 rfl hv' fun _ => ?_
        refine cmp_true rfl rfl ?_
        rw [hE, hP.none hsN hqz]
        exact fin ⟨rfl, rfl⟩ (Seals.trans (Seals.drop 0 _ _) (Seals.trans (Seals.drop 0 _ _) (Seals.cons (Knw.nil 2 _) (Seals.nil _ _))))
      have hqN : q < N := by omega
      refine index_elem 1 rfl hv' q rfl (by omega) ?_
      refine load_one_elem 1 rfl q (by omega) (u := vs q) rfl ?_
      refine index_famP 0 q rfl (by omega) (hvs q (by omega)) s rfl (by omega) ?_
      refine load_famP 0 q s rfl (by omega) (by omega) (x q s) rfl fun u1 => ?_
      refine len_vd (by repeat (first | exact List.Mem.head _ | apply List.Mem.tail)) ?_
      refine cmp_split _ rfl (fun hz => ?_) (fun hz => ?_)
      · refine ar rfl (by first | exact ⟨by omega, by omega⟩ | (simp only [inK]; omega)) ?_
        refine again (q + 1) ⟨by omega, by omega, fun i h1 h2 => ?_⟩ (by simp only; omega) (by repeat (first | exact trivial | refine ⟨rfl, ?_⟩ | refine ⟨i64_eq (by first | omega | (simp only; omega)), ?_⟩ | refine ⟨u64_eq (by first | omega | (simp only; omega)), ?_⟩)) (Seals.sub (by repeat (first | exact Sub.nil _ | refine Sub.cons (by repeat (first | exact List.Mem.head _ | apply List.Mem.tail)) ?_)))
        by_cases e : i = q
        · rw [e]; exact List.length_eq_zero_iff.1 (by omega)
        · exact hqz i h1 (by omega)
      have hz0 : x q s ≠ [] := fun e => hz (by rw [e]; rfl)
      refine len_own 1 rfl hv' fun _ => ?_
      refine cmp_false rfl (by omega) ?_
      have hnext0 := hP.step hq1 hqN hz0 (z := nextX S x s q rl cl p) fun i k' h1 h2 h3 h4 => by unfold nextX; rw [if_neg (by omega)]
      have hquo0 : ∀ i k', s + 1 ≤ i → i < N → s + 1 ≤ k' → k' < N → ∀ {t : List Int} {e : Int}, DivSpec (psub (pmul (x (xc s q s) s) (x (xc s q i) k')) (pmul (x (xc s q i) s) (x (xc s q s) k'))) last t e → t = nextX S x s q rl cl p i k' := fun i k' h1 h2 h3 h4 t e hd => by
        unfold nextX; rw [if_neg (by omega)]
        rw [xc_at] at hd
        exact hP.quo hq1 hqN (xc_ge hq1 (by omega)) (xc_lt hsN hqN h2) hsN (by omega) h4 hd
      have hzy0 : ∀ a b, a ≤ s ∨ b ≤ s → nextX S x s q rl cl p a b = x (xc s q a) b := fun a b e => by unfold nextX; rw [if_pos e]
      have hys0 : ∀ i j, i < N → j < N → s ≤ i → s ≤ j → szR (pdk k n) (x (xc s q i) j) ∧ (x (xc s q i) j).length ≤ n * l + 1 := fun i j hi hj h1 h2 => by
        rw [hP.val _ j (xc_ge hq1 h1) (xc_lt hsN hqN hi) h2 hj]; exact hminor (s + 1) (by omega) _ _
      have hdiv : ∀ m, m ≤ 2 * (n * l + 1) → (pdk k n + pdk k n + 1 + 1) + (m + 1) * (pdk k n + 1) ≤ 137438953472 := fun m hm => by
        have : (m + 1) * (pdk k n + 1) ≤ (2 * (n * l + 1) + 2) * (pdk k n + 1) := Nat.mul_le_mul_right _ (by omega)
        unfold pdB at hbig
        omega
      have hbig2 : 2 * pdk k n + 2 ≤ 137438953472 := by unfold pdB at hbig; omega
      have hyx : ∀ i j, (fun a b => x (xc s q a) b : Px) i j = x (xc s q i) j := fun _ _ => rfl
      have hnext : ∀ od, (if q = s then odd else !odd) = od → (∀ i, i < N → isSl (vs (xc s q i))) ∧ ∃ rl' cl' p', PInv S N (nextX S x s q rl cl p) (x (xc s q s) s) od (s + 1) rl' cl' p' := fun od e => by
        rw [xc_at, ← e]
        exact ⟨fun i hi => hvs _ (xc_lt hsN hqN hi), _, _, _, hnext0⟩
      obtain ⟨y, hy⟩ : ∃ y : Px, ∀ a b, y a b = x (xc s q a) b := ⟨_, fun _ _ => rfl⟩
      obtain ⟨vs', hv's⟩ : ∃ vs' : Nat → Value, ∀ i, vs' i = vs (xc s q i) := ⟨_, fun _ => rfl⟩
      have hvs' : ∀ i, i < N → isSl (vs' i) := fun i hi => by rw [hv's]; exact hvs _ (xc_lt hsN hqN hi)
      simp only [← hy] at hquo0 hzy0 hys0 hnext
      generalize hz' : nextX S x s q rl cl p = z at *
      have hnext : ∀ od, (if q = s then odd else !odd) = od → (∀ i, i < N → isSl (vs' i)) ∧ ∃ rl' cl' p', PInv S N z (y s s) od (s + 1) rl' cl' p' := fun od e => ⟨hvs', (hnext od e).2⟩
      have hzy := hzy0
      have hys := hys0
      have hquo := hquo0
      have hpx : ∀ i, i < N → xc s q i < N ∧ vs' i = vs (xc s q i) ∧ ∀ j, j < N → pmix z y (s + 1) 0 i j = x (xc s q i) j := fun i hi => ⟨xc_lt hsN hqN hi, hv's i, fun j _ => by
        unfold pmix
        split
        · rw [hzy i j (by omega), hy]
        · rw [hy]⟩
      clear hnext0 hqz hz0 hz hminor hzy0 hys0 hquo0 hz'
      refine cmp_split _ rfl (fun hne => ?_) (fun hne => ?_)
      · have hqs : q ≠ s := by omega
        have hnext := hnext (!odd) (if_neg hqs)
        refine draw_rule [0, 1, 2, 3, 4, 5, 6, 7, 8, 9, 10, 11, 12, 13, 14, 15] [0, 1, 4, 5, 6, 7, 8, 9, 10, 11, 12, 13, 2, 3, 14, 15] (by kernel_rfl) (by kernel_rfl) ?_
        refine index_elem 1 rfl hv' s rfl (by omega) ?_
        refine load_one_elem 1 rfl s (by omega) (u := vs s) rfl ?_
        refine index_elem 1 rfl hv' q rfl (by omega) ?_
        refine load_one_elem 1 rfl q (by omega) (u := vs q) rfl ?_
        refine index_elem 1 rfl hv' q rfl (by omega) ?_
        refine store_elem (d := .one (vs s)) 1 rfl q (by omega) rfl (by kernel_rfl) (Reads.one (hvs s (by omega)).one) ?_
        refine index_elem 1 rfl hv' s rfl (by omega) ?_
        refine store_elem (d := .one (vs q)) 1 rfl s (by omega) rfl (by kernel_rfl) (Reads.one (hvs q (by omega)).one) ?_
        refine ar rfl (by first | exact ⟨by omega, by omega⟩ | (simp only [inK]; omega)) ?_
        refine loop_rule (X := Nat) (fun i => ([(7, lv), (8, v'), (9, .bool (!odd)), (10, .int .i64 (s : Nat)), (12, .int .i64 (i : Nat)), (39, .int .i64 (N : Nat)), (40, .int .i64 (s : Nat))], [famP vs' N N (pmix z y i 0), outer v' N vs'], [(lv, vd last)]))
          (fun i => s + 1 ≤ i ∧ i ≤ N) (fun i => N - i) rfl ?_ ?_
        · exact again (s + 1) ⟨Nat.le_refl _, by omega⟩ trivial (by repeat (first | exact trivial | refine ⟨rfl, ?_⟩ | refine ⟨i64_eq (by first | omega | (simp only; omega)), ?_⟩ | refine ⟨u64_eq (by first | omega | (simp only; omega)), ?_⟩)) (Seals.trans (Seals.own_cong (os := [_, _]) 1 (fun i => .one (vs' i)) rfl rfl fun i _ => by rw [pouter_ex hqs, hv's]) (Seals.trans (Seals.pxcong (os := [_, _]) 0 rfl (xc s q) hpx fun _ _ _ _ e => xc_inj e) (Seals.sub (by repeat (first | exact Sub.nil _ | refine Sub.cons (by repeat (first | exact List.Mem.head _ | apply List.Mem.tail)) ?_)))))
        · rintro i ⟨hi1, hi2⟩
          refine len_own 1 rfl hv' fun _ => ?_
          refine cmp_split _ rfl (fun hi => ?_) (fun hi => ?_)
          · have hiR : i < N := by omega
            refine ar rfl (by first | exact ⟨by omega, by omega⟩ | (simp only [inK]; omega)) ?_
            refine loop_rule (X := Nat) (fun k' => ([(7, lv), (8, v'), (9, .bool (!odd)), (10, .int .i64 (s : Nat)), (12, .int .i64 (i : Nat)), (13, .int .i64 (k' : Nat)), (39, .int .i64 (N : Nat)), (40, .int .i64 (s : Nat))], [famP vs' N N (pmix z y i k'), outer v' N vs'], [(lv, vd last)]))
              (fun k' => s + 1 ≤ k' ∧ k' ≤ N) (fun k' => N - k') rfl ?_ ?_
            · refine again (s + 1) ⟨Nat.le_refl _, by omega⟩ trivial (by repeat (first | exact trivial | refine ⟨rfl, ?_⟩ | refine ⟨i64_eq (by first | omega | (simp only; omega)), ?_⟩ | refine ⟨u64_eq (by first | omega | (simp only; omega)), ?_⟩)) (Seals.trans (Seals.pxcong (os := [_, _]) (x' := pmix z y i (s + 1)) 0 rfl (fun i => i) (fun a ha => ⟨ha, rfl, fun b hb => ?_⟩) fun _ _ _ _ e => e) (Seals.sub (by repeat (first | exact Sub.nil _ | refine Sub.cons (by repeat (first | exact List.Mem.head _ | apply List.Mem.tail)) ?_))))
              unfold pmix
              by_cases e : a < i ∨ (a = i ∧ b < 0)
              · rw [if_pos e, if_pos (by omega)]
              · rw [if_neg e]
                split
                · exact hzy _ _ (by omega)
                · rfl
            · rintro k' ⟨hk1, hk2⟩
              refine len_own 1 rfl hv' fun _ => ?_
              refine cmp_split _ rfl (fun hc2 => ?_) (fun hc2 => ?_)
              · have hkC : k' < N := by omega
                have y1 := hys s s hsN hsN (Nat.le_refl _) (Nat.le_refl _)
                have y2 := hys i k' hiR hkC (by omega) (by omega)
                have y3 := hys i s hiR hsN (by omega) (Nat.le_refl _)
                have y4 := hys s k' hsN hkC (Nat.le_refl _) (by omega)
                have m1 := y1.1.pmul y2.1 (by omega)
                have m2 := y3.1.pmul y4.1 (by omega)
                have l1 := pmul_len (y s s) (y i k')
                have l2 := pmul_len (y i s) (y s k')
                have l3 := psub_len (pmul (y s s) (y i k')) (pmul (y i s) (y s k'))
                refine draw_rule [0, 1, 2, 3, 4, 5, 6, 7, 8, 9, 10, 11, 12, 13, 15, 16, 17, 18, 19, 20, 21, 22, 23, 24, 25, 26, 27, 28, 14, 29, 30, 31] [0, 1, 2, 3, 4, 5, 6, 7, 8, 9, 10, 11, 12, 13, 14, 15, 16, 17, 18, 19, 20, 21, 22, 23, 24, 25, 26, 27, 28, 29, 30, 31] (by kernel_rfl) (by kernel_rfl) ?_
                refine index_elem 1 rfl hv' s rfl (by omega) ?_
                refine load_one_elem 1 rfl s (by omega) (u := vs' s) rfl ?_
                refine index_famP 0 s rfl (by omega) (hvs' s (by omega)) s rfl (by omega) ?_
                refine load_famP 0 s s rfl (by omega) (by omega) (y s s) ?_ fun u1 => ?_
                · unfold pmix; rw [if_pos (by omega), hzy _ _ (by omega)]
                refine index_elem 1 rfl hv' i rfl (by omega) ?_
                refine load_one_elem 1 rfl i (by omega) (u := vs' i) rfl ?_
                refine index_famP 0 i rfl (by omega) (hvs' i (by omega)) k' rfl (by omega) ?_
                refine load_famP 0 i k' rfl (by omega) (by omega) (y i k') ?_ fun u2 => ?_
                · unfold pmix; rw [if_neg (by omega)]
                refine index_elem 1 rfl hv' i rfl (by omega) ?_
                refine load_one_elem 1 rfl i (by omega) (u := vs' i) rfl ?_
                refine index_famP 0 i rfl (by omega) (hvs' i (by omega)) s rfl (by omega) ?_
                refine load_famP 0 i s rfl (by omega) (by omega) (y i s) ?_ fun u3 => ?_
                · unfold pmix; rw [if_pos (by omega), hzy _ _ (by omega)]
                refine index_elem 1 rfl hv' s rfl (by omega) ?_
                refine load_one_elem 1 rfl s (by omega) (u := vs' s) rfl ?_
                refine index_famP 0 s rfl (by omega) (hvs' s (by omega)) k' rfl (by omega) ?_
                refine load_famP 0 s k' rfl (by omega) (by omega) (y s k') ?_ fun u4 => ?_
                · unfold pmix; rw [if_pos (by omega), hzy _ _ (by omega)]
                refine call_fn (pMulT u1 u2 _ _ _ _ y1.1 y2.1 (by omega) (by omega) (by omega)) (Seals.refl _ _) (by repeat (first | exact Sub.nil _ | refine Sub.cons (by repeat (first | exact List.Mem.head _ | apply List.Mem.tail)) ?_)) ?_
                rintro w1 _ _ ⟨rfl, rfl⟩
                refine call_fn (pMulT u3 u4 _ _ _ _ y3.1 y4.1 (by omega) (by omega) (by omega)) (Seals.refl _ _) (by repeat (first | exact Sub.nil _ | refine Sub.cons (by repeat (first | exact List.Mem.head _ | apply List.Mem.tail)) ?_)) ?_
                rintro w2 _ _ ⟨rfl, rfl⟩
                refine call_fn (pSubT w1 w2 _ _ _ m1 m2 (by omega) (by omega) (by omega)) (Seals.refl _ _) (by repeat (first | exact Sub.nil _ | refine Sub.cons (by repeat (first | exact List.Mem.head _ | apply List.Mem.tail)) ?_)) ?_
                rintro w3 _ _ ⟨rfl, rfl⟩
                refine draw_rule [0, 1, 2, 3, 4, 5, 6, 7, 8, 9, 10, 11, 12] [0, 1, 2, 3, 4, 5, 6, 7, 8, 9, 11, 12, 10] (by kernel_rfl) (by kernel_rfl) ?_
                refine index_elem 1 rfl hv' i rfl (by omega) ?_
                refine load_one_elem 1 rfl i (by omega) (u := vs' i) rfl ?_
                refine call_fn (pDivideT w3 lv _ _ _ _ (m1.psub m2) hlast.1 (hdiv _ (by omega)) (by omega) (by omega)) (Seals.refl _ _) (by repeat (first | exact Sub.nil _ | refine Sub.cons (by repeat (first | exact List.Mem.head _ | apply List.Mem.tail)) ?_)) ?_
                rintro _ _ _ ⟨rfl, w4, t, e, rfl, hds, _, rfl⟩
                obtain rfl := hquo i k' hi1 hiR hk1 hkC hds
                refine index_famP 0 i rfl (by omega) (hvs' i (by omega)) k' rfl (by omega) ?_
                refine store_px 0 i k' rfl (by omega) (by omega) _ (pmix z y i (k' + 1)) (Reads.fact (by repeat (first | exact List.Mem.head _ | apply List.Mem.tail))) (fun a b ha hb => ?_) ?_
                · unfold pmix
                  by_cases e : a = i ∧ b = k'
                  · rw [if_pos e, e.1, e.2, if_pos (by omega)]
                  · rw [if_neg e]
                    by_cases e1 : a < i ∨ a = i ∧ b < k'
                    · rw [if_pos e1, if_pos (by omega)]
                    · rw [if_neg e1, if_neg (by omega)]
                refine ar rfl (by first | exact ⟨by omega, by omega⟩ | (simp only [inK]; omega)) ?_
                exact again (k' + 1) ⟨by omega, by omega⟩ (by simp only; omega) (by repeat (first | exact trivial | refine ⟨rfl, ?_⟩ | refine ⟨i64_eq (by first | omega | (simp only; omega)), ?_⟩ | refine ⟨u64_eq (by first | omega | (simp only; omega)), ?_⟩)) (Seals.sub (by repeat (first | exact Sub.nil _ | refine Sub.cons (by repeat (first | exact List.Mem.head _ | apply List.Mem.tail)) ?_)))
              · have hkC : k' = N := by omega
                subst hkC
                refine ar rfl (by first | exact ⟨by omega, by omega⟩ | (simp only [inK]; omega)) ?_
                refine again (i + 1) ⟨by omega, by omega⟩ (by simp only; omega) (by repeat (first | exact trivial | refine ⟨rfl, ?_⟩ | refine ⟨i64_eq (by first | omega | (simp only; omega)), ?_⟩ | refine ⟨u64_eq (by first | omega | (simp only; omega)), ?_⟩)) (Seals.trans (Seals.pxcong (os := [_, _]) (x' := pmix z y (i + 1) 0) 0 rfl (fun i => i) (fun a ha => ⟨ha, rfl, fun b hb => ?_⟩) fun _ _ _ _ e => e) (Seals.sub (by repeat (first | exact Sub.nil _ | refine Sub.cons (by repeat (first | exact List.Mem.head _ | apply List.Mem.tail)) ?_))))
                unfold pmix
                by_cases e : a < i ∨ a = i ∧ b < k'
                · rw [if_pos e, if_pos (by omega)]
                · rw [if_neg e, if_neg (by omega)]
          · have hiR : i = N := by omega
            subst hiR
            refine index_elem 1 rfl hv' s rfl (by omega) ?_
            refine load_one_elem 1 rfl s (by omega) (u := vs' s) rfl ?_
            refine index_famP 0 s rfl (by omega) (hvs' s (by omega)) s rfl (by omega) ?_
            refine load_famP 0 s s rfl (by omega) (by omega) (y s s) ?_ fun u1 => ?_
            · unfold pmix; rw [if_pos (by omega), hzy _ _ (by omega)]
            refine ar rfl (by first | exact ⟨by omega, by omega⟩ | (simp only [inK]; omega)) ?_
            refine again ⟨s + 1, (!odd), y s s, u1, z, vs'⟩ hnext (by simp only; omega) (by repeat (first | exact trivial | refine ⟨rfl, ?_⟩ | refine ⟨i64_eq (by first | omega | (simp only; omega)), ?_⟩ | refine ⟨u64_eq (by first | omega | (simp only; omega)), ?_⟩)) (Seals.trans (Seals.pxcong (os := [_, _]) (x' := z) 0 rfl (fun i => i) (fun a ha => ⟨ha, rfl, fun b hb => ?_⟩) fun _ _ _ _ e => e) (Seals.sub (by repeat (first | exact Sub.nil _ | refine Sub.cons (by repeat (first | exact List.Mem.head _ | apply List.Mem.tail)) ?_))))
            unfold pmix; rw [if_pos (by omega)]
      · have hqs : q = s := by omega
        have hnext := hnext odd (if_pos hqs)
        refine ar rfl (by first | exact ⟨by omega, by omega⟩ | (simp only [inK]; omega)) ?_
        refine loop_rule (X := Nat) (fun i => ([(7, lv), (8, v'), (9, .bool (odd)), (10, .int .i64 (s : Nat)), (12, .int .i64 (i : Nat)), (39, .int .i64 (N : Nat)), (40, .int .i64 (s : Nat))], [famP vs' N N (pmix z y i 0), outer v' N vs'], [(lv, vd last)]))
          (fun i => s + 1 ≤ i ∧ i ≤ N) (fun i => N - i) rfl ?_ ?_
        · exact again (s + 1) ⟨Nat.le_refl _, by omega⟩ trivial (by repeat (first | exact trivial | refine ⟨rfl, ?_⟩ | refine ⟨i64_eq (by first | omega | (simp only; omega)), ?_⟩ | refine ⟨u64_eq (by first | omega | (simp only; omega)), ?_⟩)) (Seals.trans (Seals.own_cong (os := [_, _]) 1 (fun i => .one (vs' i)) rfl rfl fun i _ => by rw [hv's, hqs, xc_same]) (Seals.trans (Seals.pxcong (os := [_, _]) 0 rfl (xc s q) hpx fun _ _ _ _ e => xc_inj e) (Seals.sub (by repeat (first | exact Sub.nil _ | refine Sub.cons (by repeat (first | exact List.Mem.head _ | apply List.Mem.tail)) ?_)))))
        · rintro i ⟨hi1, hi2⟩
          refine len_own 1 rfl hv' fun _ => ?_
          refine cmp_split _ rfl (fun hi => ?_) (fun hi => ?_)
          · have hiR : i < N := by omega
            refine ar rfl (by first | exact ⟨by omega, by omega⟩ | (simp only [inK]; omega)) ?_
            refine loop_rule (X := Nat) (fun k' => ([(7, lv), (8, v'), (9, .bool (odd)), (10, .int .i64 (s : Nat)), (12, .int .i64 (i : Nat)), (13, .int .i64 (k' : Nat)), (39, .int .i64 (N : Nat)), (40, .int .i64 (s : Nat))], [famP vs' N N (pmix z y i k'), outer v' N vs'], [(lv, vd last)]))
              (fun k' => s + 1 ≤ k' ∧ k' ≤ N) (fun k' => N - k') rfl ?_ ?_
            · refine again (s + 1) ⟨Nat.le_refl _, by omega⟩ trivial (by repeat (first | exact trivial | refine ⟨rfl, ?_⟩ | refine ⟨i64_eq (by first | omega | (simp only; omega)), ?_⟩ | refine ⟨u64_eq (by first | omega | (simp only; omega)), ?_⟩)) (Seals.trans (Seals.pxcong (os := [_, _]) (x' := pmix z y i (s + 1)) 0 rfl (fun i => i) (fun a ha => ⟨ha, rfl, fun b hb => ?_⟩) fun _ _ _ _ e => e) (Seals.sub (by repeat (first | exact Sub.nil _ | refine Sub.cons (by repeat (first | exact List.Mem.head _ | apply List.Mem.tail)) ?_))))
              unfold pmix
              by_cases e : a < i ∨ (a = i ∧ b < 0)
              · rw [if_pos e, if_pos (by omega)]
              · rw [if_neg e]
                split
                · exact hzy _ _ (by omega)
                · rfl
            · rintro k' ⟨hk1, hk2⟩
              refine len_own 1 rfl hv' fun _ => ?_
              refine cmp_split _ rfl (fun hc2 => ?_) (fun hc2 => ?_)
              · have hkC : k' < N := by omega
                have y1 := hys s s hsN hsN (Nat.le_refl _) (Nat.le_refl _)
                have y2 := hys i k' hiR hkC (by omega) (by omega)
                have y3 := hys i s hiR hsN (by omega) (Nat.le_refl _)
                have y4 := hys s k' hsN hkC (Nat.le_refl _) (by omega)
                have m1 := y1.1.pmul y2.1 (by omega)
                have m2 := y3.1.pmul y4.1 (by omega)
                have l1 := pmul_len (y s s) (y i k')
                have l2 := pmul_len (y i s) (y s k')
                have l3 := psub_len (pmul (y s s) (y i k')) (pmul (y i s) (y s k'))
                refine draw_rule [0, 1, 2, 3, 4, 5, 6, 7, 8, 9, 10, 11, 12, 13, 15, 16, 17, 18, 19, 20, 21, 22, 23, 24, 25, 26, 27, 28, 14, 29, 30, 31] [0, 1, 2, 3, 4, 5, 6, 7, 8, 9, 10, 11, 12, 13, 14, 15, 16, 17, 18, 19, 20, 21, 22, 23, 24, 25, 26, 27, 28, 29, 30, 31] (by kernel_rfl) (by kernel_rfl) ?_
                refine index_elem 1 rfl hv' s rfl (by omega) ?_
                refine load_one_elem 1 rfl s (by omega) (u := vs' s) rfl ?_
                refine index_famP 0 s rfl (by omega) (hvs' s (by omega)) s rfl (by omega) ?_
                refine load_famP 0 s s rfl (by omega) (by omega) (y s s) ?_ fun u1 => ?_
                · unfold pmix; rw [if_pos (by omega), hzy _ _ (by omega)]
                refine index_elem 1 rfl hv' i rfl (by omega) ?_
                refine load_one_elem 1 rfl i (by omega) (u := vs' i) rfl ?_
                refine index_famP 0 i rfl (by omega) (hvs' i (by omega)) k' rfl (by omega) ?_
                refine load_famP 0 i k' rfl (by omega) (by omega) (y i k') ?_ fun u2 => ?_
                · unfold pmix; rw [if_neg (by omega)]
                refine index_elem 1 rfl hv' i rfl (by omega) ?_
                refine load_one_elem 1 rfl i (by omega) (u := vs' i) rfl ?_
                refine index_famP 0 i rfl (by omega) (hvs' i (by omega)) s rfl (by omega) ?_
                refine load_famP 0 i s rfl (by omega) (by omega) (y i s) ?_ fun u3 => ?_
                · unfold pmix; rw [if_pos (by omega), hzy _ _ (by omega)]
                refine index_elem 1 rfl hv' s rfl (by omega) ?_
                refine load_one_elem 1 rfl s (by omega) (u := vs' s) rfl ?_
                refine index_famP 0 s rfl (by omega) (hvs' s (by omega)) k' rfl (by omega) ?_
                refine load_famP 0 s k' rfl (by omega) (by omega) (y s k') ?_ fun u4 => ?_
                · unfold pmix; rw [if_pos (by omega), hzy _ _ (by omega)]
                refine call_fn (pMulT u1 u2 _ _ _ _ y1.1 y2.1 (by omega) (by omega) (by omega)) (Seals.refl _ _) (by repeat (first | exact Sub.nil _ | refine Sub.cons (by repeat (first | exact List.Mem.head _ | apply List.Mem.tail)) ?_)) ?_
                rintro w1 _ _ ⟨rfl, rfl⟩
                refine call_fn (pMulT u3 u4 _ _ _ _ y3.1 y4.1 (by omega) (by omega) (by omega)) (Seals.refl _ _) (by repeat (first | exact Sub.nil _ | refine Sub.cons (by repeat (first | exact List.Mem.head _ | apply List.Mem.tail)) ?_)) ?_
                rintro w2 _ _ ⟨rfl, rfl⟩
                refine call_fn (pSubT w1 w2 _ _ _ m1 m2 (by omega) (by omega) (by omega)) (Seals.refl _ _) (by repeat (first | exact Sub.nil _ | refine Sub.cons (by repeat (first | exact List.Mem.head _ | apply List.Mem.tail)) ?_)) ?_
                rintro w3 _ _ ⟨rfl, rfl⟩
                refine draw_rule [0, 1, 2, 3, 4, 5, 6, 7, 8, 9, 10, 11, 12] [0, 1, 2, 3, 4, 5, 6, 7, 8, 9, 11, 12, 10] (by kernel_rfl) (by kernel_rfl) ?_
                refine index_elem 1 rfl hv' i rfl (by omega) ?_
                refine load_one_elem 1 rfl i (by omega) (u := vs' i) rfl ?_
                refine call_fn (pDivideT w3 lv _ _ _ _ (m1.psub m2) hlast.1 (hdiv _ (by omega)) (by omega) (by omega)) (Seals.refl _ _) (by repeat (first | exact Sub.nil _ | refine Sub.cons (by repeat (first | exact List.Mem.head _ | apply List.Mem.tail)) ?_)) ?_
                rintro _ _ _ ⟨rfl, w4, t, e, rfl, hds, _, rfl⟩
                obtain rfl := hquo i k' hi1 hiR hk1 hkC hds
                refine index_famP 0 i rfl (by omega) (hvs' i (by omega)) k' rfl (by omega) ?_
                refine store_px 0 i k' rfl (by omega) (by omega) _ (pmix z y i (k' + 1)) (Reads.fact (by repeat (first | exact List.Mem.head _ | apply List.Mem.tail))) (fun a b ha hb => ?_) ?_
                · unfold pmix
                  by_cases e : a = i ∧ b = k'
                  · rw [if_pos e, e.1, e.2, if_pos (by omega)]
                  · rw [if_neg e]
                    by_cases e1 : a < i ∨ a = i ∧ b < k'
                    · rw [if_pos e1, if_pos (by omega)]
                    · rw [if_neg e1, if_neg (by omega)]
                refine ar rfl (by first | exact ⟨by omega, by omega⟩ | (simp only [inK]; omega)) ?_
                exact again (k' + 1) ⟨by omega, by omega⟩ (by simp only; omega) (by repeat (first | exact trivial | refine ⟨rfl, ?_⟩ | refine ⟨i64_eq (by first | omega | (simp only; omega)), ?_⟩ | refine ⟨u64_eq (by first | omega | (simp only; omega)), ?_⟩)) (Seals.sub (by repeat (first | exact Sub.nil _ | refine Sub.cons (by repeat (first | exact List.Mem.head _ | apply List.Mem.tail)) ?_)))
              · have hkC : k' = N := by omega
                subst hkC
                refine ar rfl (by first | exact ⟨by omega, by omega⟩ | (simp only [inK]; omega)) ?_
                refine again (i + 1) ⟨by omega, by omega⟩ (by simp only; omega) (by repeat (first | exact trivial | refine ⟨rfl, ?_⟩ | refine ⟨i64_eq (by first | omega | (simp only; omega)), ?_⟩ | refine ⟨u64_eq (by first | omega | (simp only; omega)), ?_⟩)) (Seals.trans (Seals.pxcong (os := [_, _]) (x' := pmix z y (i + 1) 0) 0 rfl (fun i => i) (fun a ha => ⟨ha, rfl, fun b hb => ?_⟩) fun _ _ _ _ e => e) (Seals.sub (by repeat (first | exact Sub.nil _ | refine Sub.cons (by repeat (first | exact List.Mem.head _ | apply List.Mem.tail)) ?_))))
                unfold pmix
                by_cases e : a < i ∨ a = i ∧ b < k'
                · rw [if_pos e, if_pos (by omega)]
                · rw [if_neg e, if_neg (by omega)]
          · have hiR : i = N := by omega
            subst hiR
            refine index_elem 1 rfl hv' s rfl (by omega) ?_
            refine load_one_elem 1 rfl s (by omega) (u := vs' s) rfl ?_
            refine index_famP 0 s rfl (by omega) (hvs' s (by omega)) s rfl (by omega) ?_
            refine load_famP 0 s s rfl (by omega) (by omega) (y s s) ?_ fun u1 => ?_
            · unfold pmix; rw [if_pos (by omega), hzy _ _ (by omega)]
            refine ar rfl (by first | exact ⟨by omega, by omega⟩ | (simp only [inK]; omega)) ?_
            refine again ⟨s + 1, (odd), y s s, u1, z, vs'⟩ hnext (by simp only; omega) (by repeat (first | exact trivial | refine ⟨rfl, ?_⟩ | refine ⟨i64_eq (by first | omega | (simp only; omega)), ?_⟩ | refine ⟨u64_eq (by first | omega | (simp only; omega)), ?_⟩)) (Seals.trans (Seals.pxcong (os := [_, _]) (x' := z) 0 rfl (fun i => i) (fun a ha => ⟨ha, rfl, fun b hb => ?_⟩) fun _ _ _ _ e => e) (Seals.sub (by repeat (first | exact Sub.nil _ | refine Sub.cons (by repeat (first | exact List.Mem.head _ | apply List.Mem.tail)) ?_))))
            unfold pmix; rw [if_pos (by omega)]
end Go.Proofs.YtfkeohlpcjpkbaaGreat

namespace Go.Proofs.YtfkeohlpcjpkbaaGreat
open Go.RowKit
theorem gExact_meets (v w : Value) (a b : List Row) :
    Meets Tryz.prog 37 [v, w] [(v, W a), (w, W b)] (fun r os fs => os = [] ∧ fs = [] ∧ r = .bool (decide (a = b))) := by
  refine meets_of_vc Tryz.func37 (by kernel_rfl) rfl (by kernel_rfl) (Nat.le_of_ble_eq_true rfl) ?_
  refine len_fact (by repeat (first | exact List.Mem.head _ | apply List.Mem.tail)) fun _ => ?_
  refine len_fact (by repeat (first | exact List.Mem.head _ | apply List.Mem.tail)) fun _ => ?_
  refine cmp_split _ rfl (fun hl => ?_) (fun hl => ?_)
  · exact fin ⟨rfl, rfl, congrArg Value.bool (decide_eq_false (fun e => hl (by rw [e]))).symm⟩ (Seals.nil _ _)
  · have hl' : a.length = b.length := by omega
    refine loop_rule (X := Nat) (fun i => ([(0, v), (1, w), (5, .int .i64 (i : Nat))], [], [(v, W a), (w, W b)]))
      (fun i => i ≤ a.length ∧ ∀ k, k < i → a.getD k [] = b.getD k []) (fun i => a.length - i) rfl ?_ ?_
    · exact again 0 ⟨Nat.zero_le _, fun k hk => absurd hk (Nat.not_lt_zero _)⟩ trivial (by repeat (first | exact trivial | refine ⟨rfl, ?_⟩ | refine ⟨i64_eq (by first | omega | (simp only; omega)), ?_⟩ | refine ⟨u64_eq (by first | omega | (simp only; omega)), ?_⟩)) (Seals.sub (by repeat (first | exact Sub.nil _ | refine Sub.cons (by repeat (first | exact List.Mem.head _ | apply List.Mem.tail)) ?_)))
    · rintro i ⟨h1, h2⟩
      refine len_fact (by repeat (first | exact List.Mem.head _ | apply List.Mem.tail)) fun _ => ?_
      refine cmp_split _ rfl (fun hi => ?_) (fun hi => ?_)
      · refine draw_rule [0, 1, 2, 3, 4, 5, 6, 7, 8, 9] [0, 1, 2, 3, 4, 5, 6, 7, 8, 9] (by kernel_rfl) (by kernel_rfl) ?_
        refine index_fact (by repeat (first | exact List.Mem.head _ | apply List.Mem.tail)) i rfl (by omega) fun a1 => ?_
        refine load_fact (d := V (a.getD i [])) (by repeat (first | exact List.Mem.head _ | apply List.Mem.tail)) (load_V _) fun x1 => ?_
        refine index_fact (by repeat (first | exact List.Mem.head _ | apply List.Mem.tail)) i rfl (by omega) fun a2 => ?_
        refine load_fact (d := V (b.getD i [])) (by repeat (first | exact List.Mem.head _ | apply List.Mem.tail)) (load_V _) fun x2 => ?_
        refine call_fn (exactAll_meets x1 x2 (a.getD i []) (b.getD i [])) (Seals.refl _ _) (by repeat (first | exact Sub.nil _ | refine Sub.cons (by repeat (first | exact List.Mem.head _ | apply List.Mem.tail)) ?_)) ?_
        rintro _ _ _ ⟨rfl, rfl, rfl⟩
        by_cases he : a.getD i [] = b.getD i []
        · rw [decide_eq_true he]
          refine ar rfl (by first | exact ⟨by omega, by omega⟩ | (simp only [inK]; omega)) ?_
          refine again (i + 1) ⟨by omega, fun k hk => ?_⟩ (by simp only; omega) (by repeat (first | exact trivial | refine ⟨rfl, ?_⟩ | refine ⟨i64_eq (by first | omega | (simp only; omega)), ?_⟩ | refine ⟨u64_eq (by first | omega | (simp only; omega)), ?_⟩)) (Seals.sub (by repeat (first | exact Sub.nil _ | refine Sub.cons (by repeat (first | exact List.Mem.head _ | apply List.Mem.tail)) ?_)))
          by_cases hki : k = i
          · subst hki; exact he
          · exact h2 k (by omega)
        · rw [decide_eq_false he]
          exact fin ⟨rfl, rfl, congrArg Value.bool (decide_eq_false (fun e => he (by rw [e]))).symm⟩ (Seals.nil _ _)
      · exact fin ⟨rfl, rfl, congrArg Value.bool (decide_eq_true (row_eq_of_getD [] hl' fun k hk => h2 k (by omega))).symm⟩ (Seals.nil _ _)
theorem gFits_meets (v : Value) (m : List Row) (n k c : Nat) :
    Meets Tryz.prog 5 [v, .int .i64 (n : Int), .int .i64 (k : Int), .int .i64 (c : Int)] [(v, W m)] (fun r os fs => os = [] ∧ fs = [] ∧ r = .bool (decide (small n k c m))) := by
  refine meets_of_vc Tryz.func5 (by kernel_rfl) rfl (by kernel_rfl) (Nat.le_of_ble_eq_true rfl) ?_
  refine len_fact (by repeat (first | exact List.Mem.head _ | apply List.Mem.tail)) fun _ => ?_
  refine cmp_split _ rfl (fun hl => ?_) (fun hl => ?_)
  · exact fin ⟨rfl, rfl, congrArg Value.bool (decide_eq_false (fun e => by have := e.1; omega)).symm⟩ (Seals.nil _ _)
  · refine loop_rule (X := Nat) (fun i => ([(0, v), (2, .int .i64 (k : Nat)), (3, .int .i64 (c : Nat)), (9, .int .i64 (i : Nat))], [], [(v, W m)]))
      (fun i => i ≤ m.length ∧ ∀ j, j < i → (m.getD j []).length ≤ k ∧ ∀ x, x ∈ m.getD j [] → x.2.length ≤ c) (fun i => m.length - i) rfl ?_ ?_
    · exact again 0 ⟨Nat.zero_le _, fun k hk => absurd hk (Nat.not_lt_zero _)⟩ trivial (by repeat (first | exact trivial | refine ⟨rfl, ?_⟩ | refine ⟨i64_eq (by first | omega | (simp only; omega)), ?_⟩ | refine ⟨u64_eq (by first | omega | (simp only; omega)), ?_⟩)) (Seals.sub (by repeat (first | exact Sub.nil _ | refine Sub.cons (by repeat (first | exact List.Mem.head _ | apply List.Mem.tail)) ?_)))
    · rintro i ⟨h1, h2⟩
      refine len_fact (by repeat (first | exact List.Mem.head _ | apply List.Mem.tail)) fun _ => ?_
      refine cmp_split _ rfl (fun hi => ?_) (fun hi => ?_)
      · have hlt : i < m.length := by omega
        refine index_fact (by repeat (first | exact List.Mem.head _ | apply List.Mem.tail)) i rfl hlt fun a1 => ?_
        refine load_fact (d := V (m.getD i [])) (by repeat (first | exact List.Mem.head _ | apply List.Mem.tail)) (load_V _) fun x1 => ?_
        refine call_fn (rFits_meets x1 (m.getD i []) k c) (Seals.refl _ _) (by repeat (first | exact Sub.nil _ | refine Sub.cons (by repeat (first | exact List.Mem.head _ | apply List.Mem.tail)) ?_)) ?_
        rintro _ _ _ ⟨rfl, rfl, rfl⟩
        by_cases he : (m.getD i []).length ≤ k ∧ ∀ x, x ∈ m.getD i [] → x.2.length ≤ c
        · rw [decide_eq_true he]
          refine ar rfl (by first | exact ⟨by omega, by omega⟩ | (simp only [inK]; omega)) ?_
          refine again (i + 1) ⟨by omega, fun j hj => ?_⟩ (by simp only; omega) (by repeat (first | exact trivial | refine ⟨rfl, ?_⟩ | refine ⟨i64_eq (by first | omega | (simp only; omega)), ?_⟩ | refine ⟨u64_eq (by first | omega | (simp only; omega)), ?_⟩)) (Seals.sub (by repeat (first | exact Sub.nil _ | refine Sub.cons (by repeat (first | exact List.Mem.head _ | apply List.Mem.tail)) ?_)))
          by_cases hji : j = i
          · subst hji; exact he
          · exact h2 j (by omega)
        · rw [decide_eq_false he]
          exact fin ⟨rfl, rfl, congrArg Value.bool (decide_eq_false (fun e => he (e.2 _ (getD_mem [] hlt)))).symm⟩ (Seals.nil _ _)
      · exact fin ⟨rfl, rfl, congrArg Value.bool (decide_eq_true (⟨by omega, fun r hr => by obtain ⟨j, hj, rfl⟩ := mem_getD [] hr; exact h2 j (by omega)⟩ : small n k c m)).symm⟩ (Seals.nil _ _)
theorem gOwn_meets (v : Value) (m : List Row) (ll : m.length ≤ 274877906944) (hk : ∀ r, r ∈ m → r.length ≤ 274877906944 ∧ ∀ x, x ∈ r → x.2.length ≤ 1099511627776) :
    Meets Tryz.prog 6 [v] [(v, W m)] (fun r os fs => os = [] ∧ fs = [(r, W m)]) := by
  refine meets_of_vc Tryz.func6 (by kernel_rfl) rfl (by kernel_rfl) (Nat.le_of_ble_eq_true rfl) ?_
  refine empty_L V [] (by decide) fun w hw => ?_
  refine loop_rule (X := Nat × Value) (fun x => ([(0, v), (3, x.2), (4, .int .i64 (x.1 : Nat))], [ownL 1 V [] x.2 (m.take x.1)], [(v, W m)])) (fun x => x.1 ≤ m.length ∧ isSl x.2) (fun x => m.length - x.1) rfl ?_ ?_
  · exact again (0, w) ⟨Nat.zero_le _, hw⟩ trivial (by repeat (first | exact trivial | refine ⟨rfl, ?_⟩ | refine ⟨i64_eq (by first | omega | (simp only; omega)), ?_⟩ | refine ⟨u64_eq (by first | omega | (simp only; omega)), ?_⟩)) (by simp only [List.take_zero]; exact Seals.sub (by repeat (first | exact Sub.nil _ | refine Sub.cons (by repeat (first | exact List.Mem.head _ | apply List.Mem.tail)) ?_)))
  · rintro ⟨i, w⟩ ⟨h1, hw⟩
    simp only at h1 hw ⊢
    refine len_fact (by repeat (first | exact List.Mem.head _ | apply List.Mem.tail)) fun _ => ?_
    refine cmp_split _ rfl (fun hi => ?_) (fun hi => ?_)
    · have hlt : i < m.length := by omega
      have hr := hk _ (getD_mem [] hlt)
      refine index_fact (by repeat (first | exact List.Mem.head _ | apply List.Mem.tail)) i rfl hlt fun a1 => ?_
      refine load_fact (d := V (m.getD i [])) (by repeat (first | exact List.Mem.head _ | apply List.Mem.tail)) (load_V _) fun x1 => ?_
      refine call_fn (rOwn_meets x1 (m.getD i []) hr.1 hr.2) (Seals.refl _ _) (by repeat (first | exact Sub.nil _ | refine Sub.cons (by repeat (first | exact List.Mem.head _ | apply List.Mem.tail)) ?_)) ?_
      rintro x2 _ _ ⟨rfl, hx2, rfl⟩
      refine BuildSliceK.pre (Seals.L 0 rfl hx2) ?_
      refine lit_L (size := 1) V [] (m.getD i []) (by decide) (Reads.fact (d := V (m.getD i [])) (by repeat (first | exact List.Mem.head _ | apply List.Mem.tail))) rfl fun l1 => ?_
      refine append_L 0 rfl hw (Knw.fact (by repeat (first | exact List.Mem.head _ | apply List.Mem.tail))) (by simp; omega) (by simp; omega) fun w2 hw2 => ?_
      refine ar rfl (by first | exact ⟨by omega, by omega⟩ | (simp only [inK]; omega)) ?_
      refine again (i + 1, w2) ⟨by simp only; omega, hw2⟩ (by simp only; omega) (by repeat (first | exact trivial | refine ⟨rfl, ?_⟩ | refine ⟨i64_eq (by first | omega | (simp only; omega)), ?_⟩ | refine ⟨u64_eq (by first | omega | (simp only; omega)), ?_⟩)) ?_
      simp only [take_snoc' [] hlt]
      exact Seals.sub (by repeat (first | exact Sub.nil _ | refine Sub.cons (by repeat (first | exact List.Mem.head _ | apply List.Mem.tail)) ?_))
    · have hia : i = m.length := by omega
      refine fin ⟨rfl, rfl⟩ (Seals.trans (Seals.L 0 rfl hw) ?_)
      rw [hia, List.take_length]
      exact Seals.sub (by repeat (first | exact Sub.nil _ | refine Sub.cons (by repeat (first | exact List.Mem.head _ | apply List.Mem.tail)) ?_))
theorem grow12_meets (v : Value) (l : List Int) (hl : l.length ≤ 1000) (hz : ∀ x, x ∈ l → -9223372036854775808 ≤ x ∧ x < 9223372036854775808) :
    Meets Tryz.prog 30 [v] [(v, IL l)] (fun r os fs => os = [] ∧ fs = [(r, vd l)]) := by
  have hfin : lst l.length (fun i => l.getD i 0) = l := by
    have := lst_map l fun x => x
    rw [List.map_id'] at this
    exact this
  have hg : ∀ i, i < l.length → -9223372036854775808 ≤ l.getD i 0 ∧ l.getD i 0 < 9223372036854775808 := fun i hi => hz _ (getD_mem 0 hi)
  refine meets_of_vc Tryz.func30 (by kernel_rfl) rfl (by kernel_rfl) (Nat.le_of_ble_eq_true rfl) ?_
  refine empty_L (size := 2) (e := 26) J z0 (by decide) fun v0 hv0 => ?_
  refine loop_rule (X := Value × Nat) (fun x => ([(0, v), (3, x.1), (4, .int .i64 (x.2 : Nat))], [ownL 2 J z0 x.1 ((lst x.2 fun i => l.getD i 0).map cn)], [(v, IL l)])) (fun x => isSl x.1 ∧ x.2 ≤ l.length) (fun x => l.length - x.2) rfl ?_ ?_
  · exact again (v0, 0) ⟨hv0, Nat.zero_le _⟩ trivial (by repeat (first | exact trivial | refine ⟨rfl, ?_⟩ | refine ⟨i64_eq (by first | omega | (simp only; omega)), ?_⟩ | refine ⟨u64_eq (by first | omega | (simp only; omega)), ?_⟩)) (Seals.sub (by repeat (first | exact Sub.nil _ | refine Sub.cons (by repeat (first | exact List.Mem.head _ | apply List.Mem.tail)) ?_)))
  · rintro ⟨vo, i⟩ ⟨hvo, h2⟩
    simp only at hvo h2 ⊢
    refine len_fact (by repeat (first | exact List.Mem.head _ | apply List.Mem.tail)) fun _ => ?_
    refine cmp_split _ rfl (fun hlt => ?_) (fun hlt => ?_)
    · have hin : i < l.length := by omega
      have hll : (lst i fun i => l.getD i 0).length = i := lst_len _ _
      refine index_fact (by repeat (first | exact List.Mem.head _ | apply List.Mem.tail)) i rfl hin fun a1 => ?_
      refine load_one (by repeat (first | exact List.Mem.head _ | apply List.Mem.tail)) ?_
      refine call_fn (rOf_meets (l.getD i 0) (hg i hin).1 (hg i hin).2) (Seals.refl _ _) (by repeat (first | exact Sub.nil _ | refine Sub.cons (by repeat (first | exact List.Mem.head _ | apply List.Mem.tail)) ?_)) ?_
      rintro y _ _ ⟨rfl, rfl⟩
      refine lit_L (size := 2) (f := J) (z := z0) (e := 26) (cn (l.getD i 0)) (by decide) (Reads.fact (by repeat (first | exact List.Mem.head _ | apply List.Mem.tail))) rfl fun y4 => ?_
      refine append_L (size := 2) (e := 26) (f := J) (z := z0) (l := (lst i fun i => l.getD i 0).map cn) (m := [cn (l.getD i 0)]) 0 rfl hvo (Knw.fact (by repeat (first | exact List.Mem.head _ | apply List.Mem.tail))) (by simp only [List.length_map, hll, List.length_cons, List.length_nil]; omega) (by simp only [List.length_map, hll, List.length_cons, List.length_nil]; omega) fun vn hvn => ?_
      refine ar rfl (by first | exact ⟨by omega, by omega⟩ | (simp only [inK]; omega)) ?_
      refine again (vn, i + 1) ⟨hvn, by simp only; omega⟩ (by simp only; omega) (by repeat (first | exact trivial | refine ⟨rfl, ?_⟩ | refine ⟨i64_eq (by first | omega | (simp only; omega)), ?_⟩ | refine ⟨u64_eq (by first | omega | (simp only; omega)), ?_⟩)) ?_
      rw [show (lst i fun i => l.getD i 0).map cn ++ [cn (l.getD i 0)] = (lst (i + 1) fun i => l.getD i 0).map cn by rw [lst_snoc, List.map_append]; rfl]
      exact Seals.sub (by repeat (first | exact Sub.nil _ | refine Sub.cons (by repeat (first | exact List.Mem.head _ | apply List.Mem.tail)) ?_))
    · have hii : i = l.length := by omega
      subst hii
      refine fin ⟨rfl, rfl⟩ (Seals.trans (Seals.toldL hvo) ?_)
      rw [hfin]
      exact Seals.sub (by repeat (first | exact Sub.nil _ | refine Sub.cons (by repeat (first | exact List.Mem.head _ | apply List.Mem.tail)) ?_))
theorem gsame_meets (v w : Value) (a b : List Row) :
    Meets Tryz.prog 9 [v, w] [(v, W a), (w, W b)] (fun r os fs => os = [] ∧ fs = [] ∧ r = .bool (decide (a = b))) := by
  refine meets_of_vc Tryz.func9 (by kernel_rfl) rfl (by kernel_rfl) (Nat.le_of_ble_eq_true rfl) ?_
  refine call_fn (gExact_meets v w a b) (Seals.refl _ _) (by repeat (first | exact Sub.nil _ | refine Sub.cons (by repeat (first | exact List.Mem.head _ | apply List.Mem.tail)) ?_)) ?_
  rintro _ _ _ ⟨rfl, rfl, rfl⟩
  exact fin ⟨rfl, rfl, rfl⟩ (Seals.nil _ _)
/-- Two told grids that are the same. -/
theorem gsameT (v w : Value) (x y : List (List Int)) (h : x = y) :
    Meets Tryz.prog 9 [v, w] [(v, wd x), (w, wd y)] (fun r os fs => os = [] ∧ fs = [] ∧ r = .bool true) := by
  have := gsame_meets v w (x.map (·.map cn)) (y.map (·.map cn))
  rw [decide_eq_true (by rw [h])] at this
  exact this
theorem gsameV (v w : Value) (x : List Row) :
    Meets Tryz.prog 9 [v, w] [(v, W x), (w, W x)] (fun r os fs => os = [] ∧ fs = [] ∧ r = .bool true) := by
  have := gsame_meets v w x x
  rw [decide_eq_true rfl] at this
  exact this
end Go.Proofs.YtfkeohlpcjpkbaaGreat

namespace Go.Proofs.YtfkeohlpcjpkbaaGreat
open Go.RowKit
abbrev toW (G : List (List Int)) : List Row := G.map (·.map cn)
theorem ww_toW (G : List (List Int)) : ww (toW G) = G := by
  unfold ww
  rw [List.map_map]
  conv => rhs; rw [← List.map_id G]
  exact List.map_congr_left fun r _ => vv_cn r
theorem gmuE_gn (g h : List Row) : Gn (gmuE g h) := by
  unfold gmuE; split
  · exact ⟨rfl, fun r hr => by simp at hr⟩
  · exact gof_gn _ _ _
/-- The product. -/
def gmu (G H : List (List Int)) : List (List Int) := gmuE (toW G) (toW H)
theorem gmu_gn (G H : List (List Int)) : Gn (gmu G H) := gmuE_gn _ _
theorem gev_gmu (G H : List (List Int)) (x y : Int) : gev (gmu G H) x y = gev G x y * gev H x y := by
  rw [gmu, gev_gmuE, ww_toW, ww_toW]
theorem gmuE_eq (g h : List Row) : gmuE g h = gmu (ww g) (ww h) := (gmuE_gn _ _).ev_ext (gmu_gn _ _) fun x y => by rw [gev_gmuE, gev_gmu]
theorem gev_gn (G : List (List Int)) (x y : Int) : gev (gn G) x y = gev G x y := gev_co (gn_gv G) x y
/-- A grid's rows, what they stand for, limbs and lengths. -/
structure Lg (A : List Row) (G : List (List Int)) (k n : Nat) : Prop where
  val : ww A = G
  len : A.length ≤ n
  row : ∀ r, r ∈ A → r.length ≤ n ∧ Fit k r
theorem Lg.raw {n k : Nat} {m : List Row} (h : small n n k m) (hl : limM m) : Lg m (ww m) k n := ⟨rfl, h.1, fun r hr => ⟨(h.2 r hr).1, fun x hx => ⟨hl r hr x hx, (h.2 r hr).2 x hx⟩⟩⟩
theorem Lg.told {G : List (List Int)} {k n : Nat} (h : G.length ≤ n) (hr : ∀ r, r ∈ G → r.length ≤ n ∧ szR k r) : Lg (toW G) G k n :=
  ⟨ww_toW G, by rw [List.length_map]; exact h, fun r hr' => by
    obtain ⟨l, hl, rfl⟩ := List.mem_map.1 hr'
    exact ⟨by rw [List.length_map]; exact (hr l hl).1, (hr l hl).2.fit⟩⟩
section
variable {A B : List Row} {G H : List (List Int)} {k j n n' : Nat}
theorem Lg.mono (h : Lg A G k n) (hk : k ≤ j) (hn : n ≤ n') : Lg A G j n' := ⟨h.val, Nat.le_trans h.len hn, fun r hr => ⟨Nat.le_trans (h.row r hr).1 hn, (h.row r hr).2.mono hk⟩⟩
theorem Lg.gf (h : Lg A G k n) (hk : k ≤ j) (hn : n ≤ 1048576) : Gf j A := ⟨Nat.le_trans h.len hn, fun r hr => ⟨Nat.le_trans (h.row r hr).1 hn, (h.row r hr).2.mono hk⟩⟩
theorem Lg.gs (h : Lg A G k n) (hn : n ≤ 1024) : Gs k A := ⟨Nat.le_trans h.len hn, fun r hr => ⟨Nat.le_trans (h.row r hr).1 hn, (h.row r hr).2⟩⟩
theorem Lg.ll (h : Lg A G k n) : G.length ≤ n := by rw [← h.val, ww_len]; exact h.len
theorem Lg.g (h : Lg A G k n) (i : Nat) : szR k (G.getD i []) ∧ (G.getD i []).length ≤ n := by
  rw [← h.val, ww_get]
  by_cases hi : i < A.length
  · have := h.row _ (getD_mem [] hi)
    exact ⟨this.2.szR, by rw [vv_len]; exact this.1⟩
  · rw [getD_end (l := A) (by omega)]
    exact ⟨fun x hx => by simp [vv] at hx, Nat.zero_le _⟩
theorem Lg.gv (h : Lg A G k n) (i j : Nat) : sz (Go.Proofs.YtfkeohlpcjpkbaaGreat.gv G i j) k := (h.g i).1.get j
theorem Lg.dx (h : Lg A G k n) : gdx G ≤ n := Nat.le_trans (gdxN_le _ _) h.ll
theorem Lg.dy (h : Lg A G k n) : gdy G ≤ n := gdyN_le (fun i => Nat.le_trans (dg_le_len _) (h.g i).2) _
theorem Lg.of_gtr {E : List (List Int)} (h : E.length ≤ n) (hr : ∀ r, r ∈ E → r.length ≤ n ∧ szR k r) : Lg (toW (gtr E)) (gtr E) k n :=
  Lg.told (Nat.le_trans (gtr_len _) h) fun r hr' => hr r (gtr_mem hr')
theorem Lg.gof {F : Nat → Nat → Int} {a c : Nat} (hF : ∀ i j, sz (F i j) k) (ha : a ≤ n) (hc : c ≤ n) : Lg (toW (gof F a c)) (Go.Proofs.YtfkeohlpcjpkbaaGreat.gof F a c) k n :=
  Lg.of_gtr (by simpa using ha) fun r hr => by
    obtain ⟨i, _, rfl⟩ := List.mem_map.1 hr
    exact ⟨Nat.le_trans (nrm_length_le _) (by rw [lst_len]; exact hc), szR.nrm (szR.lst fun j _ => hF i j)⟩
theorem Lg.gn (h : Lg A G k n) : Lg (toW (gn G)) (Go.Proofs.YtfkeohlpcjpkbaaGreat.gn G) k n := Lg.of_gtr (by rw [List.length_map]; exact h.ll) fun r hr => by
  obtain ⟨p, hp, rfl⟩ := List.mem_map.1 hr
  obtain ⟨i, hi, rfl⟩ := mem_getD [] hp
  exact ⟨Nat.le_trans (nrm_length_le _) (h.g i).2, (h.g i).1.nrm⟩
theorem Lg.zr {f : List Int → List Int → List Int} (h : Lg A G k n) (h' : Lg B H k n) (hf : ∀ l m, szR k l → szR k m → l.length ≤ n → m.length ≤ n → szR j (f l m) ∧ (f l m).length ≤ n) :
    Lg (toW (Go.Proofs.YtfkeohlpcjpkbaaGreat.gn (zrow f G H (max G.length H.length)))) (Go.Proofs.YtfkeohlpcjpkbaaGreat.gn (zrow f G H (max G.length H.length))) j n := Lg.of_gtr (by rw [List.length_map, zrow_len]; exact Nat.max_le.2 ⟨h.ll, h'.ll⟩) fun r hr => by
  obtain ⟨p, hp, rfl⟩ := List.mem_map.1 hr
  obtain ⟨i, _, rfl⟩ := List.mem_map.1 hp
  have := hf _ _ (h.g i).1 (h'.g i).1 (h.g i).2 (h'.g i).2
  exact ⟨Nat.le_trans (nrm_length_le _) this.2, this.1.nrm⟩
theorem Lg.add (h : Lg A G k n) (h' : Lg B H k n) : Lg (toW (gadd G H)) (gadd G H) (k + 1) n := h.zr h' fun _ _ a b c d => ⟨a.padd b, Nat.le_trans (padd_len _ _) (Nat.max_le.2 ⟨c, d⟩)⟩
theorem Lg.sub (h : Lg A G k n) (h' : Lg B H k n) : Lg (toW (gsub G H)) (gsub G H) (k + 1) n := h.zr h' fun _ _ a b c d => ⟨a.psub b, Nat.le_trans (psub_len _ _) (Nat.max_le.2 ⟨c, d⟩)⟩
theorem Lg.tu (h : Lg A G k n) : Lg (toW (gtu G)) (gtu G) k n := Lg.gof (fun i j => h.gv j i) h.dy h.dx
theorem Lg.toW (h : Lg A G k n) : Lg (Go.Proofs.YtfkeohlpcjpkbaaGreat.toW G) G k n := Lg.told h.ll fun r hr => by
  obtain ⟨i, hi, rfl⟩ := mem_getD [] hr
  exact ⟨(h.g i).2, (h.g i).1⟩
theorem Lg.mul (h : Lg A G k n) (h' : Lg B H j n') (hn : n ≤ 1024) (hn' : n' ≤ 1024) : Lg (Go.Proofs.YtfkeohlpcjpkbaaGreat.toW (gmu G H)) (gmu G H) (k + j + 1) (n + n') := by
  have g1 := h.toW.gs hn
  have g2 := h'.toW.gs hn'
  unfold gmu gmuE
  rw [ww_toW, ww_toW]
  split
  · exact Lg.told (Nat.zero_le _) fun r hr => by simp at hr
  · refine Lg.gof (fun i j' => ?_) (by have := h.dx; have := h'.dx; omega) (by have := h.dy; have := h'.dy; omega)
    have e : pairs (tg (Go.Proofs.YtfkeohlpcjpkbaaGreat.toW G) (Go.Proofs.YtfkeohlpcjpkbaaGreat.toW G).length) (tg (Go.Proofs.YtfkeohlpcjpkbaaGreat.toW H) (Go.Proofs.YtfkeohlpcjpkbaaGreat.toW H).length) i j' + some2 (0, 0, z0) [] i j' = pairs (tg (Go.Proofs.YtfkeohlpcjpkbaaGreat.toW G) (Go.Proofs.YtfkeohlpcjpkbaaGreat.toW G).length) (tg (Go.Proofs.YtfkeohlpcjpkbaaGreat.toW H) (Go.Proofs.YtfkeohlpcjpkbaaGreat.toW H).length) i j' := by simp [some2, esum]
    rw [← e]
    exact sum_sz (fun t ht => sz_jv (g1.tin t ht).2.2.1 (g1.tin t ht).2.2.2) (by rw [jv_z0]; exact sz_zero _) (fun t ht => sz_jv (g2.tin t ht).2.2.1 (g2.tin t ht).2.2.2) (fun t ht => by simp at ht) g1.tlen g2.tlen (Nat.zero_le _) i j'
theorem Lg.py {y : Int} (h : Lg A G k n) (hy : sz y j) : Lk ((gpy G y).map cn) (gpy G y) (k + n * (j + 1)) n := Lk.told (szR.nrm fun x hx => by
    obtain ⟨r, hr, rfl⟩ := List.mem_map.1 hx
    obtain ⟨i, hi, rfl⟩ := mem_getD [] hr
    exact (ev_sz (h.g i).1 hy).mono (Nat.add_le_add_left (Nat.mul_le_mul_right _ (h.g i).2) _)) (Nat.le_trans (gpy_len _ _) h.ll)
theorem Lg.ev {x y : Int} (h : Lg A G k n) (hx : sz x j) (hy : sz y j) : sz (gev G x y) (k + n * (j + 1) + n * (j + 1)) := ev_szn (h.py hy) hx
theorem xgNorm (v : Value) (h : Lg A G k n) (hk : k ≤ 137438953472 := by decide) (hn : n ≤ 1024 := by decide) :
    Meets Tryz.prog 10 [v] [(v, W A)] (fun r os fs => os = [] ∧ fs = [(r, wd (Go.Proofs.YtfkeohlpcjpkbaaGreat.gn G))]) := by
  have := gNorm_meets v A (h.gf hk (by omega))
  rw [h.val] at this; exact this
theorem xgDegrees (v : Value) (h : Lg A G k n) (hk : k ≤ 137438953472 := by decide) (hn : n ≤ 1024 := by decide) :
    Meets Tryz.prog 7 [v] [(v, W A)] (fun r os fs => os = [] ∧ fs = [] ∧ r = .tuple #[.int .i64 ((gdx G : Nat) - 1 : Int), .int .i64 ((gdy G : Nat) - 1 : Int)]) := by
  have hf := h.gf hk (Nat.le_trans hn (by decide))
  have := gDegrees_meets v A (fun r hr => (hf.row r hr).2) hf.len (fun r hr => (hf.row r hr).1)
  rw [h.val] at this; exact this
theorem xgAdd (v w : Value) (h : Lg A G k n) (h' : Lg B H k n) (hk : k + 1 ≤ 137438953472 := by decide) (hn : n ≤ 1024 := by decide) :
    Meets Tryz.prog 14 [v, w] [(v, W A), (w, W B)] (fun r os fs => os = [] ∧ fs = [(r, wd (gadd G H))]) := by
  have := gAdd_meets v w A B k (h.gf (Nat.le_refl _) (by omega)) (h'.gf (Nat.le_refl _) (by omega)) hk
  rw [h.val, h'.val] at this; exact this
theorem xgSub (v w : Value) (h : Lg A G k n) (h' : Lg B H k n) (hk : k + 1 ≤ 137438953472 := by decide) (hn : n ≤ 1024 := by decide) :
    Meets Tryz.prog 16 [v, w] [(v, W A), (w, W B)] (fun r os fs => os = [] ∧ fs = [(r, wd (gsub G H))]) := by
  have := gSub_meets v w A B k (h.gf (Nat.le_refl _) (by omega)) (h'.gf (Nat.le_refl _) (by omega)) hk
  rw [h.val, h'.val] at this; exact this
theorem xgSame (v w : Value) (h : Lg A G k n) (h' : Lg B H k n) (hk : k + 1 ≤ 137438953472 := by decide) (hn : n ≤ 1024 := by decide) :
    Meets Tryz.prog 12 [v, w] [(v, W A), (w, W B)] (fun r os fs => os = [] ∧ fs = [] ∧ r = .bool (decide (Go.Proofs.YtfkeohlpcjpkbaaGreat.gn G = Go.Proofs.YtfkeohlpcjpkbaaGreat.gn H))) := by
  have := gSame_meets v w A B k (h.gf (Nat.le_refl _) (by omega)) (h'.gf (Nat.le_refl _) (by omega)) hk
  rw [h.val, h'.val] at this; exact this
theorem xgMul (v w : Value) (h : Lg A G k n) (h' : Lg B H j n') (hk : k + j + 1 ≤ 1073741824 := by decide) (hn : n ≤ 1024 := by decide) (hn' : n' ≤ 1024 := by decide) :
    Meets Tryz.prog 18 [v, w] [(v, W A), (w, W B)] (fun r os fs => os = [] ∧ fs = [(r, wd (gmu G H))]) := by
  have := gMul_meets v w A B k j (h.gs hn) (h'.gs hn') hk
  rw [gmuE_eq, h.val, h'.val] at this; exact this
theorem xgTurn (v : Value) (h : Lg A G k n) (hk : k ≤ 137438953472 := by decide) (hn : n ≤ 1024 := by decide) :
    Meets Tryz.prog 28 [v] [(v, W A)] (fun r os fs => os = [] ∧ fs = [(r, wd (gtu G))]) := by
  have := gTurn_meets v A (h.gf hk (by omega))
  rw [h.val] at this; exact this
theorem xgPutY (v w : Value) {y : Bool × List Nat} (h : Lg A G k n) (hy : Lim y.2) (ha : y.2.length ≤ j) (hk : k + 1048577 * (j + 1) ≤ 137438953472 := by decide) (hn : n ≤ 1024 := by decide) :
    Meets Tryz.prog 26 [v, w] [(v, W A), (w, J y)] (fun r os fs => os = [] ∧ fs = [(r, vd (gpy G (jv y)))]) := by
  have := gPutYJ v w A y k j (h.gf (Nat.le_refl _) (by omega)) hy ha hk
  rw [h.val] at this; exact this
theorem xgPutX (v w : Value) {x : Bool × List Nat} (h : Lg A G k n) (hx : Lim x.2) (ha : x.2.length ≤ j) (hk : k + 1048577 * (j + 1) ≤ 137438953472 := by decide) (hn : n ≤ 1024 := by decide) :
    Meets Tryz.prog 24 [v, w] [(v, W A), (w, J x)] (fun r os fs => os = [] ∧ fs = [(r, vd (gax G (jv x)))]) := by
  have := gPutXJ v w A x k j (h.gf (Nat.le_refl _) (by omega)) hx ha hk
  rw [h.val] at this; exact this
theorem xgValue (v w u : Value) {x y : Bool × List Nat} (h : Lg A G k n) (hx : Lim x.2) (hxa : x.2.length ≤ j) (hy : Lim y.2) (hya : y.2.length ≤ j) (hk : k + 1048577 * (j + 1) + 1048577 * (j + 1) ≤ 137438953472 := by decide) (hn : n ≤ 1024 := by decide) :
    Meets Tryz.prog 21 [v, w, u] [(v, W A), (w, J x), (u, J y)] (fun r os fs => os = [] ∧ fs = [(r, zd (gev G (jv x) (jv y)))]) := by
  have := gValueJ v w u A x y k j (h.gf (Nat.le_refl _) (by omega)) hx hxa hy hya hk
  rw [h.val] at this; exact this
theorem Lg.pb (h : Lg A G k n) (h' : Lg B H k n) (hn : 2 * n * n + 1 ≤ 268435456) (hb : pdB k n (2 * n) ≤ 137438953472) :
    PB k n (2 * n) (syX (gtu (ww A)) (gtu (ww B)) (Go.Proofs.YtfkeohlpcjpkbaaGreat.dy (ww A)) (Go.Proofs.YtfkeohlpcjpkbaaGreat.dy (ww B))) := by
  have key := fun i j => syX_b (F := gtu (ww A)) (E := gtu (ww B)) (k := k) (l := n) (fun i => by rw [h.val]; exact h.tu.g i) (fun i => by rw [h'.val]; exact h'.tu.g i) (Go.Proofs.YtfkeohlpcjpkbaaGreat.dy (ww A)) (Go.Proofs.YtfkeohlpcjpkbaaGreat.dy (ww B)) i j
  exact ⟨fun i j => (key i j).1, fun i j => (key i j).2, hn, hb⟩
theorem Lg.dy' (h : Lg A G k n) : Go.Proofs.YtfkeohlpcjpkbaaGreat.dy G ≤ n := by
  unfold Go.Proofs.YtfkeohlpcjpkbaaGreat.dy; rw [gtu_len]; have := h.dy; omega
theorem xgElim (v w : Value) (h : Lg A G k n) (h' : Lg B H k n) (hk : k ≤ 137438953472 := by decide) (hn0 : 0 < n := by decide) (hn : n ≤ 1024 := by decide) (hn2 : 2 * n * n + 1 ≤ 268435456 := by decide) (hb : pdB k n (2 * n) ≤ 137438953472 := by decide) :
    Meets Tryz.prog 31 [v, w] [(v, W A), (w, W B)] (fun r os fs => os = [] ∧ fs = [(r, vd (gel G H))]) := by
  have d1 : Go.Proofs.YtfkeohlpcjpkbaaGreat.dy (ww A) ≤ n := by rw [h.val]; exact h.dy'
  have d2 : Go.Proofs.YtfkeohlpcjpkbaaGreat.dy (ww B) ≤ n := by rw [h'.val]; exact h'.dy'
  have := gEliminate_core v w A B k n (2 * n) (h.gf (Nat.le_refl _) (by omega)) (h'.gf (Nat.le_refl _) (by omega)) hk (h.pb h' hn2 hb) (by omega) (by omega)
  rw [h.val, h'.val] at this; exact this
end
end Go.Proofs.YtfkeohlpcjpkbaaGreat

namespace Go.Proofs.YtfkeohlpcjpkbaaGreat
open Go.RowKit
instance (l : List Int) : Decidable (Nm l) := inferInstanceAs (Decidable (_ = _))
theorem sz_small (x : Int) (h : x.natAbs < 18446744073709551616) : sz x 1 := by
  unfold sz; simpa using h
theorem small_szR {l : List Int} (h : ∀ x, x ∈ l → x.natAbs < 18446744073709551616) : szR 1 l := fun x hx => by
  have := h x hx
  unfold sz; simpa using this
end Go.Proofs.YtfkeohlpcjpkbaaGreat

namespace Go.Proofs.YtfkeohlpcjpkbaaGreat
open Go.RowKit
theorem lit3_L {α : Type} {P : Program} {t e : TypeId} {size bytes : Nat} {os : List Own} {fs : List Fact} {K : Cont} [ht : TSl P t e size] [he : TEl P e size bytes] {x y z' : Value} (f : α → Dat) (z : α) (a b c : α) (hsz : size ≤ 16) (hx : Reads os fs x (f a)) (hy : Reads os fs y (f b)) (hz : Reads os fs z' (f c)) (hc : (f a).cells = size) (hc' : (f b).cells = size) (hc'' : (f c).cells = size)
    (k : ∀ v, K v os ((v, LD size f z [a, b, c]) :: fs)) : BuildSliceK P t 3 [(0, x), (1, y), (2, z')] os fs K := by
  have h1 := buildSlice_fact (P := P) (t := t) (os := os) (fs := fs) (K := fun u os' fs' => ∃ os'' fs'', Seals os' fs' os'' fs'' ∧ K u os'' fs'') (n := 3) [x, y, z'] [f a, f b, f c] rfl rfl (by decide) hsz ⟨hx, hc, hy, hc', hz, hc'', trivial⟩
  refine ⟨Grw.sealed (h1 fun v => ⟨_, _, ?_, k v⟩).out⟩
  exact Seals.knw_cong rfl fun i hi => by
    have : i = 0 ∨ i = 1 ∨ i = 2 := by omega
    rcases this with rfl | rfl | rfl <;> rfl
theorem Lg.lit (G : List (List Int)) {n : Nat} (h : G.length ≤ n) (hr : ∀ r, r ∈ G → r.length ≤ n ∧ ∀ x, x ∈ r → x.natAbs < 18446744073709551616) : Lg (Go.Proofs.YtfkeohlpcjpkbaaGreat.toW G) G 1 n :=
  Lg.told h fun r hr' => ⟨(hr r hr').1, small_szR (hr r hr').2⟩
theorem gev_lit (G : List (List Int)) (x y : Int) : gev G x y = pev (G.map fun r => pev r y) x := ev_nrm _ _
instance (G : List (List Int)) : Decidable (Gn G) := inferInstanceAs (Decidable (_ ∧ _))
theorem shown_mu : gmu [[0, 1], [1]] [[0, -1], [1]] = [[0, 0, -1], [], [1]] :=
  (gmu_gn _ _).ev_ext (by decide) fun x y => by
    rw [gev_gmu, gev_lit, gev_lit, gev_lit]; simp only [List.map, pev]; grind
theorem shown_el1 : gel [[0, 0, 1], [-1]] [[-2, 1]] = [4, -1] := by decide +kernel
theorem shown_el2 : gel [[0, 1], [1]] [[0, -1], [1]] = [0, 2] := by decide +kernel
theorem shown_ax : gax [[0, 0, -1], [], [1]] 3 = [9, 0, -1] := by decide +kernel
theorem shown_dx : gdx [[0, 0, -1], [], [1]] = 3 := by decide +kernel
theorem shown_dy : gdy [[0, 0, -1], [], [1]] = 3 := by decide +kernel
theorem exactT (v w : Value) (x y : List Int) (h : x = y) :
    Meets Tryz.prog 23 [v, w] [(v, vd x), (w, vd y)] (fun r os fs => os = [] ∧ fs = [] ∧ r = .bool true) := by
  have := exactAll_meets v w (x.map cn) (y.map cn)
  rw [decide_eq_true (by rw [h])] at this
  exact this
theorem shownG_meets : Meets Tryz.prog 4 [] [] (fun r os fs => os = [] ∧ fs = [] ∧ r = .bool true) := by
  have k1 := Lg.lit [[0, 1], [1]] (n := 4) (by decide) (by decide)
  have k2 := Lg.lit [[0, -1], [1]] (n := 4) (by decide) (by decide)
  have k3 := Lg.lit [[0, 0, 1], [-1]] (n := 4) (by decide) (by decide)
  have k4 := Lg.lit [[-2, 1]] (n := 4) (by decide) (by decide)
  have k5 := Lg.lit [[0, 0, -1], [], [1]] (n := 4) (by decide) (by decide)
  have c1 := fun v w => xgMul v w k1 k2
  have c2 := fun v w => xgElim v w k3 k4
  have c3 := fun v w => xgElim v w k1 k2
  have c4 := fun v => xgDegrees v k5
  have c5 := fun v w => xgPutX (j := 1) v w (x := cn 3) k5 (Lim_lims _) (sz_small 3 (by decide)).len
  rw [shown_mu] at c1
  rw [shown_el1] at c2
  rw [shown_el2] at c3
  rw [shown_dx, shown_dy] at c4
  rw [show jv (cn 3) = 3 from jv_cn 3, shown_ax] at c5
  refine meets_of_vc Tryz.func4 (by kernel_rfl) rfl (by kernel_rfl) (Nat.le_of_ble_eq_true rfl) ?_
  refine lit_IL [0, 1] rfl rfl (by decide) fun s1 => ?_
  refine call_fn (grow12_meets s1 [0, 1] (by decide) (by decide)) (Seals.refl _ _) (by repeat (first | exact Sub.nil _ | refine Sub.cons (by repeat (first | exact List.Mem.head _ | apply List.Mem.tail)) ?_)) ?_
  rintro y1 _ _ ⟨rfl, rfl⟩
  refine lit_IL [1] rfl rfl (by decide) fun s2 => ?_
  refine call_fn (grow12_meets s2 [1] (by decide) (by decide)) (Seals.refl _ _) (by repeat (first | exact Sub.nil _ | refine Sub.cons (by repeat (first | exact List.Mem.head _ | apply List.Mem.tail)) ?_)) ?_
  rintro y2 _ _ ⟨rfl, rfl⟩
  refine lit2_L (size := 1) (e := 37) V [] (([0, 1] : List Int).map cn) (([1] : List Int).map cn) (by decide) (Reads.fact (d := vd [0, 1]) (by repeat (first | exact List.Mem.head _ | apply List.Mem.tail))) (Reads.fact (d := vd [1]) (by repeat (first | exact List.Mem.head _ | apply List.Mem.tail))) rfl rfl fun g1 => ?_
  refine lit_IL [0, -1] rfl rfl (by decide) fun s3 => ?_
  refine call_fn (grow12_meets s3 [0, -1] (by decide) (by decide)) (Seals.refl _ _) (by repeat (first | exact Sub.nil _ | refine Sub.cons (by repeat (first | exact List.Mem.head _ | apply List.Mem.tail)) ?_)) ?_
  rintro y3 _ _ ⟨rfl, rfl⟩
  refine lit_IL [1] rfl rfl (by decide) fun s4 => ?_
  refine call_fn (grow12_meets s4 [1] (by decide) (by decide)) (Seals.refl _ _) (by repeat (first | exact Sub.nil _ | refine Sub.cons (by repeat (first | exact List.Mem.head _ | apply List.Mem.tail)) ?_)) ?_
  rintro y4 _ _ ⟨rfl, rfl⟩
  refine lit2_L (size := 1) (e := 37) V [] (([0, -1] : List Int).map cn) (([1] : List Int).map cn) (by decide) (Reads.fact (d := vd [0, -1]) (by repeat (first | exact List.Mem.head _ | apply List.Mem.tail))) (Reads.fact (d := vd [1]) (by repeat (first | exact List.Mem.head _ | apply List.Mem.tail))) rfl rfl fun g2 => ?_
  refine call_fn (c1 g1 g2) (Seals.refl _ _) (by repeat (first | exact Sub.nil _ | refine Sub.cons (by repeat (first | exact List.Mem.head _ | apply List.Mem.tail)) ?_)) ?_
  rintro m _ _ ⟨rfl, rfl⟩
  refine lit_IL [0, 0, 1] rfl rfl (by decide) fun s5 => ?_
  refine call_fn (grow12_meets s5 [0, 0, 1] (by decide) (by decide)) (Seals.refl _ _) (by repeat (first | exact Sub.nil _ | refine Sub.cons (by repeat (first | exact List.Mem.head _ | apply List.Mem.tail)) ?_)) ?_
  rintro y5 _ _ ⟨rfl, rfl⟩
  refine lit_IL [-1] rfl rfl (by decide) fun s6 => ?_
  refine call_fn (grow12_meets s6 [-1] (by decide) (by decide)) (Seals.refl _ _) (by repeat (first | exact Sub.nil _ | refine Sub.cons (by repeat (first | exact List.Mem.head _ | apply List.Mem.tail)) ?_)) ?_
  rintro y6 _ _ ⟨rfl, rfl⟩
  refine lit2_L (size := 1) (e := 37) V [] (([0, 0, 1] : List Int).map cn) (([-1] : List Int).map cn) (by decide) (Reads.fact (d := vd [0, 0, 1]) (by repeat (first | exact List.Mem.head _ | apply List.Mem.tail))) (Reads.fact (d := vd [-1]) (by repeat (first | exact List.Mem.head _ | apply List.Mem.tail))) rfl rfl fun g3 => ?_
  refine lit_IL [-2, 1] rfl rfl (by decide) fun s7 => ?_
  refine call_fn (grow12_meets s7 [-2, 1] (by decide) (by decide)) (Seals.refl _ _) (by repeat (first | exact Sub.nil _ | refine Sub.cons (by repeat (first | exact List.Mem.head _ | apply List.Mem.tail)) ?_)) ?_
  rintro y7 _ _ ⟨rfl, rfl⟩
  refine lit_L (size := 1) (e := 37) V [] (([-2, 1] : List Int).map cn) (by decide) (Reads.fact (d := vd [-2, 1]) (by repeat (first | exact List.Mem.head _ | apply List.Mem.tail))) rfl fun g4 => ?_
  refine call_fn (c2 g3 g4) (Seals.refl _ _) (by repeat (first | exact Sub.nil _ | refine Sub.cons (by repeat (first | exact List.Mem.head _ | apply List.Mem.tail)) ?_)) ?_
  rintro p _ _ ⟨rfl, rfl⟩
  refine call_fn (c4 m) (Seals.refl _ _) (by repeat (first | exact Sub.nil _ | refine Sub.cons (by repeat (first | exact List.Mem.head _ | apply List.Mem.tail)) ?_)) ?_
  rintro _ _ _ ⟨rfl, rfl, rfl⟩
  refine lit_IL [0, 0, -1] rfl rfl (by decide) fun s8 => ?_
  refine call_fn (grow12_meets s8 [0, 0, -1] (by decide) (by decide)) (Seals.refl _ _) (by repeat (first | exact Sub.nil _ | refine Sub.cons (by repeat (first | exact List.Mem.head _ | apply List.Mem.tail)) ?_)) ?_
  rintro y8 _ _ ⟨rfl, rfl⟩
  refine call_fn (grow12_meets (.slice none 0 0) [] (by decide) (by decide)) (Seals.cons (Knw.nil 1 _) (Seals.refl _ _)) (by repeat (first | exact Sub.nil _ | refine Sub.cons (by repeat (first | exact List.Mem.head _ | apply List.Mem.tail)) ?_)) ?_
  rintro y9 _ _ ⟨rfl, rfl⟩
  refine lit_IL [1] rfl rfl (by decide) fun s10 => ?_
  refine call_fn (grow12_meets s10 [1] (by decide) (by decide)) (Seals.refl _ _) (by repeat (first | exact Sub.nil _ | refine Sub.cons (by repeat (first | exact List.Mem.head _ | apply List.Mem.tail)) ?_)) ?_
  rintro y10 _ _ ⟨rfl, rfl⟩
  refine lit3_L (size := 1) (e := 37) V [] (([0, 0, -1] : List Int).map cn) (([] : List Int).map cn) (([1] : List Int).map cn) (by decide) (Reads.fact (d := vd [0, 0, -1]) (by repeat (first | exact List.Mem.head _ | apply List.Mem.tail))) (Reads.fact (d := vd []) (by repeat (first | exact List.Mem.head _ | apply List.Mem.tail))) (Reads.fact (d := vd [1]) (by repeat (first | exact List.Mem.head _ | apply List.Mem.tail))) rfl rfl rfl fun g5 => ?_
  refine call_fn (gsameT m g5 _ _ rfl) (Seals.refl _ _) (by repeat (first | exact Sub.nil _ | refine Sub.cons (by repeat (first | exact List.Mem.head _ | apply List.Mem.tail)) ?_)) ?_
  rintro _ _ _ ⟨rfl, rfl, rfl⟩
  refine cmp_true rfl (by decide) ?_
  refine cmp_true rfl (by decide) ?_
  refine call_fn (rOf_meets 3 (by decide) (by decide)) (Seals.refl _ _) (by repeat (first | exact Sub.nil _ | refine Sub.cons (by repeat (first | exact List.Mem.head _ | apply List.Mem.tail)) ?_)) ?_
  rintro y11 _ _ ⟨rfl, rfl⟩
  refine call_fn (c5 m y11) (Seals.refl _ _) (by repeat (first | exact Sub.nil _ | refine Sub.cons (by repeat (first | exact List.Mem.head _ | apply List.Mem.tail)) ?_)) ?_
  rintro y12 _ _ ⟨rfl, rfl⟩
  refine lit_IL [9, 0, -1] rfl rfl (by decide) fun s13 => ?_
  refine call_fn (grow12_meets s13 [9, 0, -1] (by decide) (by decide)) (Seals.refl _ _) (by repeat (first | exact Sub.nil _ | refine Sub.cons (by repeat (first | exact List.Mem.head _ | apply List.Mem.tail)) ?_)) ?_
  rintro y13 _ _ ⟨rfl, rfl⟩
  refine call_fn (exactT y12 y13 _ _ rfl) (Seals.refl _ _) (by repeat (first | exact Sub.nil _ | refine Sub.cons (by repeat (first | exact List.Mem.head _ | apply List.Mem.tail)) ?_)) ?_
  rintro _ _ _ ⟨rfl, rfl, rfl⟩
  refine call_fn (c3 g1 g2) (Seals.refl _ _) (by repeat (first | exact Sub.nil _ | refine Sub.cons (by repeat (first | exact List.Mem.head _ | apply List.Mem.tail)) ?_)) ?_
  rintro y14 _ _ ⟨rfl, rfl⟩
  refine lit_IL [0, 2] rfl rfl (by decide) fun s15 => ?_
  refine call_fn (grow12_meets s15 [0, 2] (by decide) (by decide)) (Seals.refl _ _) (by repeat (first | exact Sub.nil _ | refine Sub.cons (by repeat (first | exact List.Mem.head _ | apply List.Mem.tail)) ?_)) ?_
  rintro y15 _ _ ⟨rfl, rfl⟩
  refine call_fn (exactT y14 y15 _ _ rfl) (Seals.refl _ _) (by repeat (first | exact Sub.nil _ | refine Sub.cons (by repeat (first | exact List.Mem.head _ | apply List.Mem.tail)) ?_)) ?_
  rintro _ _ _ ⟨rfl, rfl, rfl⟩
  refine lit_IL [4, -1] rfl rfl (by decide) fun s16 => ?_
  refine call_fn (grow12_meets s16 [4, -1] (by decide) (by decide)) (Seals.refl _ _) (by repeat (first | exact Sub.nil _ | refine Sub.cons (by repeat (first | exact List.Mem.head _ | apply List.Mem.tail)) ?_)) ?_
  rintro y16 _ _ ⟨rfl, rfl⟩
  refine call_fn (exactT p y16 _ _ rfl) (Seals.refl _ _) (by repeat (first | exact Sub.nil _ | refine Sub.cons (by repeat (first | exact List.Mem.head _ | apply List.Mem.tail)) ?_)) ?_
  rintro _ _ _ ⟨rfl, rfl, rfl⟩
  exact fin ⟨rfl, rfl, rfl⟩ (Seals.nil _ _)
end Go.Proofs.YtfkeohlpcjpkbaaGreat

namespace Go.Proofs.YtfkeohlpcjpkbaaGreat
open Go.ChangeShapes Go.WideShapes Go.ChangeAt Go.RowKit
section
variable {H : Type} {enc : TypeId × Value → H} {w : World} {base : Nat} {spare : Nat → Bool} {held : Bool}
theorem rd_grid {fuel : Nat} {cs : List Value} {x : DataW H × List MemPlace} (h : DataW.trod enc Tryz.prog w base spare held fuel 23 cs = some x) : ∃ m : List Row, limM m ∧ RdC (fun b => b < w.heap.size) w (W m) cs := by
  obtain ⟨l, h1, h2⟩ := rd_slice (size := 1) V [] (fun r => ∀ y, y ∈ r → Lim y.2) Tryz.underlying23 (by kernel_rfl) (by decide) (fun n cs x _ h => rd_row h) h
  exact ⟨l, h1, h2⟩
end
end Go.Proofs.YtfkeohlpcjpkbaaGreat

namespace Go.Proofs.YtfkeohlpcjpkbaaGreat
theorem gdx_some {G : List (List Int)} {n : Nat} (h : gdx G = n + 1) : dg (G.getD n []) ≠ 0 := by
  have key : ∀ m, gdxN G m = n + 1 → dg (G.getD n []) ≠ 0 := fun m => by
    induction m with
    | zero => intro h; simp [gdxN] at h
    | succ m ih =>
      intro h
      simp only [gdxN] at h
      split at h
      · exact ih h
      · rename_i h0
        have : m = n := by omega
        rw [← this]; exact h0
  exact key _ h
theorem gn_eq (G : List (List Int)) : gn G = (List.range (gdx G)).map fun i => nrm (G.getD i []) := by
  have hlen : ((List.range (gdx G)).map fun i => nrm (G.getD i [])).length = gdx G := by simp
  refine (gn_gn G).ext ⟨?_, fun r hr => ?_⟩ fun i j => ?_
  · cases hx : gdx G with
    | zero => rfl
    | succ n =>
      rw [List.range_succ, List.map_append]
      exact gtr_snoc_ne (fun e => gdx_some hx (by unfold dg; rw [show nrm (G.getD n []) = [] from e]; rfl)) _
  · obtain ⟨i, _, rfl⟩ := List.mem_map.1 hr
    exact Nm.nrm _
  · rw [gn_gv]
    by_cases h : i < gdx G
    · show _ = (((List.range (gdx G)).map fun i => nrm (G.getD i [])).getD i []).getD j 0
      rw [show ((List.range (gdx G)).map fun i => nrm (G.getD i [])).getD i [] = nrm (G.getD i []) by simp [List.getD_eq_getElem?_getD, h], co_nrm]
      rfl
    · rw [gv_zero (by omega)]
      show _ = (((List.range (gdx G)).map fun i => nrm (G.getD i [])).getD i []).getD j 0
      rw [getD_end (l := (List.range (gdx G)).map fun i => nrm (G.getD i [])) (by omega)]; rfl
theorem padd_nrm (l m : List Int) : padd (nrm l) (nrm m) = padd l m := (padd_nm _ _).ext (padd_nm _ _) fun x => by rw [ev_padd, ev_padd, ev_nrm, ev_nrm]
theorem psub_nrm (l m : List Int) : psub (nrm l) (nrm m) = psub l m := (psub_nm _ _).ext (psub_nm _ _) fun x => by rw [ev_psub, ev_psub, ev_nrm, ev_nrm]
/-- The products that come to the power i. -/
def pco (G H : List (List Int)) (i : Nat) : Nat → List Int
  | 0 => []
  | k + 1 => padd (pco G H i k) (pmul (nrm (G.getD k [])) (nrm (H.getD (i - k) [])))
theorem pco_ev (G H : List (List Int)) (i k : Nat) (y : Int) : pev (pco G H i k) y = isum (fun t => pev (G.getD t []) y * pev (H.getD (i - t) []) y) k := by
  induction k with
  | zero => rfl
  | succ k ih => rw [pco, ev_padd, ev_pmul, ev_nrm, ev_nrm, ih]; rfl
theorem conv_all : ∀ (a : List Int) (b : List Int) (x : Int), pev (lst (a.length + b.length) fun i => isum (fun k => a.getD k 0 * b.getD (i - k) 0) (i + 1)) x = pev a x * pev b x
  | [], b, x => by
    rw [lst_congr (g := fun _ => 0) fun i _ => isum_zero fun k _ => by simp, ev_lst_zero]
    simp [pev]
  | c :: a, b, x => by
    have ih := conv_all a b x
    rw [List.length_cons, Nat.add_right_comm, lst_congr (g := fun i => c * b.getD i 0 + if i = 0 then 0 else isum (fun k => a.getD k 0 * b.getD (i - 1 - k) 0) (i - 1 + 1)) fun i _ => by
      rw [isum_front]
      congr 1
      cases i with
      | zero => rfl
      | succ i =>
        rw [if_neg (by omega)]
        exact isum_congr fun k _ => by rw [List.getD_cons_succ, show i + 1 - (k + 1) = i + 1 - 1 - k by omega],
      ev_lst_add, ev_lst_mul, ev_lst_succ (a.length + b.length) (fun i => if i = 0 then 0 else isum (fun k => a.getD k 0 * b.getD (i - 1 - k) 0) (i - 1 + 1)),
      lst_congr (f := fun i => if i + 1 = 0 then 0 else isum (fun k => a.getD k 0 * b.getD (i + 1 - 1 - k) 0) (i + 1 - 1 + 1)) (g := fun i => isum (fun k => a.getD k 0 * b.getD (i - k) 0) (i + 1)) fun i _ => by rw [if_neg (by omega)]; rfl,
      ih, ev_lst (by omega)]
    simp only [pev]
    rw [if_pos trivial]
    grind
def gcl (G H : List (List Int)) : List (List Int) := (List.range (G.length + H.length)).map fun i => pco G H i (i + 1)
theorem gcl_mu (G H : List (List Int)) : gn (gcl G H) = gmu G H := (gn_gn _).ev_ext (gmu_gn _ _) fun x y => by
  rw [gev_gn, gev_gmu]
  have e : ∀ G : List (List Int), gev G x y = pev (G.map fun r => pev r y) x := fun G => ev_nrm _ _
  rw [e, e, e, ← conv_all]
  unfold gcl
  rw [List.map_map, List.length_map, List.length_map]
  congr 1
  refine List.map_congr_left fun i _ => ?_
  show pev (pco G H i (i + 1)) y = _
  rw [pco_ev]
  have g : ∀ (G : List (List Int)) k, (G.map fun r => pev r y).getD k 0 = pev (G.getD k []) y := fun G k => by
    by_cases h : k < G.length
    · simp [List.getD_eq_getElem?_getD, h]
    · rw [getD_end (l := G.map fun r => pev r y) (by rw [List.length_map]; omega), getD_end (l := G) (by omega)]; rfl
  exact isum_congr fun k _ => by rw [g, g]
/-- A grid at x, row by row. -/
def pxs (G : List (List Int)) (x : Int) : Nat → List Int
  | 0 => []
  | k + 1 => padd (pxs G x k) (ptim (x ^ k) (G.getD k []))
theorem pxs_nm (G : List (List Int)) (x : Int) (k : Nat) : Nm (pxs G x k) := by
  cases k with
  | zero => exact Nm.nil
  | succ k => exact padd_nm _ _
theorem pxs_ev (G : List (List Int)) (x y : Int) (k : Nat) : pev (pxs G x k) y = isum (fun i => x ^ i * pev (G.getD i []) y) k := by
  induction k with
  | zero => rfl
  | succ k ih => rw [pxs, ev_padd, ev_ptim, ih]; rfl
theorem pxs_all (G : List (List Int)) (x : Int) : pxs G x G.length = gax G x := (pxs_nm _ _ _).ext (Nm.nrm _) fun y => by
  rw [pxs_ev]
  show _ = pev (gax G x) y
  rw [gax_ev]
  have e : gev G x y = pev (lst G.length fun i => pev (G.getD i []) y) x := by
    rw [show gev G x y = pev (G.map fun r => pev r y) x from ev_nrm _ _]
    congr 1
    refine row_eq_of_getD 0 (by rw [lst_len, List.length_map]) fun i hi => ?_
    rw [List.length_map] at hi
    rw [lst_get hi]
    simp [List.getD_eq_getElem?_getD, hi]
  rw [e, ev_xsum]
end Go.Proofs.YtfkeohlpcjpkbaaGreat

namespace Go.Proofs.YtfkeohlpcjpkbaaGreat
open Go.RowKit
end Go.Proofs.YtfkeohlpcjpkbaaGreat

namespace Go.Proofs.YtfkeohlpcjpkbaaGreat
open Go.RowKit
end Go.Proofs.YtfkeohlpcjpkbaaGreat

namespace Go.Proofs.YtfkeohlpcjpkbaaGreat
open Go.RowKit
/-- What parts tells. -/
structure PartSpec (p q T R : List Int) (ok : Bool) : Prop where
  yes : ok = true → Nm T ∧ Nm R ∧ dg R < dg q ∧ ∀ x, pev p x = pev q x * pev T x + pev R x
  no : ok = false → T = [] ∧ R = [] ∧ ¬ ∃ T' R' : List Int, dg R' < dg q ∧ ∀ x, pev p x = pev q x * pev T' x + pev R' x
end Go.Proofs.YtfkeohlpcjpkbaaGreat

namespace Go.Proofs.YtfkeohlpcjpkbaaGreat
open Go.RowKit
end Go.Proofs.YtfkeohlpcjpkbaaGreat

namespace Go.Proofs.YtfkeohlpcjpkbaaGreat
open Go.RowKit
theorem empty_F {α : Type} {P : Program} {t e : TypeId} {size bytes : Nat} {os : List Own} {fs : List Fact} {K : Cont} [ht : TSl P t e size] [he : TEl P e size bytes] (f : α → Dat) (z : α) (hsz : size ≤ 16)
    (k : ∀ v, K v os ((v, LD size f z []) :: fs)) : BuildSliceK P t 0 [] os fs K := by
  have h1 := buildSlice_fact (P := P) (t := t) (os := os) (fs := fs) (K := fun u os' fs' => ∃ os'' fs'', Seals os' fs' os'' fs'' ∧ K u os'' fs'') (n := 0) [] [] rfl rfl (by decide) hsz trivial
  refine ⟨Grw.sealed (h1 fun v => ⟨_, _, ?_, k v⟩).out⟩
  exact Seals.knw_cong rfl fun i hi => by omega
theorem rDegrees12_meets (v : Value) (g : List Row) (hk : ∀ r, r ∈ g → Fit 137438953472 r) (lg : g.length ≤ 1048576) (hl : ∀ r, r ∈ g → r.length ≤ 1048576) :
    Meets Tryz.prog 8 [v] [(v, W g)] (fun r os fs => os = [] ∧ fs = [] ∧ r = .tuple #[.int .i64 ((gdx (ww g) : Nat) - 1 : Int), .int .i64 ((gdy (ww g) : Nat) - 1 : Int)]) := by
  have hdy : ∀ n, gdyN (ww g) n ≤ 1048576 := gdyN_le fun i => by
    rw [ww_get]
    refine Nat.le_trans (dg_le_len _) ?_
    rw [vv_len]
    by_cases hi : i < g.length
    · exact hl _ (getD_mem [] hi)
    · rw [getD_end (l := g) (by omega)]; exact Nat.zero_le _
  refine meets_of_vc Tryz.func8 (by kernel_rfl) rfl (by kernel_rfl) (Nat.le_of_ble_eq_true rfl) ?_
  refine loop_rule (X := Nat) (fun i => ([(0, v), (4, .int .i64 ((gdxN (ww g) i : Nat) - 1 : Int)), (5, .int .i64 ((gdyN (ww g) i : Nat) - 1 : Int)), (6, .int .i64 (i : Nat))], [], [(v, W g)])) (fun i => i ≤ g.length) (fun i => g.length - i) rfl ?_ ?_
  · exact again 0 (Nat.zero_le _) trivial (by repeat (first | exact trivial | refine ⟨rfl, ?_⟩ | refine ⟨i64_eq (by first | omega | (simp only; omega)), ?_⟩ | refine ⟨u64_eq (by first | omega | (simp only; omega)), ?_⟩)) (Seals.sub (by repeat (first | exact Sub.nil _ | refine Sub.cons (by repeat (first | exact List.Mem.head _ | apply List.Mem.tail)) ?_)))
  · rintro i hi
    refine len_fact (by repeat (first | exact List.Mem.head _ | apply List.Mem.tail)) fun _ => ?_
    refine cmp_split _ rfl (fun hlt => ?_) (fun hlt => ?_)
    · have hin : i < g.length := by omega
      have hx := gdxN_le (ww g) i
      have hy := hdy i
      have hx1 : gdxN (ww g) (i + 1) = if dg ((ww g).getD i []) = 0 then gdxN (ww g) i else i + 1 := rfl
      have hy1 : gdyN (ww g) (i + 1) = max (gdyN (ww g) i) (dg ((ww g).getD i [])) := rfl
      have hrm := getD_mem (l := g) [] hin
      have c1 := fun u => rDegreeN u (g.getD i []) ((hk _ hrm).mono (by decide))
      rw [ww_get] at hx1 hy1
      have hd : dg (vv (g.getD i [])) ≤ 1048576 := Nat.le_trans (dg_le_len _) (by rw [vv_len]; exact hl _ hrm)
      generalize dg (vv (g.getD i [])) = d at *
      refine index_fact (by repeat (first | exact List.Mem.head _ | apply List.Mem.tail)) i rfl hin fun b1 => ?_
      refine load_fact (d := V (g.getD i [])) (by repeat (first | exact List.Mem.head _ | apply List.Mem.tail)) (show TOne Tryz.prog 37 from inferInstance) fun u => ?_
      refine call_fn (c1 u) (Seals.refl _ _) (by repeat (first | exact Sub.nil _ | refine Sub.cons (by repeat (first | exact List.Mem.head _ | apply List.Mem.tail)) ?_)) ?_
      rintro _ _ _ ⟨rfl, rfl, rfl⟩
      refine cmp_split _ rfl (fun h0 => ?_) (fun h0 => ?_)
      · refine max2_rule ?_
        refine ar rfl (by first | exact ⟨by omega, by omega⟩ | (simp only [inK]; omega)) ?_
        refine again (i + 1) (by omega) (by simp only; omega) (by
          refine ⟨rfl, i64_eq ?_, i64_eq ?_, i64_eq (by omega), trivial⟩
          · rw [hx1, if_neg (by omega)]; omega
          · rw [hy1]; omega) (Seals.sub (by repeat (first | exact Sub.nil _ | refine Sub.cons (by repeat (first | exact List.Mem.head _ | apply List.Mem.tail)) ?_)))
      · refine max2_rule ?_
        refine ar rfl (by first | exact ⟨by omega, by omega⟩ | (simp only [inK]; omega)) ?_
        refine again (i + 1) (by omega) (by simp only; omega) (by
          refine ⟨rfl, i64_eq ?_, i64_eq ?_, i64_eq (by omega), trivial⟩
          · rw [hx1, if_pos (by omega)]
          · rw [hy1]; omega) (Seals.sub (by repeat (first | exact Sub.nil _ | refine Sub.cons (by repeat (first | exact List.Mem.head _ | apply List.Mem.tail)) ?_)))
    · have hip : i = g.length := by omega
      subst hip
      refine fin ⟨rfl, rfl, ?_⟩ (Seals.nil _ _)
      unfold gdx gdy
      rw [ww_len]
      rfl
theorem gtu_eq (G : List (List Int)) : gtu G = (List.range (gdy G)).map fun j => nrm (lst (gdx G) fun i => gv G i j) := by
  refine row_eq_of_getD [] (by rw [gtu_len]; simp) fun i hi => ?_
  rw [gtu_len] at hi
  unfold gtu gof
  rw [gtr_getD]
theorem rTurn12_meets (v : Value) (g : List Row) (h : Gf 137438953472 g) :
    Meets Tryz.prog 29 [v] [(v, W g)] (fun r os fs => os = [] ∧ fs = [(r, wd (gtu (ww g)))]) := by
  have c1 := rDegrees12_meets v g (fun r hr => (h.row r hr).2) h.len (fun r hr => (h.row r hr).1)
  have hdx := h.dx
  have hdy := h.dy
  have hgx : gdx (ww g) ≤ g.length := Nat.le_trans (gdxN_le _ _) (by rw [ww_len]; exact Nat.le_refl _)
  have hgv := fun i j => gv_ww g i j
  have hval : ∀ i j, (vv (g.getD i [])).getD j 0 = gv (ww g) i j := fun i j => by
    show _ = ((ww g).getD i []).getD j 0
    rw [ww_get]
  have hsz := fun i j => h.gv i j
  rw [gtu_eq]
  have hat := fun u i j => rAtN u (g.getD i []) ((h.get i).2.mono (by decide)) j
  simp only [hval] at hat
  generalize gv (ww g) = F at *
  generalize gdx (ww g) = a at *
  generalize gdy (ww g) = b at *
  refine meets_of_vc Tryz.func29 (by kernel_rfl) rfl (by kernel_rfl) (Nat.le_of_ble_eq_true rfl) ?_
  refine call_fn c1 (Seals.refl _ _) (by repeat (first | exact Sub.nil _ | refine Sub.cons (by repeat (first | exact List.Mem.head _ | apply List.Mem.tail)) ?_)) ?_
  rintro _ _ _ ⟨rfl, rfl, rfl⟩
  refine empty_L (size := 1) (e := 37) V [] (by decide) fun w hw => ?_
  refine loop_rule (X := Nat × Value) (fun x => ([(0, v), (3, .int .i64 ((a : Nat) - 1 : Int)), (4, .int .i64 ((b : Nat) - 1 : Int)), (5, x.2), (6, .int .i64 (x.1 : Nat))], [ownL 1 V [] x.2 (toW ((List.range x.1).map fun j => nrm (lst a fun i => F i j)))], [(v, W g)])) (fun x => x.1 ≤ b ∧ isSl x.2) (fun x => b - x.1) rfl ?_ ?_
  · exact again (0, w) ⟨Nat.zero_le _, hw⟩ trivial (by repeat (first | exact trivial | refine ⟨rfl, ?_⟩ | refine ⟨i64_eq (by first | omega | (simp only; omega)), ?_⟩ | refine ⟨u64_eq (by first | omega | (simp only; omega)), ?_⟩)) (Seals.sub (by repeat (first | exact Sub.nil _ | refine Sub.cons (by repeat (first | exact List.Mem.head _ | apply List.Mem.tail)) ?_)))
  · rintro ⟨j, w⟩ ⟨h1, hw⟩
    simp only at h1 hw ⊢
    refine cmp_split _ rfl (fun hj => ?_) (fun hj => ?_)
    · have hjb : j < b := by omega
      refine empty_L (size := 2) (e := 26) J z0 (by decide) fun w0 hw0 => ?_
      refine loop_rule (X := Nat × Value) (fun x => ([(0, v), (3, .int .i64 ((a : Nat) - 1 : Int)), (4, .int .i64 ((b : Nat) - 1 : Int)), (5, w), (6, .int .i64 (j : Nat)), (7, x.2), (8, .int .i64 (x.1 : Nat))], [ownL 2 J z0 x.2 ((lst x.1 fun i => F i j).map cn), ownL 1 V [] w (toW ((List.range j).map fun j => nrm (lst a fun i => F i j)))], [(v, W g)])) (fun x => x.1 ≤ a ∧ isSl x.2) (fun x => a - x.1) rfl ?_ ?_
      · exact again (0, w0) ⟨Nat.zero_le _, hw0⟩ trivial (by repeat (first | exact trivial | refine ⟨rfl, ?_⟩ | refine ⟨i64_eq (by first | omega | (simp only; omega)), ?_⟩ | refine ⟨u64_eq (by first | omega | (simp only; omega)), ?_⟩)) (Seals.sub (by repeat (first | exact Sub.nil _ | refine Sub.cons (by repeat (first | exact List.Mem.head _ | apply List.Mem.tail)) ?_)))
      · rintro ⟨i, w1⟩ ⟨h2, hw1⟩
        simp only at h2 hw1 ⊢
        refine cmp_split _ rfl (fun hi => ?_) (fun hi => ?_)
        · have hia : i < a := by omega
          have hll : (lst i fun i => F i j).length = i := lst_len _ _
          refine index_fact (by repeat (first | exact List.Mem.head _ | apply List.Mem.tail)) i rfl (by omega) fun b1 => ?_
          refine load_fact (d := V (g.getD i [])) (by repeat (first | exact List.Mem.head _ | apply List.Mem.tail)) (show TOne Tryz.prog 37 from inferInstance) fun u => ?_
          refine call_fn (hat u i j) (Seals.refl _ _) (by repeat (first | exact Sub.nil _ | refine Sub.cons (by repeat (first | exact List.Mem.head _ | apply List.Mem.tail)) ?_)) ?_
          rintro y _ _ ⟨rfl, rfl⟩
          refine lit_L (size := 2) (f := J) (z := z0) (e := 26) (cn (F i j)) (by decide) (Reads.fact (by repeat (first | exact List.Mem.head _ | apply List.Mem.tail))) rfl fun y4 => ?_
          refine append_L (size := 2) (e := 26) (f := J) (z := z0) (l := (lst i fun i => F i j).map cn) (m := [cn (F i j)]) 0 rfl hw1 (Knw.fact (by repeat (first | exact List.Mem.head _ | apply List.Mem.tail))) (by simp only [List.length_map, hll, List.length_cons, List.length_nil]; omega) (by simp only [List.length_map, hll, List.length_cons, List.length_nil]; omega) fun vn hvn => ?_
          refine ar rfl (by first | exact ⟨by omega, by omega⟩ | (simp only [inK]; omega)) ?_
          refine again (i + 1, vn) ⟨by simp only; omega, hvn⟩ (by simp only; omega) (by repeat (first | exact trivial | refine ⟨rfl, ?_⟩ | refine ⟨i64_eq (by first | omega | (simp only; omega)), ?_⟩ | refine ⟨u64_eq (by first | omega | (simp only; omega)), ?_⟩)) ?_
          rw [show (lst i fun i => F i j).map cn ++ [cn (F i j)] = (lst (i + 1) fun i => F i j).map cn by rw [lst_snoc, List.map_append]; rfl]
          exact Seals.sub (by repeat (first | exact Sub.nil _ | refine Sub.cons (by repeat (first | exact List.Mem.head _ | apply List.Mem.tail)) ?_))
        · have hia : i = a := by omega
          subst hia
          refine call_fn (rNormT w1 (lst i fun i => F i j) (szR.lst fun i _ => hsz i j) (by rw [lst_len]; omega)) (Seals.toldL hw1) (by repeat (first | exact Sub.nil _ | refine Sub.cons (by repeat (first | exact List.Mem.head _ | apply List.Mem.tail)) ?_)) ?_
          rintro r _ _ ⟨rfl, rfl⟩
          refine lit_L (size := 1) (e := 37) V [] ((nrm (lst i fun i => F i j)).map cn) (by decide) (Reads.fact (by repeat (first | exact List.Mem.head _ | apply List.Mem.tail))) rfl fun l1 => ?_
          refine append_L (size := 1) (e := 37) 0 rfl hw (Knw.fact (by repeat (first | exact List.Mem.head _ | apply List.Mem.tail))) (by simp; omega) (by simp; omega) fun w2 hw2 => ?_
          refine ar rfl (by first | exact ⟨by omega, by omega⟩ | (simp only [inK]; omega)) ?_
          refine again (j + 1, w2) ⟨by simp only; omega, hw2⟩ (by simp only; omega) (by repeat (first | exact trivial | refine ⟨rfl, ?_⟩ | refine ⟨i64_eq (by first | omega | (simp only; omega)), ?_⟩ | refine ⟨u64_eq (by first | omega | (simp only; omega)), ?_⟩)) ?_
          rw [show toW ((List.range (j + 1)).map fun j => nrm (lst i fun i => F i j)) = toW ((List.range j).map fun j => nrm (lst i fun i => F i j)) ++ [(nrm (lst i fun i => F i j)).map cn] by simp [List.range_succ]]
          exact Seals.sub (by repeat (first | exact Sub.nil _ | refine Sub.cons (by repeat (first | exact List.Mem.head _ | apply List.Mem.tail)) ?_))
    · have hjb : j = b := by omega
      subst hjb
      exact fin ⟨rfl, rfl⟩ (Seals.trans (Seals.L 0 rfl hw) (Seals.sub (by repeat (first | exact Sub.nil _ | refine Sub.cons (by repeat (first | exact List.Mem.head _ | apply List.Mem.tail)) ?_))))
/-- A row of polynomials; rows of them. -/
def PR (r : List (List Int)) : Dat := LD 1 vd [] r
def PM (M : List (List (List Int))) : Dat := LD 1 PR [] M
end Go.Proofs.YtfkeohlpcjpkbaaGreat

namespace Go.Proofs.YtfkeohlpcjpkbaaGreat
open Go.RowKit
section
variable {A B : List Row} {G H : List (List Int)} {k n : Nat}
theorem rRow12_meets (v : Value) (i : Nat) (h : Lg A G k n) (hk : k ≤ 137438953472 := by decide) (hn : n ≤ 1024 := by decide) :
    Meets Tryz.prog 40 [v, .int .i64 (i : Nat)] [(v, W A)] (fun r os fs => os = [] ∧ fs = [(r, vd (nrm (G.getD i [])))]) := by
  have hval : vv (A.getD i []) = G.getD i [] := by rw [← h.val, ww_get]
  have hlen := h.len
  refine meets_of_vc Tryz.func40 (by kernel_rfl) rfl (by kernel_rfl) (Nat.le_of_ble_eq_true rfl) ?_
  refine cmp_false rfl (by omega) ?_
  refine len_fact (by repeat (first | exact List.Mem.head _ | apply List.Mem.tail)) fun _ => ?_
  refine cmp_split _ rfl (fun hge => ?_) (fun hge => ?_)
  · refine empty_F (size := 2) (e := 26) J z0 (by decide) fun e0 => ?_
    rw [← hval, getD_end (l := A) (by omega)]
    exact fin ⟨rfl, rfl⟩ (Seals.sub (by repeat (first | exact Sub.nil _ | refine Sub.cons (by repeat (first | exact List.Mem.head _ | apply List.Mem.tail)) ?_)))
  · have hi : i < A.length := by omega
    have hr := h.row _ (getD_mem [] hi)
    refine index_fact (by repeat (first | exact List.Mem.head _ | apply List.Mem.tail)) i rfl hi fun b1 => ?_
    refine load_fact (d := V (A.getD i [])) (by repeat (first | exact List.Mem.head _ | apply List.Mem.tail)) (show TOne Tryz.prog 37 from inferInstance) fun u => ?_
    refine call_fn (rNormP_meets u (A.getD i []) (hr.2.mono hk) (by omega)) (Seals.refl _ _) (by repeat (first | exact Sub.nil _ | refine Sub.cons (by repeat (first | exact List.Mem.head _ | apply List.Mem.tail)) ?_)) ?_
    rintro r _ _ ⟨rfl, rfl⟩
    rw [hval]
    exact fin ⟨rfl, rfl⟩ (Seals.sub (by repeat (first | exact Sub.nil _ | refine Sub.cons (by repeat (first | exact List.Mem.head _ | apply List.Mem.tail)) ?_)))
theorem rNorm12_meets (v : Value) (h : Lg A G k n) (hk : k ≤ 137438953472 := by decide) (hn : n ≤ 1024 := by decide) :
    Meets Tryz.prog 11 [v] [(v, W A)] (fun r os fs => os = [] ∧ fs = [(r, wd (gn G))]) := by
  have hf := h.gf hk (Nat.le_trans hn (by decide))
  have c1 := rDegrees12_meets v A (fun r hr => (hf.row r hr).2) hf.len (fun r hr => (hf.row r hr).1)
  have c2 := fun i => rRow12_meets v i h hk hn
  rw [h.val] at c1
  have hx : gdx G ≤ 1024 := Nat.le_trans h.dx hn
  have hy : gdy G ≤ 1024 := Nat.le_trans h.dy hn
  rw [gn_eq]
  generalize gdx G = a at *
  generalize gdy G = b at *
  refine meets_of_vc Tryz.func11 (by kernel_rfl) rfl (by kernel_rfl) (Nat.le_of_ble_eq_true rfl) ?_
  refine call_fn c1 (Seals.refl _ _) (by repeat (first | exact Sub.nil _ | refine Sub.cons (by repeat (first | exact List.Mem.head _ | apply List.Mem.tail)) ?_)) ?_
  rintro _ _ _ ⟨rfl, rfl, rfl⟩
  refine empty_L (size := 1) (e := 37) V [] (by decide) fun w hw => ?_
  refine loop_rule (X := Nat × Value) (fun x => ([(0, v), (3, .int .i64 ((a : Nat) - 1 : Int)), (5, x.2), (6, .int .i64 (x.1 : Nat))], [ownL 1 V [] x.2 (toW ((List.range x.1).map fun i => nrm (G.getD i [])))], [(v, W A)])) (fun x => x.1 ≤ a ∧ isSl x.2) (fun x => a - x.1) rfl ?_ ?_
  · exact again (0, w) ⟨Nat.zero_le _, hw⟩ trivial (by repeat (first | exact trivial | refine ⟨rfl, ?_⟩ | refine ⟨i64_eq (by first | omega | (simp only; omega)), ?_⟩ | refine ⟨u64_eq (by first | omega | (simp only; omega)), ?_⟩)) (Seals.sub (by repeat (first | exact Sub.nil _ | refine Sub.cons (by repeat (first | exact List.Mem.head _ | apply List.Mem.tail)) ?_)))
  · rintro ⟨i, w⟩ ⟨h1, hw⟩
    simp only at h1 hw ⊢
    refine cmp_split _ rfl (fun hi => ?_) (fun hi => ?_)
    · have hia : i < a := by omega
      refine call_fn (c2 i) (Seals.refl _ _) (by repeat (first | exact Sub.nil _ | refine Sub.cons (by repeat (first | exact List.Mem.head _ | apply List.Mem.tail)) ?_)) ?_
      rintro r _ _ ⟨rfl, rfl⟩
      refine lit_L (size := 1) (e := 37) V [] ((nrm (G.getD i [])).map cn) (by decide) (Reads.fact (by repeat (first | exact List.Mem.head _ | apply List.Mem.tail))) rfl fun l1 => ?_
      refine append_L (size := 1) (e := 37) 0 rfl hw (Knw.fact (by repeat (first | exact List.Mem.head _ | apply List.Mem.tail))) (by simp; omega) (by simp; omega) fun w2 hw2 => ?_
      refine ar rfl (by first | exact ⟨by omega, by omega⟩ | (simp only [inK]; omega)) ?_
      refine again (i + 1, w2) ⟨by simp only; omega, hw2⟩ (by simp only; omega) (by repeat (first | exact trivial | refine ⟨rfl, ?_⟩ | refine ⟨i64_eq (by first | omega | (simp only; omega)), ?_⟩ | refine ⟨u64_eq (by first | omega | (simp only; omega)), ?_⟩)) ?_
      rw [show toW ((List.range (i + 1)).map fun i => nrm (G.getD i [])) = toW ((List.range i).map fun i => nrm (G.getD i [])) ++ [(nrm (G.getD i [])).map cn] by simp [List.range_succ]]
      exact Seals.sub (by repeat (first | exact Sub.nil _ | refine Sub.cons (by repeat (first | exact List.Mem.head _ | apply List.Mem.tail)) ?_))
    · have hia : i = a := by omega
      subst hia
      exact fin ⟨rfl, rfl⟩ (Seals.trans (Seals.L 0 rfl hw) (Seals.sub (by repeat (first | exact Sub.nil _ | refine Sub.cons (by repeat (first | exact List.Mem.head _ | apply List.Mem.tail)) ?_))))
theorem rSame12_meets (v w : Value) (h : Lg A G k n) (h' : Lg B H k n) (hk : k ≤ 137438953472 := by decide) (hn : n ≤ 1024 := by decide) :
    Meets Tryz.prog 13 [v, w] [(v, W A), (w, W B)] (fun r os fs => os = [] ∧ fs = [] ∧ r = .bool (decide (gn G = gn H))) := by
  refine meets_of_vc Tryz.func13 (by kernel_rfl) rfl (by kernel_rfl) (Nat.le_of_ble_eq_true rfl) ?_
  refine call_fn (rNorm12_meets v h hk hn) (Seals.refl _ _) (by repeat (first | exact Sub.nil _ | refine Sub.cons (by repeat (first | exact List.Mem.head _ | apply List.Mem.tail)) ?_)) ?_
  rintro x _ _ ⟨rfl, rfl⟩
  refine call_fn (rNorm12_meets w h' hk hn) (Seals.refl _ _) (by repeat (first | exact Sub.nil _ | refine Sub.cons (by repeat (first | exact List.Mem.head _ | apply List.Mem.tail)) ?_)) ?_
  rintro y _ _ ⟨rfl, rfl⟩
  refine call_fn (gExact_meets x y _ _) (Seals.refl _ _) (by repeat (first | exact Sub.nil _ | refine Sub.cons (by repeat (first | exact List.Mem.head _ | apply List.Mem.tail)) ?_)) ?_
  rintro _ _ _ ⟨rfl, rfl, rfl⟩
  refine fin ⟨rfl, rfl, ?_⟩ (Seals.nil _ _)
  have : (toW (gn G) = toW (gn H)) ↔ gn G = gn H := ⟨fun e => by rw [← ww_toW (gn G), e, ww_toW], fun e => by rw [e]⟩
  exact congrArg Value.bool (by simp only [this])
theorem Lg.zrow {f : List Int → List Int → List Int} {j : Nat} (h : Lg A G k n) (h' : Lg B H k n) (hf : ∀ l m, szR k l → szR k m → l.length ≤ n → m.length ≤ n → szR j (f l m) ∧ (f l m).length ≤ n) :
    Lg (Go.Proofs.YtfkeohlpcjpkbaaGreat.toW (zrow f G H (max G.length H.length))) (Go.Proofs.YtfkeohlpcjpkbaaGreat.zrow f G H (max G.length H.length)) j n := Lg.told (by rw [zrow_len]; exact Nat.max_le.2 ⟨h.ll, h'.ll⟩) fun r hr => by
  obtain ⟨i, _, rfl⟩ := List.mem_map.1 hr
  have := hf _ _ (h.g i).1 (h'.g i).1 (h.g i).2 (h'.g i).2
  exact ⟨this.2, this.1⟩
theorem rPAddT' (v w : Value) (p q : List Int) (k : Nat) (hp : szR k p) (hq : szR k q) (hk : k + 1 ≤ 137438953472) (lp : p.length ≤ 536870912) (lq : q.length ≤ 536870912) :
    Meets Tryz.prog 43 [v, w] [(v, vd p), (w, vd q)] (fun r os fs => os = [] ∧ fs = [(r, vd (padd p q))]) := by
  have := rPAdd_meets v w (p.map cn) (q.map cn) k hp.fit hq.fit hk (by rw [List.length_map]; exact lp) (by rw [List.length_map]; exact lq)
  rw [vv_cn, vv_cn] at this; exact this
theorem rPSubT' (v w : Value) (p q : List Int) (k : Nat) (hp : szR k p) (hq : szR k q) (h1k : 1 ≤ k) (hk : k + k ≤ 137438953472) (lp : p.length ≤ 536870912) (lq : q.length ≤ 536870912) :
    Meets Tryz.prog 45 [v, w] [(v, vd p), (w, vd q)] (fun r os fs => os = [] ∧ fs = [(r, vd (psub p q))]) := by
  have := rPSub_meets v w (p.map cn) (q.map cn) k hp.fit hq.fit h1k hk (by rw [List.length_map]; exact lp) (by rw [List.length_map]; exact lq)
  rw [vv_cn, vv_cn] at this; exact this
theorem rPMulT' (v w : Value) (p q : List Int) (k j : Nat) (hp : szR k p) (hq : szR j q) (hk : k + j + 1 ≤ 137438953472) (lp : p.length ≤ 268435456) (lq : q.length ≤ 268435456) :
    Meets Tryz.prog 48 [v, w] [(v, vd p), (w, vd q)] (fun r os fs => os = [] ∧ fs = [(r, vd (pmul p q))]) := by
  have := rPMul_meets v w (p.map cn) (q.map cn) k j hp.fit hq.fit hk (by rw [List.length_map]; exact lp) (by rw [List.length_map]; exact lq)
  rw [vv_cn, vv_cn] at this; exact this
theorem rValueT' (v w : Value) (p : List Int) (xj : Bool × List Nat) (k a : Nat) (hp : szR k p) (hxl : Lim xj.2) (hxa : xj.2.length ≤ a) (hk : k + (p.length + 2) * (a + 1) ≤ 137438953472) (lp : p.length ≤ 1048576) :
    Meets Tryz.prog 50 [v, w] [(v, vd p), (w, J xj)] (fun r os fs => os = [] ∧ fs = [(r, zd (pev p (jv xj)))]) := by
  have := rValueJ v w (p.map cn) xj k a hp.fit hxl hxa (by rw [List.length_map]; exact hk) (by rw [List.length_map]; exact lp)
  rw [vv_cn] at this; exact this
theorem rAdd12_meets (v w : Value) (h : Lg A G k n) (h' : Lg B H k n) (hk : k + 1 ≤ 137438953472 := by decide) (hn : n ≤ 1024 := by decide) :
    Meets Tryz.prog 15 [v, w] [(v, W A), (w, W B)] (fun r os fs => os = [] ∧ fs = [(r, wd (gadd G H))]) := by
  have la : A.length = G.length := by rw [← h.val, ww_len]
  have lb : B.length = H.length := by rw [← h'.val, ww_len]
  have l1 := h.len
  have l2 := h'.len
  have c1 := fun i => rRow12_meets v i h (by omega) hn
  have c2 := fun i => rRow12_meets w i h' (by omega) hn
  have hs1 := fun i => (h.g i).1.nrm
  have hs2 := fun i => (h'.g i).1.nrm
  have hl1 := fun i => Nat.le_trans (nrm_length_le (G.getD i [])) (h.g i).2
  have hl2 := fun i => Nat.le_trans (nrm_length_le (H.getD i [])) (h'.g i).2
  refine meets_of_vc Tryz.func15 (by kernel_rfl) rfl (by kernel_rfl) (Nat.le_of_ble_eq_true rfl) ?_
  refine empty_L (size := 1) (e := 37) V [] (by decide) fun w0 hw => ?_
  refine loop_rule (X := Nat × Value) (fun x => ([(0, v), (1, w), (5, x.2), (6, .int .i64 (x.1 : Nat))], [ownL 1 V [] x.2 (toW (zrow padd G H x.1))], [(v, W A), (w, W B)])) (fun x => x.1 ≤ max A.length B.length ∧ isSl x.2) (fun x => max A.length B.length - x.1) rfl ?_ ?_
  · exact again (0, w0) ⟨Nat.zero_le _, hw⟩ trivial (by repeat (first | exact trivial | refine ⟨rfl, ?_⟩ | refine ⟨i64_eq (by first | omega | (simp only; omega)), ?_⟩ | refine ⟨u64_eq (by first | omega | (simp only; omega)), ?_⟩)) (Seals.sub (by repeat (first | exact Sub.nil _ | refine Sub.cons (by repeat (first | exact List.Mem.head _ | apply List.Mem.tail)) ?_)))
  · rintro ⟨i, w0⟩ ⟨h1, hw⟩
    simp only at h1 hw ⊢
    have hzl : (toW (zrow padd G H i)).length = i := by rw [List.length_map, zrow_len]
    refine len_fact (by repeat (first | exact List.Mem.head _ | apply List.Mem.tail)) fun _ => ?_
    refine len_fact (by repeat (first | exact List.Mem.head _ | apply List.Mem.tail)) fun _ => ?_
    refine max2_rule ?_
    refine cmp_split _ rfl (fun hi => ?_) (fun hi => ?_)
    ·
      refine call_fn (c1 i) (Seals.refl _ _) (by repeat (first | exact Sub.nil _ | refine Sub.cons (by repeat (first | exact List.Mem.head _ | apply List.Mem.tail)) ?_)) ?_
      rintro r1 _ _ ⟨rfl, rfl⟩
      refine call_fn (c2 i) (Seals.refl _ _) (by repeat (first | exact Sub.nil _ | refine Sub.cons (by repeat (first | exact List.Mem.head _ | apply List.Mem.tail)) ?_)) ?_
      rintro r2 _ _ ⟨rfl, rfl⟩
      refine call_fn (rPAddT' r1 r2 _ _ k (hs1 i) (hs2 i) hk (Nat.le_trans (hl1 i) (by omega)) (Nat.le_trans (hl2 i) (by omega))) (Seals.refl _ _) (by repeat (first | exact Sub.nil _ | refine Sub.cons (by repeat (first | exact List.Mem.head _ | apply List.Mem.tail)) ?_)) ?_
      rintro r3 _ _ ⟨rfl, rfl⟩
      refine lit_L (size := 1) (e := 37) V [] ((padd (nrm (G.getD i [])) (nrm (H.getD i []))).map cn) (by decide) (Reads.fact (by repeat (first | exact List.Mem.head _ | apply List.Mem.tail))) rfl fun l1 => ?_
      refine append_L (size := 1) (e := 37) 0 rfl hw (Knw.fact (by repeat (first | exact List.Mem.head _ | apply List.Mem.tail))) (by rw [hzl]; simp; omega) (by rw [hzl]; simp; omega) fun w2 hw2 => ?_
      refine ar rfl (by first | exact ⟨by omega, by omega⟩ | (simp only [inK]; omega)) ?_
      refine again (i + 1, w2) ⟨by simp only; omega, hw2⟩ (by simp only; omega) (by repeat (first | exact trivial | refine ⟨rfl, ?_⟩ | refine ⟨i64_eq (by first | omega | (simp only; omega)), ?_⟩ | refine ⟨u64_eq (by first | omega | (simp only; omega)), ?_⟩)) ?_
      rw [show toW (zrow padd G H (i + 1)) = toW (zrow padd G H i) ++ [(padd (nrm (G.getD i [])) (nrm (H.getD i []))).map cn] by rw [zrow_succ, padd_nrm]; simp]
      exact Seals.sub (by repeat (first | exact Sub.nil _ | refine Sub.cons (by repeat (first | exact List.Mem.head _ | apply List.Mem.tail)) ?_))
    · have hia : i = max G.length H.length := by omega
      subst hia
      refine call_fn (rNorm12_meets w0 (h.zrow (j := k + 1) h' fun _ _ a b c d => ⟨a.padd b, Nat.le_trans (padd_len _ _) (Nat.max_le.2 ⟨c, d⟩)⟩) (by omega) hn) (Seals.L 0 rfl hw) (by repeat (first | exact Sub.nil _ | refine Sub.cons (by repeat (first | exact List.Mem.head _ | apply List.Mem.tail)) ?_)) ?_
      rintro r _ _ ⟨rfl, rfl⟩
      exact fin ⟨rfl, rfl⟩ (Seals.sub (by repeat (first | exact Sub.nil _ | refine Sub.cons (by repeat (first | exact List.Mem.head _ | apply List.Mem.tail)) ?_)))
theorem rSub12_meets (v w : Value) (h : Lg A G k n) (h' : Lg B H k n) (h1k : 1 ≤ k := by decide) (hk : k + k ≤ 137438953472 := by decide) (hn : n ≤ 1024 := by decide) :
    Meets Tryz.prog 17 [v, w] [(v, W A), (w, W B)] (fun r os fs => os = [] ∧ fs = [(r, wd (gsub G H))]) := by
  have la : A.length = G.length := by rw [← h.val, ww_len]
  have lb : B.length = H.length := by rw [← h'.val, ww_len]
  have l1 := h.len
  have l2 := h'.len
  have c1 := fun i => rRow12_meets v i h (by omega) hn
  have c2 := fun i => rRow12_meets w i h' (by omega) hn
  have hs1 := fun i => (h.g i).1.nrm
  have hs2 := fun i => (h'.g i).1.nrm
  have hl1 := fun i => Nat.le_trans (nrm_length_le (G.getD i [])) (h.g i).2
  have hl2 := fun i => Nat.le_trans (nrm_length_le (H.getD i [])) (h'.g i).2
  refine meets_of_vc Tryz.func17 (by kernel_rfl) rfl (by kernel_rfl) (Nat.le_of_ble_eq_true rfl) ?_
  refine empty_L (size := 1) (e := 37) V [] (by decide) fun w0 hw => ?_
  refine loop_rule (X := Nat × Value) (fun x => ([(0, v), (1, w), (5, x.2), (6, .int .i64 (x.1 : Nat))], [ownL 1 V [] x.2 (toW (zrow psub G H x.1))], [(v, W A), (w, W B)])) (fun x => x.1 ≤ max A.length B.length ∧ isSl x.2) (fun x => max A.length B.length - x.1) rfl ?_ ?_
  · exact again (0, w0) ⟨Nat.zero_le _, hw⟩ trivial (by repeat (first | exact trivial | refine ⟨rfl, ?_⟩ | refine ⟨i64_eq (by first | omega | (simp only; omega)), ?_⟩ | refine ⟨u64_eq (by first | omega | (simp only; omega)), ?_⟩)) (Seals.sub (by repeat (first | exact Sub.nil _ | refine Sub.cons (by repeat (first | exact List.Mem.head _ | apply List.Mem.tail)) ?_)))
  · rintro ⟨i, w0⟩ ⟨h1, hw⟩
    simp only at h1 hw ⊢
    have hzl : (toW (zrow psub G H i)).length = i := by rw [List.length_map, zrow_len]
    refine len_fact (by repeat (first | exact List.Mem.head _ | apply List.Mem.tail)) fun _ => ?_
    refine len_fact (by repeat (first | exact List.Mem.head _ | apply List.Mem.tail)) fun _ => ?_
    refine max2_rule ?_
    refine cmp_split _ rfl (fun hi => ?_) (fun hi => ?_)
    ·
      refine call_fn (c1 i) (Seals.refl _ _) (by repeat (first | exact Sub.nil _ | refine Sub.cons (by repeat (first | exact List.Mem.head _ | apply List.Mem.tail)) ?_)) ?_
      rintro r1 _ _ ⟨rfl, rfl⟩
      refine call_fn (c2 i) (Seals.refl _ _) (by repeat (first | exact Sub.nil _ | refine Sub.cons (by repeat (first | exact List.Mem.head _ | apply List.Mem.tail)) ?_)) ?_
      rintro r2 _ _ ⟨rfl, rfl⟩
      refine call_fn (rPSubT' r1 r2 _ _ k (hs1 i) (hs2 i) h1k hk (Nat.le_trans (hl1 i) (by omega)) (Nat.le_trans (hl2 i) (by omega))) (Seals.refl _ _) (by repeat (first | exact Sub.nil _ | refine Sub.cons (by repeat (first | exact List.Mem.head _ | apply List.Mem.tail)) ?_)) ?_
      rintro r3 _ _ ⟨rfl, rfl⟩
      refine lit_L (size := 1) (e := 37) V [] ((psub (nrm (G.getD i [])) (nrm (H.getD i []))).map cn) (by decide) (Reads.fact (by repeat (first | exact List.Mem.head _ | apply List.Mem.tail))) rfl fun l1 => ?_
      refine append_L (size := 1) (e := 37) 0 rfl hw (Knw.fact (by repeat (first | exact List.Mem.head _ | apply List.Mem.tail))) (by rw [hzl]; simp; omega) (by rw [hzl]; simp; omega) fun w2 hw2 => ?_
      refine ar rfl (by first | exact ⟨by omega, by omega⟩ | (simp only [inK]; omega)) ?_
      refine again (i + 1, w2) ⟨by simp only; omega, hw2⟩ (by simp only; omega) (by repeat (first | exact trivial | refine ⟨rfl, ?_⟩ | refine ⟨i64_eq (by first | omega | (simp only; omega)), ?_⟩ | refine ⟨u64_eq (by first | omega | (simp only; omega)), ?_⟩)) ?_
      rw [show toW (zrow psub G H (i + 1)) = toW (zrow psub G H i) ++ [(psub (nrm (G.getD i [])) (nrm (H.getD i []))).map cn] by rw [zrow_succ, psub_nrm]; simp]
      exact Seals.sub (by repeat (first | exact Sub.nil _ | refine Sub.cons (by repeat (first | exact List.Mem.head _ | apply List.Mem.tail)) ?_))
    · have hia : i = max G.length H.length := by omega
      subst hia
      refine call_fn (rNorm12_meets w0 (h.zrow (j := k + 1) h' fun _ _ a b c d => ⟨a.psub b, Nat.le_trans (psub_len _ _) (Nat.max_le.2 ⟨c, d⟩)⟩) (by omega) hn) (Seals.L 0 rfl hw) (by repeat (first | exact Sub.nil _ | refine Sub.cons (by repeat (first | exact List.Mem.head _ | apply List.Mem.tail)) ?_)) ?_
      rintro r _ _ ⟨rfl, rfl⟩
      exact fin ⟨rfl, rfl⟩ (Seals.sub (by repeat (first | exact Sub.nil _ | refine Sub.cons (by repeat (first | exact List.Mem.head _ | apply List.Mem.tail)) ?_)))
theorem Lg.pc (h : Lg A G k n) (h' : Lg B H k n) (hn : n ≤ 1024) (i j : Nat) : szR (k + k + 1 + j) (pco G H i j) ∧ (pco G H i j).length ≤ n + n := by
  induction j with
  | zero => exact ⟨fun x hx => by simp [pco] at hx, Nat.zero_le _⟩
  | succ j ih =>
    have a1 := nrm_length_le (G.getD j [])
    have a2 := nrm_length_le (H.getD (i - j) [])
    have b1 := (h.g j).2
    have b2 := (h'.g (i - j)).2
    have h1 := (h.g j).1.nrm.pmul (h'.g (i - j)).1.nrm (by omega)
    have h2 := pmul_len (Go.Proofs.YtfkeohlpcjpkbaaGreat.nrm (G.getD j [])) (Go.Proofs.YtfkeohlpcjpkbaaGreat.nrm (H.getD (i - j) []))
    exact ⟨ih.1.padd (h1.mono (by omega)), Nat.le_trans (padd_len _ _) (Nat.max_le.2 ⟨ih.2, by omega⟩)⟩
theorem rMul12_meets (v w : Value) (h : Lg A G k n) (h' : Lg B H k n) (hk : k + k + 10000 ≤ 137438953472 := by decide) (hn : n ≤ 512 := by decide) :
    Meets Tryz.prog 19 [v, w] [(v, W A), (w, W B)] (fun r os fs => os = [] ∧ fs = [(r, wd (gmu G H))]) := by
  have la : A.length = G.length := by rw [← h.val, ww_len]
  have lb : B.length = H.length := by rw [← h'.val, ww_len]
  have l1 := h.len
  have l2 := h'.len
  have c1 := fun i => rRow12_meets v i h (by omega) (by omega)
  have c2 := fun i => rRow12_meets w i h' (by omega) (by omega)
  have hs1 := fun i => (h.g i).1.nrm
  have hs2 := fun i => (h'.g i).1.nrm
  have hl1 := fun i => Nat.le_trans (nrm_length_le (G.getD i [])) (h.g i).2
  have hl2 := fun i => Nat.le_trans (nrm_length_le (H.getD i [])) (h'.g i).2
  have hpc := fun i j => h.pc h' (by omega) i j
  rw [← gcl_mu]
  have hfin : Lg (Go.Proofs.YtfkeohlpcjpkbaaGreat.toW (gcl G H)) (gcl G H) (k + k + 1 + 1025) (n + n) := Lg.told (by unfold gcl; rw [List.length_map, List.length_range]; omega) fun r hr => by
    obtain ⟨i, hi, rfl⟩ := List.mem_map.1 hr
    have := List.mem_range.1 hi
    exact ⟨(hpc i (i + 1)).2, (hpc i (i + 1)).1.mono (by omega)⟩
  refine meets_of_vc Tryz.func19 (by kernel_rfl) rfl (by kernel_rfl) (Nat.le_of_ble_eq_true rfl) ?_
  refine empty_L (size := 1) (e := 37) V [] (by decide) fun w0 hw => ?_
  refine loop_rule (X := Nat × Value) (fun x => ([(0, v), (1, w), (5, x.2), (6, .int .i64 (x.1 : Nat))], [ownL 1 V [] x.2 (toW ((List.range x.1).map fun i => pco G H i (i + 1)))], [(v, W A), (w, W B)])) (fun x => x.1 ≤ A.length + B.length ∧ isSl x.2) (fun x => A.length + B.length - x.1) rfl ?_ ?_
  · exact again (0, w0) ⟨Nat.zero_le _, hw⟩ trivial (by repeat (first | exact trivial | refine ⟨rfl, ?_⟩ | refine ⟨i64_eq (by first | omega | (simp only; omega)), ?_⟩ | refine ⟨u64_eq (by first | omega | (simp only; omega)), ?_⟩)) (Seals.sub (by repeat (first | exact Sub.nil _ | refine Sub.cons (by repeat (first | exact List.Mem.head _ | apply List.Mem.tail)) ?_)))
  · rintro ⟨i, w0⟩ ⟨h1, hw⟩
    simp only at h1 hw ⊢
    refine len_fact (by repeat (first | exact List.Mem.head _ | apply List.Mem.tail)) fun _ => ?_
    refine len_fact (by repeat (first | exact List.Mem.head _ | apply List.Mem.tail)) fun _ => ?_
    refine ar rfl (by first | exact ⟨by omega, by omega⟩ | (simp only [inK]; omega)) ?_
    refine cmp_split _ rfl (fun hi => ?_) (fun hi => ?_)
    · refine empty_F (size := 2) (e := 26) J z0 (by decide) fun e0 => ?_
      rw [show LD 2 J z0 [] = vd (pco G H i 0) from rfl]
      refine loop_rule (X := Nat × Value) (fun x => ([(0, v), (1, w), (5, w0), (6, .int .i64 (i : Nat)), (7, x.2), (8, .int .i64 (x.1 : Nat))], [ownL 1 V [] w0 (toW ((List.range i).map fun i => pco G H i (i + 1)))], [(x.2, vd (pco G H i x.1)), (v, W A), (w, W B)])) (fun x => x.1 ≤ i + 1) (fun x => i + 1 - x.1) rfl ?_ ?_
      · exact again (0, e0) (Nat.zero_le _) trivial (by repeat (first | exact trivial | refine ⟨rfl, ?_⟩ | refine ⟨i64_eq (by first | omega | (simp only; omega)), ?_⟩ | refine ⟨u64_eq (by first | omega | (simp only; omega)), ?_⟩)) (Seals.sub (by repeat (first | exact Sub.nil _ | refine Sub.cons (by repeat (first | exact List.Mem.head _ | apply List.Mem.tail)) ?_)))
      · rintro ⟨j, s⟩ h2
        simp only at h2 ⊢
        refine cmp_split _ rfl (fun hj => ?_) (fun hj => ?_)
        · have hstep : pco G H i (j + 1) = padd (pco G H i j) (pmul (nrm (G.getD j [])) (nrm (H.getD (i - j) []))) := rfl
          have p1 := hpc i j
          have a1 := hl1 j
          have a2 := hl2 (i - j)
          have p2 := (hs1 j).pmul (hs2 (i - j)) (by omega)
          have p3 := pmul_len (nrm (G.getD j [])) (nrm (H.getD (i - j) []))
          refine call_fn (c1 j) (Seals.refl _ _) (by repeat (first | exact Sub.nil _ | refine Sub.cons (by repeat (first | exact List.Mem.head _ | apply List.Mem.tail)) ?_)) ?_
          rintro r1 _ _ ⟨rfl, rfl⟩
          refine ar (n := ((i - j : Nat) : Int)) (by simp only [arZ, Option.some.injEq]; omega) (by first | exact ⟨by omega, by omega⟩ | (simp only [inK]; omega)) ?_
          refine call_fn (c2 (i - j)) (Seals.refl _ _) (by repeat (first | exact Sub.nil _ | refine Sub.cons (by repeat (first | exact List.Mem.head _ | apply List.Mem.tail)) ?_)) ?_
          rintro r2 _ _ ⟨rfl, rfl⟩
          refine call_fn (rPMulT' r1 r2 _ _ k k (hs1 j) (hs2 (i - j)) (by omega) (by omega) (by omega)) (Seals.refl _ _) (by repeat (first | exact Sub.nil _ | refine Sub.cons (by repeat (first | exact List.Mem.head _ | apply List.Mem.tail)) ?_)) ?_
          rintro r3 _ _ ⟨rfl, rfl⟩
          refine call_fn (rPAddT' s r3 _ _ (k + k + 1 + j) p1.1 (p2.mono (by omega)) (by omega) (by omega) (by omega)) (Seals.refl _ _) (by repeat (first | exact Sub.nil _ | refine Sub.cons (by repeat (first | exact List.Mem.head _ | apply List.Mem.tail)) ?_)) ?_
          rintro r4 _ _ ⟨rfl, rfl⟩
          refine ar rfl (by first | exact ⟨by omega, by omega⟩ | (simp only [inK]; omega)) ?_
          refine again (j + 1, r4) (by simp only; omega) (by simp only; omega) (by repeat (first | exact trivial | refine ⟨rfl, ?_⟩ | refine ⟨i64_eq (by first | omega | (simp only; omega)), ?_⟩ | refine ⟨u64_eq (by first | omega | (simp only; omega)), ?_⟩)) ?_
          simp only
          rw [hstep]
          exact Seals.sub (by repeat (first | exact Sub.nil _ | refine Sub.cons (by repeat (first | exact List.Mem.head _ | apply List.Mem.tail)) ?_))
        · have hji : j = i + 1 := by omega
          subst hji
          refine lit_L (size := 1) (e := 37) V [] ((pco G H i (i + 1)).map cn) (by decide) (Reads.fact (by repeat (first | exact List.Mem.head _ | apply List.Mem.tail))) rfl fun l1 => ?_
          refine append_L (size := 1) (e := 37) 0 rfl hw (Knw.fact (by repeat (first | exact List.Mem.head _ | apply List.Mem.tail))) (by simp; omega) (by simp; omega) fun w2 hw2 => ?_
          refine ar rfl (by first | exact ⟨by omega, by omega⟩ | (simp only [inK]; omega)) ?_
          refine again (i + 1, w2) ⟨by simp only; omega, hw2⟩ (by simp only; omega) (by repeat (first | exact trivial | refine ⟨rfl, ?_⟩ | refine ⟨i64_eq (by first | omega | (simp only; omega)), ?_⟩ | refine ⟨u64_eq (by first | omega | (simp only; omega)), ?_⟩)) ?_
          rw [show toW ((List.range (i + 1)).map fun i => pco G H i (i + 1)) = toW ((List.range i).map fun i => pco G H i (i + 1)) ++ [(pco G H i (i + 1)).map cn] by simp [List.range_succ]]
          exact Seals.sub (by repeat (first | exact Sub.nil _ | refine Sub.cons (by repeat (first | exact List.Mem.head _ | apply List.Mem.tail)) ?_))
    · have hia : i = G.length + H.length := by omega
      subst hia
      refine call_fn (rNorm12_meets w0 hfin (by omega) (by omega)) (Seals.L 0 rfl hw) (by repeat (first | exact Sub.nil _ | refine Sub.cons (by repeat (first | exact List.Mem.head _ | apply List.Mem.tail)) ?_)) ?_
      rintro r _ _ ⟨rfl, rfl⟩
      exact fin ⟨rfl, rfl⟩ (Seals.sub (by repeat (first | exact Sub.nil _ | refine Sub.cons (by repeat (first | exact List.Mem.head _ | apply List.Mem.tail)) ?_)))
theorem rPutY12_meets (v w : Value) {y : Bool × List Nat} {j : Nat} (h : Lg A G k n) (hy : Lim y.2) (ha : y.2.length ≤ j) (hk : k + (n + 2) * (j + 1) ≤ 137438953472 := by decide) (hn : n ≤ 1024 := by decide) :
    Meets Tryz.prog 27 [v, w] [(v, W A), (w, J y)] (fun r os fs => os = [] ∧ fs = [(r, vd (gpy G (jv y)))]) := by
  have la : A.length = G.length := by rw [← h.val, ww_len]
  have l1 := h.len
  have hsy : sz (jv y) j := sz_jv hy ha
  have hval : ∀ i, vv (A.getD i []) = G.getD i [] := fun i => by rw [← h.val, ww_get]
  have hc := fun u z i (hi : i < A.length) => rValueJ u z (A.getD i []) y k j (h.row _ (getD_mem [] hi)).2 hy ha (by
    have : ((A.getD i []).length + 2) * (j + 1) ≤ (n + 2) * (j + 1) := Nat.mul_le_mul_right _ (by have := (h.row _ (getD_mem [] hi)).1; omega)
    omega) (by have := (h.row _ (getD_mem [] hi)).1; omega)
  simp only [hval] at hc
  have hnk : k + n * (j + 1) ≤ 137438953472 := by
    have : n * (j + 1) ≤ (n + 2) * (j + 1) := Nat.mul_le_mul_right _ (by omega)
    omega
  have hszl : szR (k + n * (j + 1)) (lst A.length fun i => pev (G.getD i []) (jv y)) := szR.lst fun i _ => (ev_sz (h.g i).1 hsy).mono (Nat.add_le_add_left (Nat.mul_le_mul_right _ (h.g i).2) _)
  have hfin : nrm (lst A.length fun i => pev (G.getD i []) (jv y)) = gpy G (jv y) := by
    unfold gpy
    congr 1
    refine row_eq_of_getD 0 (by rw [lst_len, List.length_map, la]) fun i hi => ?_
    rw [lst_len] at hi
    rw [lst_get hi]
    simp [List.getD_eq_getElem?_getD, show i < G.length by omega]
  refine meets_of_vc Tryz.func27 (by kernel_rfl) rfl (by kernel_rfl) (Nat.le_of_ble_eq_true rfl) ?_
  refine box_fact (Reads.fact (d := J y) (by repeat (first | exact List.Mem.head _ | apply List.Mem.tail))) fun py => ?_
  refine empty_L (size := 2) (e := 26) J z0 (by decide) fun w0 hw0 => ?_
  refine loop_rule (X := Nat × Value) (fun x => ([(0, v), (3, py), (5, x.2), (6, .int .i64 (x.1 : Nat))], [ownL 2 J z0 x.2 ((lst x.1 fun i => pev (G.getD i []) (jv y)).map cn)], [(v, W A), (py, .ptr (J y))])) (fun x => x.1 ≤ A.length ∧ isSl x.2) (fun x => A.length - x.1) rfl ?_ ?_
  · exact again (0, w0) ⟨Nat.zero_le _, hw0⟩ trivial (by repeat (first | exact trivial | refine ⟨rfl, ?_⟩ | refine ⟨i64_eq (by first | omega | (simp only; omega)), ?_⟩ | refine ⟨u64_eq (by first | omega | (simp only; omega)), ?_⟩)) (Seals.sub (by repeat (first | exact Sub.nil _ | refine Sub.cons (by repeat (first | exact List.Mem.head _ | apply List.Mem.tail)) ?_)))
  · rintro ⟨i, w1⟩ ⟨h2, hw1⟩
    simp only at h2 hw1 ⊢
    refine len_fact (by repeat (first | exact List.Mem.head _ | apply List.Mem.tail)) fun _ => ?_
    refine cmp_split _ rfl (fun hi => ?_) (fun hi => ?_)
    · have hia : i < A.length := by omega
      have hll : (lst i fun i => pev (G.getD i []) (jv y)).length = i := lst_len _ _
      refine draw_rule [0, 1, 2, 3, 4, 5, 6, 7, 8, 9] [0, 1, 2, 3, 4, 5, 6, 7, 8, 9] (by kernel_rfl) (by kernel_rfl) ?_
      refine index_fact (by repeat (first | exact List.Mem.head _ | apply List.Mem.tail)) i rfl hia fun b1 => ?_
      refine load_fact (d := V (A.getD i [])) (by repeat (first | exact List.Mem.head _ | apply List.Mem.tail)) (show TOne Tryz.prog 37 from inferInstance) fun u => ?_
      refine load_fact (d := J y) (by repeat (first | exact List.Mem.head _ | apply List.Mem.tail)) (load_J _) fun z => ?_
      refine call_fn (hc u z i hia) (Seals.refl _ _) (by repeat (first | exact Sub.nil _ | refine Sub.cons (by repeat (first | exact List.Mem.head _ | apply List.Mem.tail)) ?_)) ?_
      rintro r _ _ ⟨rfl, rfl⟩
      refine lit_L (size := 2) (f := J) (z := z0) (e := 26) (cn (pev (G.getD i []) (jv y))) (by decide) (Reads.fact (by repeat (first | exact List.Mem.head _ | apply List.Mem.tail))) rfl fun y4 => ?_
      refine append_L (size := 2) (e := 26) (f := J) (z := z0) (l := (lst i fun i => pev (G.getD i []) (jv y)).map cn) (m := [cn (pev (G.getD i []) (jv y))]) 0 rfl hw1 (Knw.fact (by repeat (first | exact List.Mem.head _ | apply List.Mem.tail))) (by simp only [List.length_map, hll, List.length_cons, List.length_nil]; omega) (by simp only [List.length_map, hll, List.length_cons, List.length_nil]; omega) fun vn hvn => ?_
      refine ar rfl (by first | exact ⟨by omega, by omega⟩ | (simp only [inK]; omega)) ?_
      refine again (i + 1, vn) ⟨by simp only; omega, hvn⟩ (by simp only; omega) (by repeat (first | exact trivial | refine ⟨rfl, ?_⟩ | refine ⟨i64_eq (by first | omega | (simp only; omega)), ?_⟩ | refine ⟨u64_eq (by first | omega | (simp only; omega)), ?_⟩)) ?_
      rw [show (lst i fun i => pev (G.getD i []) (jv y)).map cn ++ [cn (pev (G.getD i []) (jv y))] = (lst (i + 1) fun i => pev (G.getD i []) (jv y)).map cn by rw [lst_snoc, List.map_append]; rfl]
      exact Seals.sub (by repeat (first | exact Sub.nil _ | refine Sub.cons (by repeat (first | exact List.Mem.head _ | apply List.Mem.tail)) ?_))
    · have hia : i = A.length := by omega
      subst hia
      refine call_fn (rNormT w1 (lst A.length fun i => pev (G.getD i []) (jv y)) (hszl.mono hnk) (by rw [lst_len]; omega)) (Seals.toldL hw1) (by repeat (first | exact Sub.nil _ | refine Sub.cons (by repeat (first | exact List.Mem.head _ | apply List.Mem.tail)) ?_)) ?_
      rintro r _ _ ⟨rfl, rfl⟩
      rw [hfin]
      exact fin ⟨rfl, rfl⟩ (Seals.sub (by repeat (first | exact Sub.nil _ | refine Sub.cons (by repeat (first | exact List.Mem.head _ | apply List.Mem.tail)) ?_)))
theorem pxs_len (h : Lg A G k n) (x : Int) (i : Nat) : (pxs G x i).length ≤ n := by
  induction i with
  | zero => exact Nat.zero_le _
  | succ i ih =>
    refine Nat.le_trans (padd_len _ _) (Nat.max_le.2 ⟨ih, ?_⟩)
    have h1 := prai_len (x ^ i) 0 (G.getD i [])
    have h2 := (h.g i).2
    rw [prai_zero] at h1; omega
theorem pow_sz {x : Int} {j : Nat} (hx : sz x j) (i : Nat) : sz (x ^ i) (i * j + 1) := by
  induction i with
  | zero => rw [Int.pow_zero]; exact (sz_one 1 (by decide)).mono (Nat.le_add_left _ _)
  | succ i ih => rw [Int.pow_succ]; exact (ih.mul hx).mono (by rw [Nat.succ_mul]; omega)
theorem pxs_sz (h : Lg A G k n) {x : Int} {j : Nat} (hx : sz x j) (i : Nat) (hi : i ≤ n) : szR (k + n * j + 1 + i) (pxs G x i) := by
  induction i with
  | zero => exact fun x hx => by simp [pxs] at hx
  | succ i ih =>
    have h1 := (h.g i).1.prai (pow_sz hx i) 0
    have h2 : i * j ≤ n * j := Nat.mul_le_mul_right _ (by omega)
    rw [prai_zero] at h1
    exact (ih (by omega)).padd (h1.mono (by omega))
theorem rPutX12_meets (v w : Value) {x : Bool × List Nat} {j : Nat} (h : Lg A G k n) (hx : Lim x.2) (ha : x.2.length ≤ j) (hk : 2 * (k + n * j + j + n + 3) ≤ 137438953472 := by decide) (hn : n ≤ 1024 := by decide) :
    Meets Tryz.prog 25 [v, w] [(v, W A), (w, J x)] (fun r os fs => os = [] ∧ fs = [(r, vd (gax G (jv x)))]) := by
  have la : A.length = G.length := by rw [← h.val, ww_len]
  have l1 := h.len
  have hsx : sz (jv x) j := sz_jv hx ha
  have hval : ∀ i, vv (A.getD i []) = G.getD i [] := fun i => by rw [← h.val, ww_get]
  have hmul : ∀ i, i ≤ n → i * j ≤ n * j := fun i hi => Nat.mul_le_mul_right _ hi
  have hpw := fun i => pow_sz hsx i
  have hc := fun u z i (hi : i < A.length) => rTimes_meets u z (A.getD i []) (jv x ^ i) (k + n * j + 1) ((h.row _ (getD_mem [] hi)).2.mono (by omega)) ((hpw i).mono (by have := hmul i (by omega); omega)) (by omega) (by have := (h.row _ (getD_mem [] hi)).1; omega)
  simp only [hval] at hc
  have hps := fun i hi => pxs_sz h hsx i hi
  have hpl := fun i => pxs_len h (jv x) i
  have hrl := fun i => (h.g i).2
  have htl : ∀ i, (ptim (jv x ^ i) (G.getD i [])).length ≤ n := fun i => by
    have h1 := prai_len (jv x ^ i) 0 (G.getD i [])
    have h2 := hrl i
    rw [prai_zero] at h1; omega
  have hts : ∀ i, i < n → szR (k + n * j + 1) (ptim (jv x ^ i) (G.getD i [])) := fun i hi => by
    have h1 := (h.g i).1.prai (hpw i) 0
    have h2 := hmul i (by omega)
    rw [prai_zero] at h1
    exact h1.mono (by omega)
  have hstep : ∀ i, pxs G (jv x) (i + 1) = padd (pxs G (jv x) i) (ptim (jv x ^ i) (G.getD i [])) := fun i => rfl
  have hpow : ∀ i, jv x ^ i * jv x = jv x ^ (i + 1) := fun i => (Int.pow_succ _ _).symm
  have hp0 : jv x ^ 0 = 1 := Int.pow_zero _
  have hs0 : pxs G (jv x) 0 = [] := rfl
  have hm := fun u z i => rMulZJ u z (jv x ^ i) x (i * j + 1) (hpw i)
  rw [← pxs_all, ← la]
  generalize pxs G (jv x) = S at *
  generalize (fun i => jv x ^ i) = P at *
  refine meets_of_vc Tryz.func25 (by kernel_rfl) rfl (by kernel_rfl) (Nat.le_of_ble_eq_true rfl) ?_
  refine box_fact (Reads.fact (d := J x) (by repeat (first | exact List.Mem.head _ | apply List.Mem.tail))) fun px => ?_
  refine empty_F (size := 2) (e := 26) J z0 (by decide) fun e0 => ?_
  rw [show LD 2 J z0 [] = vd (S 0) by rw [hs0]; rfl]
  refine call_fn (rOf_meets 1 (by decide) (by decide)) (Seals.refl _ _) (by repeat (first | exact Sub.nil _ | refine Sub.cons (by repeat (first | exact List.Mem.head _ | apply List.Mem.tail)) ?_)) ?_
  rintro y0 _ _ ⟨rfl, rfl⟩
  refine alloc_rule (d := I false []) fun o ho => ?_
  refine store_box (d := zd 1) 0 rfl ho rfl (by kernel_rfl) ?_ ?_; exact Reads.fact (by repeat (first | exact List.Mem.head _ | apply List.Mem.tail))
  refine loop_rule (X := Nat × Value) (fun z => ([(0, v), (3, px), (5, z.2), (6, o), (7, .int .i64 (z.1 : Nat))], [own1 o 2 1 fun _ => zd (jv x ^ z.1)], [(z.2, vd (S z.1)), (v, W A), (px, .ptr (J x))])) (fun z => z.1 ≤ A.length) (fun z => A.length - z.1) rfl ?_ ?_
  · exact again (0, e0) (Nat.zero_le _) trivial (by repeat (first | exact trivial | refine ⟨rfl, ?_⟩ | refine ⟨i64_eq (by first | omega | (simp only; omega)), ?_⟩ | refine ⟨u64_eq (by first | omega | (simp only; omega)), ?_⟩)) (by
      show Seals _ _ [own1 o 2 1 fun _ => zd (jv x ^ 0)] _
      rw [hp0]
      exact Seals.trans (Seals.box0 rfl) (Seals.sub (by repeat (first | exact Sub.nil _ | refine Sub.cons (by repeat (first | exact List.Mem.head _ | apply List.Mem.tail)) ?_))))
  · rintro ⟨i, s⟩ h2
    simp only at h2 ⊢
    refine len_fact (by repeat (first | exact List.Mem.head _ | apply List.Mem.tail)) fun _ => ?_
    refine cmp_split _ rfl (fun hi => ?_) (fun hi => ?_)
    · have hia : i < A.length := by omega
      have hps := hps i (by omega)
      have hpl := hpl i
      have htl := htl i
      have hts := hts i (by omega)
      have hmi := hmul i (by omega)
      refine draw_rule [0, 1, 2, 3, 4, 5, 6, 7, 8] [0, 1, 2, 3, 4, 5, 6, 7, 8] (by kernel_rfl) (by kernel_rfl) ?_
      refine index_fact (by repeat (first | exact List.Mem.head _ | apply List.Mem.tail)) i rfl hia fun b1 => ?_
      refine load_fact (d := V (A.getD i [])) (by repeat (first | exact List.Mem.head _ | apply List.Mem.tail)) (show TOne Tryz.prog 37 from inferInstance) fun u => ?_
      refine load_box (d := zd (jv x ^ i)) 0 rfl ho rfl (load_I _ _) fun z => ?_
      refine call_fn (hc u z i hia) (Seals.refl _ _) (by repeat (first | exact Sub.nil _ | refine Sub.cons (by repeat (first | exact List.Mem.head _ | apply List.Mem.tail)) ?_)) ?_
      rintro r1 _ _ ⟨rfl, rfl⟩
      refine call_fn (rPAddT' s r1 _ _ (k + n * j + 1 + i) hps (hts.mono (by omega)) (by omega) (by omega) (by omega)) (Seals.refl _ _) (by repeat (first | exact Sub.nil _ | refine Sub.cons (by repeat (first | exact List.Mem.head _ | apply List.Mem.tail)) ?_)) ?_
      rintro r2 _ _ ⟨rfl, rfl⟩
      refine load_box (d := zd (jv x ^ i)) 0 rfl ho rfl (load_I _ _) fun z2 => ?_
      refine load_fact (d := J x) (by repeat (first | exact List.Mem.head _ | apply List.Mem.tail)) (load_J _) fun z3 => ?_
      refine call_fn (hm z2 z3 i (by omega) hx (by omega)) (Seals.refl _ _) (by repeat (first | exact Sub.nil _ | refine Sub.cons (by repeat (first | exact List.Mem.head _ | apply List.Mem.tail)) ?_)) ?_
      rintro r3 _ _ ⟨rfl, rfl⟩
      refine store_box (d := zd (jv x ^ i * jv x)) 0 rfl ho rfl (by kernel_rfl) ?_ ?_; exact Reads.fact (by repeat (first | exact List.Mem.head _ | apply List.Mem.tail))
      refine ar rfl (by first | exact ⟨by omega, by omega⟩ | (simp only [inK]; omega)) ?_
      refine again (i + 1, r2) (by simp only; omega) (by simp only; omega) (by repeat (first | exact trivial | refine ⟨rfl, ?_⟩ | refine ⟨i64_eq (by first | omega | (simp only; omega)), ?_⟩ | refine ⟨u64_eq (by first | omega | (simp only; omega)), ?_⟩)) ?_
      simp only
      rw [hstep, ← hpow]
      exact Seals.trans (Seals.box0 rfl) (Seals.sub (by repeat (first | exact Sub.nil _ | refine Sub.cons (by repeat (first | exact List.Mem.head _ | apply List.Mem.tail)) ?_)))
    · have hia : i = A.length := by omega
      subst hia
      exact fin ⟨rfl, rfl⟩ (Seals.trans (Seals.drop 0 _ _) (Seals.sub (by repeat (first | exact Sub.nil _ | refine Sub.cons (by repeat (first | exact List.Mem.head _ | apply List.Mem.tail)) ?_))))
theorem rValue12_meets (v w u : Value) {x y : Bool × List Nat} {j : Nat} (h : Lg A G k n) (hx : Lim x.2) (hxa : x.2.length ≤ j) (hy : Lim y.2) (hya : y.2.length ≤ j) (hk : k + n * (j + 1) + (n + 2) * (j + 1) ≤ 137438953472 := by decide) (hn : n ≤ 1024 := by decide) :
    Meets Tryz.prog 22 [v, w, u] [(v, W A), (w, J x), (u, J y)] (fun r os fs => os = [] ∧ fs = [(r, zd (gev G (jv x) (jv y)))]) := by
  have l1 := h.py (sz_jv hy hya)
  have c1 := fun z => rPutY12_meets v z h hy hya (by omega) hn
  have c2 := fun t z => rValueT' t z (gpy G (jv y)) x (k + n * (j + 1)) j l1.sz hx hxa (by
    have : ((gpy G (jv y)).length + 2) * (j + 1) ≤ (n + 2) * (j + 1) := Nat.mul_le_mul_right _ (by have := l1.ll; omega)
    omega) (by have := l1.ll; omega)
  change ∀ t z, Meets _ _ _ _ (fun r os fs => os = [] ∧ fs = [(r, zd (gev G (jv x) (jv y)))]) at c2
  refine meets_of_vc Tryz.func22 (by kernel_rfl) rfl (by kernel_rfl) (Nat.le_of_ble_eq_true rfl) ?_
  refine box_fact (Reads.fact (d := J x) (by repeat (first | exact List.Mem.head _ | apply List.Mem.tail))) fun px => ?_
  refine box_fact (Reads.fact (d := J y) (by repeat (first | exact List.Mem.head _ | apply List.Mem.tail))) fun py => ?_
  refine alloc_rule (d := I false []) fun o ho => ?_
  refine draw_rule [0, 1, 3, 2, 4, 5] [0, 1, 2, 3, 4, 5] (by kernel_rfl) (by kernel_rfl) ?_
  refine load_fact (d := J y) (by repeat (first | exact List.Mem.head _ | apply List.Mem.tail)) (load_J _) fun z1 => ?_
  refine load_fact (d := J x) (by repeat (first | exact List.Mem.head _ | apply List.Mem.tail)) (load_J _) fun z2 => ?_
  refine call_fn (c1 z1) (Seals.refl _ _) (by repeat (first | exact Sub.nil _ | refine Sub.cons (by repeat (first | exact List.Mem.head _ | apply List.Mem.tail)) ?_)) ?_
  rintro r1 _ _ ⟨rfl, rfl⟩
  refine call_fn (c2 r1 z2) (Seals.refl _ _) (by repeat (first | exact Sub.nil _ | refine Sub.cons (by repeat (first | exact List.Mem.head _ | apply List.Mem.tail)) ?_)) ?_
  rintro r2 _ _ ⟨rfl, rfl⟩
  refine store_box (d := zd (gev G (jv x) (jv y))) 0 rfl ho rfl (by kernel_rfl) ?_ ?_; exact Reads.fact (by repeat (first | exact List.Mem.head _ | apply List.Mem.tail))
  refine load_box (d := zd (gev G (jv x) (jv y))) 0 rfl ho rfl (load_I _ _) fun r => ?_
  exact fin ⟨rfl, rfl⟩ (Seals.trans (Seals.drop 0 _ _) (Seals.sub (fs' := [(r, zd (gev G (jv x) (jv y)))]) (by repeat (first | exact Sub.nil _ | refine Sub.cons (by repeat (first | exact List.Mem.head _ | apply List.Mem.tail)) ?_))))
end
end Go.Proofs.YtfkeohlpcjpkbaaGreat

namespace Go.Proofs.YtfkeohlpcjpkbaaGreat
open Go.RowKit
end Go.Proofs.YtfkeohlpcjpkbaaGreat

namespace Go.Proofs.YtfkeohlpcjpkbaaGreat
open Go.RowKit
theorem exactE (v w : Value) (x y : Int) (h : x = y) : Meets Tryz.prog 20 [v, w] [(v, zd x), (w, zd y)] (fun r os fs => os = [] ∧ fs = [] ∧ r = .bool true) := by
  have := exactW v w x y
  rw [decide_eq_true h] at this
  exact this
end Go.Proofs.YtfkeohlpcjpkbaaGreat

namespace Go.Proofs.YtfkeohlpcjpkbaaGreat
open Go.RowKit
end Go.Proofs.YtfkeohlpcjpkbaaGreat

namespace Go.Proofs.YtfkeohlpcjpkbaaGreat
open Go.RowKit
end Go.Proofs.YtfkeohlpcjpkbaaGreat

namespace Go.Proofs.YtfkeohlpcjpkbaaGreat
open Go.RowKit
theorem gTells_meets (u v w z : Value) (p q : List Row) (x y : Bool × List Nat) (hp : limM p) (hq : limM q) (hx : Lim x.2) (hy : Lim y.2) :
    Meets Tryz.prog 3 [u, v, w, z] [(u, W p), (v, W q), (w, J x), (z, J y)] (fun r os fs => os = [] ∧ fs = [] ∧ r = .bool true) := by
  refine meets_of_vc Tryz.func3 (by kernel_rfl) rfl (by kernel_rfl) (Nat.le_of_ble_eq_true rfl) ?_
  refine box_fact (Reads.fact (d := J x) (by repeat (first | exact List.Mem.head _ | apply List.Mem.tail))) fun px => ?_
  refine box_fact (Reads.fact (d := J y) (by repeat (first | exact List.Mem.head _ | apply List.Mem.tail))) fun py => ?_
  refine call_fn (shownG_meets) (Seals.refl _ _) (by repeat (first | exact Sub.nil _ | refine Sub.cons (by repeat (first | exact List.Mem.head _ | apply List.Mem.tail)) ?_)) ?_
  rintro _ _ _ ⟨rfl, rfl, rfl⟩
  refine call_fn (gFits_meets u p 6 6 2) (Seals.refl _ _) (by repeat (first | exact Sub.nil _ | refine Sub.cons (by repeat (first | exact List.Mem.head _ | apply List.Mem.tail)) ?_)) ?_
  rintro _ _ _ ⟨rfl, rfl, rfl⟩
  by_cases sp : small 6 6 2 p
  case neg =>
    rw [decide_eq_false sp]
    exact fin ⟨rfl, rfl, rfl⟩ (Seals.nil _ _)
  rw [decide_eq_true sp]
  refine call_fn (gFits_meets v q 6 6 2) (Seals.refl _ _) (by repeat (first | exact Sub.nil _ | refine Sub.cons (by repeat (first | exact List.Mem.head _ | apply List.Mem.tail)) ?_)) ?_
  rintro _ _ _ ⟨rfl, rfl, rfl⟩
  by_cases sq : small 6 6 2 q
  case neg =>
    rw [decide_eq_false sq]
    exact fin ⟨rfl, rfl, rfl⟩ (Seals.nil _ _)
  rw [decide_eq_true sq]
  refine field_fact (off := 1) (d := J x) (d' := U (x).2) (by repeat (first | exact List.Mem.head _ | apply List.Mem.tail)) (Part.right (Part.refl _)) fun _ => ?_
  refine load_fact (d := U (x).2) (by repeat (first | exact List.Mem.head _ | apply List.Mem.tail)) (load_L _) fun _ => ?_
  refine len_fact (by repeat (first | exact List.Mem.head _ | apply List.Mem.tail)) fun _ => ?_
  refine cmp_split _ rfl (fun hxl => ?_) (fun hxl => ?_)
  · exact fin ⟨rfl, rfl, rfl⟩ (Seals.nil _ _)
  have hxl : (x).2.length ≤ 2 := by omega
  refine field_fact (off := 1) (d := J y) (d' := U (y).2) (by repeat (first | exact List.Mem.head _ | apply List.Mem.tail)) (Part.right (Part.refl _)) fun _ => ?_
  refine load_fact (d := U (y).2) (by repeat (first | exact List.Mem.head _ | apply List.Mem.tail)) (load_L _) fun _ => ?_
  refine len_fact (by repeat (first | exact List.Mem.head _ | apply List.Mem.tail)) fun _ => ?_
  refine cmp_split _ rfl (fun hyl => ?_) (fun hyl => ?_)
  · exact fin ⟨rfl, rfl, rfl⟩ (Seals.nil _ _)
  have hyl : (y).2.length ≤ 2 := by omega
  obtain ⟨G, P⟩ : ∃ l, Lg p l 2 6 := ⟨_, Lg.raw sp hp⟩
  obtain ⟨H, Q⟩ : ∃ l, Lg q l 2 6 := ⟨_, Lg.raw sq hq⟩
  have o1 := gOwn_meets u p (Nat.le_trans P.len (by decide)) fun r hr => ⟨Nat.le_trans (P.row r hr).1 (by decide), fun x hx => Nat.le_trans ((P.row r hr).2 x hx).2 (by decide)⟩
  have o2 := gOwn_meets v q (Nat.le_trans Q.len (by decide)) fun r hr => ⟨Nat.le_trans (Q.row r hr).1 (by decide), fun x hx => Nat.le_trans ((Q.row r hr).2 x hx).2 (by decide)⟩
  have hPf := P.gf (j := 137438953472) (by decide) (by decide)
  have d2 := rDegrees12_meets u p (fun r hr => (hPf.row r hr).2) hPf.len (fun r hr => (hPf.row r hr).1)
  have t2 := rTurn12_meets u p hPf
  rw [P.val] at d2 t2
  refine call_fn (o1) (Seals.refl _ _) (by repeat (first | exact Sub.nil _ | refine Sub.cons (by repeat (first | exact List.Mem.head _ | apply List.Mem.tail)) ?_)) ?_
  rintro a _ _ ⟨rfl, rfl⟩
  refine call_fn (o2) (Seals.refl _ _) (by repeat (first | exact Sub.nil _ | refine Sub.cons (by repeat (first | exact List.Mem.head _ | apply List.Mem.tail)) ?_)) ?_
  rintro b _ _ ⟨rfl, rfl⟩
  refine call_fn (xgDegrees a P) (Seals.refl _ _) (by repeat (first | exact Sub.nil _ | refine Sub.cons (by repeat (first | exact List.Mem.head _ | apply List.Mem.tail)) ?_)) ?_
  rintro _ _ _ ⟨rfl, rfl, rfl⟩
  refine call_fn (d2) (Seals.refl _ _) (by repeat (first | exact Sub.nil _ | refine Sub.cons (by repeat (first | exact List.Mem.head _ | apply List.Mem.tail)) ?_)) ?_
  rintro _ _ _ ⟨rfl, rfl, rfl⟩
  refine call_fn (xgNorm a P) (Seals.refl _ _) (by repeat (first | exact Sub.nil _ | refine Sub.cons (by repeat (first | exact List.Mem.head _ | apply List.Mem.tail)) ?_)) ?_
  rintro x1 _ _ ⟨rfl, rfl⟩
  refine call_fn (rNorm12_meets u P) (Seals.refl _ _) (by repeat (first | exact Sub.nil _ | refine Sub.cons (by repeat (first | exact List.Mem.head _ | apply List.Mem.tail)) ?_)) ?_
  rintro x2 _ _ ⟨rfl, rfl⟩
  refine call_fn (gsameT x1 x2 _ _ rfl) (Seals.refl _ _) (by repeat (first | exact Sub.nil _ | refine Sub.cons (by repeat (first | exact List.Mem.head _ | apply List.Mem.tail)) ?_)) ?_
  rintro _ _ _ ⟨rfl, rfl, rfl⟩
  refine call_fn (xgSame a b P Q) (Seals.refl _ _) (by repeat (first | exact Sub.nil _ | refine Sub.cons (by repeat (first | exact List.Mem.head _ | apply List.Mem.tail)) ?_)) ?_
  rintro _ _ _ ⟨rfl, rfl, rfl⟩
  refine call_fn (rSame12_meets u v P Q) (Seals.refl _ _) (by repeat (first | exact Sub.nil _ | refine Sub.cons (by repeat (first | exact List.Mem.head _ | apply List.Mem.tail)) ?_)) ?_
  rintro _ _ _ ⟨rfl, rfl, rfl⟩
  refine beq_split (fun _ => ?_) (fun h => absurd rfl h)
  refine cmp_true rfl rfl ?_
  refine cmp_true rfl rfl ?_
  refine call_fn (xgAdd a b P Q) (Seals.refl _ _) (by repeat (first | exact Sub.nil _ | refine Sub.cons (by repeat (first | exact List.Mem.head _ | apply List.Mem.tail)) ?_)) ?_
  rintro x3 _ _ ⟨rfl, rfl⟩
  refine call_fn (rAdd12_meets u v P Q) (Seals.refl _ _) (by repeat (first | exact Sub.nil _ | refine Sub.cons (by repeat (first | exact List.Mem.head _ | apply List.Mem.tail)) ?_)) ?_
  rintro x4 _ _ ⟨rfl, rfl⟩
  refine call_fn (gsameT x3 x4 _ _ rfl) (Seals.refl _ _) (by repeat (first | exact Sub.nil _ | refine Sub.cons (by repeat (first | exact List.Mem.head _ | apply List.Mem.tail)) ?_)) ?_
  rintro _ _ _ ⟨rfl, rfl, rfl⟩
  refine call_fn (xgSub a b P Q) (Seals.refl _ _) (by repeat (first | exact Sub.nil _ | refine Sub.cons (by repeat (first | exact List.Mem.head _ | apply List.Mem.tail)) ?_)) ?_
  rintro x5 _ _ ⟨rfl, rfl⟩
  refine call_fn (rSub12_meets u v P Q) (Seals.refl _ _) (by repeat (first | exact Sub.nil _ | refine Sub.cons (by repeat (first | exact List.Mem.head _ | apply List.Mem.tail)) ?_)) ?_
  rintro x6 _ _ ⟨rfl, rfl⟩
  refine call_fn (gsameT x5 x6 _ _ rfl) (Seals.refl _ _) (by repeat (first | exact Sub.nil _ | refine Sub.cons (by repeat (first | exact List.Mem.head _ | apply List.Mem.tail)) ?_)) ?_
  rintro _ _ _ ⟨rfl, rfl, rfl⟩
  refine call_fn (xgMul a b P Q) (Seals.refl _ _) (by repeat (first | exact Sub.nil _ | refine Sub.cons (by repeat (first | exact List.Mem.head _ | apply List.Mem.tail)) ?_)) ?_
  rintro x7 _ _ ⟨rfl, rfl⟩
  refine call_fn (rMul12_meets u v P Q) (Seals.refl _ _) (by repeat (first | exact Sub.nil _ | refine Sub.cons (by repeat (first | exact List.Mem.head _ | apply List.Mem.tail)) ?_)) ?_
  rintro x8 _ _ ⟨rfl, rfl⟩
  refine call_fn (gsameT x7 x8 _ _ rfl) (Seals.refl _ _) (by repeat (first | exact Sub.nil _ | refine Sub.cons (by repeat (first | exact List.Mem.head _ | apply List.Mem.tail)) ?_)) ?_
  rintro _ _ _ ⟨rfl, rfl, rfl⟩
  refine draw_rule [0, 1, 2, 3, 4, 6, 7, 8, 5, 9, 10, 11, 12, 13, 14, 16, 17, 15, 18, 19, 20, 21] [0, 1, 2, 3, 4, 5, 6, 7, 8, 9, 10, 11, 12, 13, 14, 15, 16, 17, 18, 19, 20, 21] (by kernel_rfl) (by kernel_rfl) ?_
  refine load_fact (d := J x) (by repeat (first | exact List.Mem.head _ | apply List.Mem.tail)) (load_J _) fun z1 => ?_
  refine load_fact (d := J y) (by repeat (first | exact List.Mem.head _ | apply List.Mem.tail)) (load_J _) fun z2 => ?_
  refine load_fact (d := J x) (by repeat (first | exact List.Mem.head _ | apply List.Mem.tail)) (load_J _) fun z3 => ?_
  refine load_fact (d := J y) (by repeat (first | exact List.Mem.head _ | apply List.Mem.tail)) (load_J _) fun z4 => ?_
  refine call_fn (xgValue a z1 z2 P hx hxl hy hyl) (Seals.refl _ _) (by repeat (first | exact Sub.nil _ | refine Sub.cons (by repeat (first | exact List.Mem.head _ | apply List.Mem.tail)) ?_)) ?_
  rintro x9 _ _ ⟨rfl, rfl⟩
  refine call_fn (rValue12_meets u z3 z4 P hx hxl hy hyl) (Seals.refl _ _) (by repeat (first | exact Sub.nil _ | refine Sub.cons (by repeat (first | exact List.Mem.head _ | apply List.Mem.tail)) ?_)) ?_
  rintro x10 _ _ ⟨rfl, rfl⟩
  refine call_fn (exactE x9 x10 _ _ rfl) (Seals.refl _ _) (by repeat (first | exact Sub.nil _ | refine Sub.cons (by repeat (first | exact List.Mem.head _ | apply List.Mem.tail)) ?_)) ?_
  rintro _ _ _ ⟨rfl, rfl, rfl⟩
  refine load_fact (d := J x) (by repeat (first | exact List.Mem.head _ | apply List.Mem.tail)) (load_J _) fun z1 => ?_
  refine load_fact (d := J x) (by repeat (first | exact List.Mem.head _ | apply List.Mem.tail)) (load_J _) fun z3 => ?_
  refine call_fn (xgPutX a z1 P hx hxl) (Seals.refl _ _) (by repeat (first | exact Sub.nil _ | refine Sub.cons (by repeat (first | exact List.Mem.head _ | apply List.Mem.tail)) ?_)) ?_
  rintro x11 _ _ ⟨rfl, rfl⟩
  refine call_fn (rPutX12_meets u z3 P hx hxl) (Seals.refl _ _) (by repeat (first | exact Sub.nil _ | refine Sub.cons (by repeat (first | exact List.Mem.head _ | apply List.Mem.tail)) ?_)) ?_
  rintro x12 _ _ ⟨rfl, rfl⟩
  refine call_fn (exactT x11 x12 _ _ rfl) (Seals.refl _ _) (by repeat (first | exact Sub.nil _ | refine Sub.cons (by repeat (first | exact List.Mem.head _ | apply List.Mem.tail)) ?_)) ?_
  rintro _ _ _ ⟨rfl, rfl, rfl⟩
  refine draw_rule [0, 1, 2, 3, 5, 6, 4, 7, 8, 9, 10, 11, 13, 12, 14, 15, 16, 17] [0, 1, 2, 3, 4, 5, 6, 7, 8, 9, 10, 11, 12, 13, 14, 15, 16, 17] (by kernel_rfl) (by kernel_rfl) ?_
  refine load_fact (d := J y) (by repeat (first | exact List.Mem.head _ | apply List.Mem.tail)) (load_J _) fun z1 => ?_
  refine load_fact (d := J y) (by repeat (first | exact List.Mem.head _ | apply List.Mem.tail)) (load_J _) fun z3 => ?_
  refine call_fn (xgPutY a z1 P hy hyl) (Seals.refl _ _) (by repeat (first | exact Sub.nil _ | refine Sub.cons (by repeat (first | exact List.Mem.head _ | apply List.Mem.tail)) ?_)) ?_
  rintro x13 _ _ ⟨rfl, rfl⟩
  refine call_fn (rPutY12_meets u z3 P hy hyl) (Seals.refl _ _) (by repeat (first | exact Sub.nil _ | refine Sub.cons (by repeat (first | exact List.Mem.head _ | apply List.Mem.tail)) ?_)) ?_
  rintro x14 _ _ ⟨rfl, rfl⟩
  refine call_fn (exactT x13 x14 _ _ rfl) (Seals.refl _ _) (by repeat (first | exact Sub.nil _ | refine Sub.cons (by repeat (first | exact List.Mem.head _ | apply List.Mem.tail)) ?_)) ?_
  rintro _ _ _ ⟨rfl, rfl, rfl⟩
  refine call_fn (xgTurn a P) (Seals.refl _ _) (by repeat (first | exact Sub.nil _ | refine Sub.cons (by repeat (first | exact List.Mem.head _ | apply List.Mem.tail)) ?_)) ?_
  rintro x15 _ _ ⟨rfl, rfl⟩
  refine call_fn (t2) (Seals.refl _ _) (by repeat (first | exact Sub.nil _ | refine Sub.cons (by repeat (first | exact List.Mem.head _ | apply List.Mem.tail)) ?_)) ?_
  rintro x16 _ _ ⟨rfl, rfl⟩
  refine call_fn (gsameT x15 x16 _ _ rfl) (Seals.refl _ _) (by repeat (first | exact Sub.nil _ | refine Sub.cons (by repeat (first | exact List.Mem.head _ | apply List.Mem.tail)) ?_)) ?_
  rintro _ _ _ ⟨rfl, rfl, rfl⟩
  refine call_fn (gsameV a u p) (Seals.refl _ _) (by repeat (first | exact Sub.nil _ | refine Sub.cons (by repeat (first | exact List.Mem.head _ | apply List.Mem.tail)) ?_)) ?_
  rintro _ _ _ ⟨rfl, rfl, rfl⟩
  refine call_fn (gsameV b v q) (Seals.refl _ _) (by repeat (first | exact Sub.nil _ | refine Sub.cons (by repeat (first | exact List.Mem.head _ | apply List.Mem.tail)) ?_)) ?_
  rintro _ _ _ ⟨rfl, rfl, rfl⟩
  exact fin ⟨rfl, rfl, rfl⟩ (Seals.nil _ _)
end Go.Proofs.YtfkeohlpcjpkbaaGreat

namespace Go.Proofs.YtfkeohlpcjpkbaaGreat
open Go.ChangeShapes Go.WideShapes Go.ChangeAt Go.RowKit
open Go.Joins (open_agg2)
set_option maxRecDepth 100000 in
theorem gridTells_lifted (os : Os) (started : os.Started) (H : Type) (enc : TypeId × Value → H) :
    ReturnsInHanded {} Tryz.checked os 3 .any (Rows.gridTellsSpec.pre6 enc Tryz.prog Tryz.f3 Rows.gridTellsRow.domain false) (Rows.gridTellsSpec.post enc Tryz.prog Tryz.f3 false true false false) := by
  refine returnsInHanded_of_change (C := Tryz.checked) own0 started (by kernel_rfl) Tryz.func3
    (ChangeSpec.witness6 (enc := enc) (C := Tryz.checked) false ⟨#[], #[.slice none 0 0, .slice none 0 0, .agg #[.bool false, .slice none 0 0], .agg #[.bool false, .slice none 0 0]], []⟩ 8 (by kernel_rfl) (by kernel_rfl) (by kernel_rfl) (by kernel_rfl)) ?_
  intro Wd base args ds gs before hval0 hW hcnd _
  have hval : ∀ (j : Nat) t v, Tryz.f3.params[j]? = some t → args[j]? = some v → Value.okWide Tryz.prog Wd .any base t v := hval0
  have hW' := hW
  obtain ⟨p, q, hA0, hV, rfl, hfz, hnd⟩ := hW
  have hA : DataW.TrodAll enc Tryz.prog Wd 0 (fun _ => true) true Tryz.f3.params.toList args.toList ds p := hA0
  rw [Tryz.params3] at hA hval
  obtain ⟨v0, vs0, d0, ds0, p0, q0, hargs, rfl, rfl, h0, r0⟩ := trodAll_cons hA
  obtain ⟨v1, vs1, d1, ds1, p1, q1, rfl, rfl, rfl, h1, r1⟩ := trodAll_cons r0
  obtain ⟨v2, vs2, d2, ds2, p2, q2, rfl, rfl, rfl, h2, r2⟩ := trodAll_cons r1
  obtain ⟨v3, vs3, d3, ds3, p3, q3, rfl, rfl, rfl, h3, r3⟩ := trodAll_cons r2
  obtain ⟨rfl, rfl, rfl⟩ := trodAll_nil r3
  obtain rfl : args = #[v0, v1, v2, v3] := by cases args; simp_all
  obtain ⟨rfl, rfl⟩ := trodVars_none hV
  obtain ⟨a0, n0, c0, rfl⟩ := okWide_slice Tryz.underlying23 (hval 0 23 v0 rfl rfl)
  have k0 := h0
  have lt0 : ∀ x ∈ p0, x.block < Wd.heap.size := by obtain ⟨m, hm⟩ := k0; exact DataW.trod_lt m _ _ _ hm
  obtain ⟨m0, lm0, rd0⟩ : ∃ m, limM m ∧ Rd (fun b => b < Wd.heap.size) Wd (.slice a0 n0 c0) (W m) := by
    obtain ⟨fuel, hf⟩ := h0
    obtain ⟨m, e1, e2⟩ := rd_grid hf
    exact ⟨m, e1, rd_val rfl e2⟩
  obtain ⟨a1, n1, c1, rfl⟩ := okWide_slice Tryz.underlying23 (hval 1 23 v1 rfl rfl)
  have k1 := h1
  have lt1 : ∀ x ∈ p1, x.block < Wd.heap.size := by obtain ⟨m, hm⟩ := k1; exact DataW.trod_lt m _ _ _ hm
  obtain ⟨m1, lm1, rd1⟩ : ∃ m, limM m ∧ Rd (fun b => b < Wd.heap.size) Wd (.slice a1 n1 c1) (W m) := by
    obtain ⟨fuel, hf⟩ := h1
    obtain ⟨m, e1, e2⟩ := rd_grid hf
    exact ⟨m, e1, rd_val rfl e2⟩
  have k2 := h2
  have lt2 : ∀ x ∈ p2, x.block < Wd.heap.size := by obtain ⟨m, hm⟩ := k2; exact DataW.trod_lt m _ _ _ hm
  obtain ⟨m2, lm2, rd2⟩ : ∃ m : Bool × List Nat, Lim m.2 ∧ Rd (fun b => b < Wd.heap.size) Wd v2 (J m) := rd_arg (hval 2 26 v2 rfl rfl) h2
  have k3 := h3
  have lt3 : ∀ x ∈ p3, x.block < Wd.heap.size := by obtain ⟨m, hm⟩ := k3; exact DataW.trod_lt m _ _ _ hm
  obtain ⟨m3, lm3, rd3⟩ : ∃ m : Bool × List Nat, Lim m.2 ∧ Rd (fun b => b < Wd.heap.size) Wd v3 (J m) := rd_arg (hval 3 26 v3 rfl rfl) h3
  clear hA0 hval0
  refine (calls_of_meets (w := Wd) (gTells_meets (.slice a0 n0 c0) (.slice a1 n1 c1) v2 v3 m0 m1 m2 m3 lm0 lm1 lm2 lm3) ?_).mono fun e W2 ⟨he, bel⟩ => ?_
  · intro F hF
    simp only [List.mem_cons, List.not_mem_nil, or_false] at hF
    rcases hF with rfl | rfl | rfl | rfl
    · exact rd0
    · exact rd1
    · exact rd2
    · exact rd3
  subst he
  exact ⟨_, rfl, _, _, _, [], _, [], hW', trodAll_mk1 (shut_bool Tryz.underlying4 _), (trodAll_cons_mk (Below.trod laid0 (by kernel_rfl) (of_decide_eq_true (by kernel_rfl)) k0 bel lt0) (trodAll_cons_mk (Below.trod laid0 (by kernel_rfl) (of_decide_eq_true (by kernel_rfl)) k1 bel lt1) (trodAll_cons_mk (Below.trod laid0 (by kernel_rfl) (of_decide_eq_true (by kernel_rfl)) k2 bel lt2) (trodAll_cons_mk (Below.trod laid0 (by kernel_rfl) (of_decide_eq_true (by kernel_rfl)) k3 bel lt3) trodAll_mk0)))), rfl, bel.frame _, fun h => by cases h⟩
theorem gridTells_holds : Rows.GridTellsSaid :=
  OpenClaim.holds_of_wide 3 Tryz.f3 rfl rfl rfl rfl rfl rfl rfl ⟨rfl, rfl, rfl, rfl, rfl⟩ rfl rfl rfl rfl rfl (by kernel_rfl) Tryz.func3 (by kernel_rfl)
    (of_decide_eq_true (by kernel_rfl)) (by unfold Func.isWrapper; first | (rw [if_pos (by decide +kernel)]; kernel_rfl) | (rw [if_neg (by decide +kernel)]; exact ⟨rfl, rfl⟩))
    (fun os started H enc _ => gridTells_lifted os started H enc)
#print axioms gridTells_holds
end Go.Proofs.YtfkeohlpcjpkbaaGreat
