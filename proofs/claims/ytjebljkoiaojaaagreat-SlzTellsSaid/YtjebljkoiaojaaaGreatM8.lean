/- The law SlzTells is true of each input, and changes none. No condition. -/
import Derived.Test.YtjebljkoiaojaaaGreatM7
import Derived.Test.YtjebljkoiaojaaaGreatRows
import Derived.OpenShut
import Derived.Below
import Derived.Lib.SmallJoins
set_option linter.unusedVariables false
set_option linter.unusedSimpArgs false
namespace Go.Proofs.YtjebljkoiaojaaaGreat
open Go.RowKit
section
variable {A B : List Row} {G H : List (List Int)} {k n : Nat}
theorem rRow12_meets (v : Value) (i : Nat) (h : Lg A G k n) (hk : k ≤ 137438953472 := by decide) (hn : n ≤ 1024 := by decide) :
    Meets Tryz.prog 106 [v, .int .i64 (i : Nat)] [(v, W A)] (fun r os fs => os = [] ∧ fs = [(r, vd (nrm (G.getD i [])))]) := by
  have hval : vv (A.getD i []) = G.getD i [] := by rw [← h.val, ww_get]
  have hlen := h.len
  refine meets_of_vc Tryz.func106 (by kernel_rfl) rfl (by kernel_rfl) (Nat.le_of_ble_eq_true rfl) ?_
  refine cmp_false rfl (by omega) ?_
  refine len_fact qM fun _ => ?_
  refine cmp_split _ rfl (fun hge => ?_) (fun hge => ?_)
  · refine empty_F (size := 2) (e := 26) J z0 (by decide) fun e0 => ?_
    rw [← hval, getD_end (l := A) (by omega)]
    exact fin ⟨rfl, rfl⟩ (Seals.sub qS)
  · have hi : i < A.length := by omega
    have hr := h.row _ (getD_mem [] hi)
    refine index_fact qM i rfl hi fun b1 => ?_
    refine load_fact (d := V (A.getD i [])) qM (show TOne Tryz.prog 22 from inferInstance) fun u => ?_
    refine call_fn (rNormP_meets u (A.getD i []) (hr.2.mono hk) (by omega)) (Seals.refl _ _) qS ?_
    rintro r _ _ ⟨rfl, rfl⟩
    rw [hval]
    exact fin ⟨rfl, rfl⟩ (Seals.sub qS)
theorem rNorm12_meets (v : Value) (h : Lg A G k n) (hk : k ≤ 137438953472 := by decide) (hn : n ≤ 1024 := by decide) :
    Meets Tryz.prog 107 [v] [(v, W A)] (fun r os fs => os = [] ∧ fs = [(r, wd (gn G))]) := by
  have hf := h.gf hk (Nat.le_trans hn (by decide))
  have c1 := rDegrees12_meets v A (fun r hr => (hf.row r hr).2) hf.len (fun r hr => (hf.row r hr).1)
  have c2 := fun i => rRow12_meets v i h hk hn
  rw [h.val] at c1
  have hx : gdx G ≤ 1024 := Nat.le_trans h.dx hn
  have hy : gdy G ≤ 1024 := Nat.le_trans h.dy hn
  rw [gn_eq]
  generalize gdx G = a at *
  generalize gdy G = b at *
  refine meets_of_vc Tryz.func107 (by kernel_rfl) rfl (by kernel_rfl) (Nat.le_of_ble_eq_true rfl) ?_
  refine call_fn c1 (Seals.refl _ _) qS ?_
  rintro _ _ _ ⟨rfl, rfl, rfl⟩
  refine empty_L (size := 1) (e := 22) V [] (by decide) fun w hw => ?_
  refine loop_rule (X := Nat × Value) (fun x => ([(0, v), (3, .int .i64 ((a : Nat) - 1 : Int)), (5, x.2), (6, .int .i64 (x.1 : Nat))], [ownL 1 V [] x.2 (toW ((List.range x.1).map fun i => nrm (G.getD i [])))], [(v, W A)])) (fun x => x.1 ≤ a ∧ isSl x.2) (fun x => a - x.1) rfl ?_ ?_
  · exact again (0, w) ⟨Nat.zero_le _, hw⟩ trivial qF (Seals.sub qS)
  · rintro ⟨i, w⟩ ⟨h1, hw⟩
    simp only at h1 hw ⊢
    refine cmp_split _ rfl (fun hi => ?_) (fun hi => ?_)
    · have hia : i < a := by omega
      refine call_fn (c2 i) (Seals.refl _ _) qS ?_
      rintro r _ _ ⟨rfl, rfl⟩
      refine lit_L (size := 1) (e := 22) V [] ((nrm (G.getD i [])).map cn) (by decide) (Reads.fact qM) rfl fun l1 => ?_
      refine append_L (size := 1) (e := 22) 0 rfl hw (Knw.fact qM) (by simp; omega) (by simp; omega) fun w2 hw2 => ?_
      refine ar rfl qI ?_
      refine again (i + 1, w2) ⟨by simp only; omega, hw2⟩ (by simp only; omega) qF ?_
      rw [show toW ((List.range (i + 1)).map fun i => nrm (G.getD i [])) = toW ((List.range i).map fun i => nrm (G.getD i [])) ++ [(nrm (G.getD i [])).map cn] by simp [List.range_succ]]
      exact Seals.sub qS
    · have hia : i = a := by omega
      subst hia
      exact fin ⟨rfl, rfl⟩ (Seals.trans (Seals.L 0 rfl hw) (Seals.sub qS))
theorem Lg.zrow {f : List Int → List Int → List Int} {j : Nat} (h : Lg A G k n) (h' : Lg B H k n) (hf : ∀ l m, szR k l → szR k m → l.length ≤ n → m.length ≤ n → szR j (f l m) ∧ (f l m).length ≤ n) :
    Lg (Go.Proofs.YtjebljkoiaojaaaGreat.toW (zrow f G H (max G.length H.length))) (Go.Proofs.YtjebljkoiaojaaaGreat.zrow f G H (max G.length H.length)) j n := Lg.told (by rw [zrow_len]; exact Nat.max_le.2 ⟨h.ll, h'.ll⟩) fun r hr => by
  obtain ⟨i, _, rfl⟩ := List.mem_map.1 hr
  have := hf _ _ (h.g i).1 (h'.g i).1 (h.g i).2 (h'.g i).2
  exact ⟨this.2, this.1⟩
theorem rPAddT' (v w : Value) (p q : List Int) (k : Nat) (hp : szR k p) (hq : szR k q) (hk : k + 1 ≤ 137438953472) (lp : p.length ≤ 536870912) (lq : q.length ≤ 536870912) :
    Meets Tryz.prog 105 [v, w] [(v, vd p), (w, vd q)] (fun r os fs => os = [] ∧ fs = [(r, vd (padd p q))]) := by
  have := rPAdd_meets v w (p.map cn) (q.map cn) k hp.fit hq.fit hk (by rw [List.length_map]; exact lp) (by rw [List.length_map]; exact lq)
  rw [vv_cn, vv_cn] at this; exact this
theorem rPMulT' (v w : Value) (p q : List Int) (k j : Nat) (hp : szR k p) (hq : szR j q) (hk : k + j + 1 ≤ 137438953472) (lp : p.length ≤ 268435456) (lq : q.length ≤ 268435456) :
    Meets Tryz.prog 108 [v, w] [(v, vd p), (w, vd q)] (fun r os fs => os = [] ∧ fs = [(r, vd (pmul p q))]) := by
  have := rPMul_meets v w (p.map cn) (q.map cn) k j hp.fit hq.fit hk (by rw [List.length_map]; exact lp) (by rw [List.length_map]; exact lq)
  rw [vv_cn, vv_cn] at this; exact this
theorem rAdd12_meets (v w : Value) (h : Lg A G k n) (h' : Lg B H k n) (hk : k + 1 ≤ 137438953472 := by decide) (hn : n ≤ 1024 := by decide) :
    Meets Tryz.prog 62 [v, w] [(v, W A), (w, W B)] (fun r os fs => os = [] ∧ fs = [(r, wd (gadd G H))]) := by
  have la : A.length = G.length := by rw [← h.val, ww_len]
  have lb : B.length = H.length := by rw [← h'.val, ww_len]
  have l1 := h.len
  have l2 := h'.len
  have c1 := fun i => rRow12_meets v i h (by omega) hn
  have c2 := fun i => rRow12_meets w i h' (by omega) hn
  have hs1 := fun i => (h.g i).1.nrm
  have hs2 := fun i => (h'.g i).1.nrm
  have hl1 := fun i => Nat.le_trans (nrm_length_le (G.getD i [])) (h.g i).2
  have hl2 := fun i => Nat.le_trans (nrm_length_le (H.getD i [])) (h'.g i).2
  refine meets_of_vc Tryz.func62 (by kernel_rfl) rfl (by kernel_rfl) (Nat.le_of_ble_eq_true rfl) ?_
  refine empty_L (size := 1) (e := 22) V [] (by decide) fun w0 hw => ?_
  refine loop_rule (X := Nat × Value) (fun x => ([(0, v), (1, w), (5, x.2), (6, .int .i64 (x.1 : Nat))], [ownL 1 V [] x.2 (toW (zrow padd G H x.1))], [(v, W A), (w, W B)])) (fun x => x.1 ≤ max A.length B.length ∧ isSl x.2) (fun x => max A.length B.length - x.1) rfl ?_ ?_
  · exact again (0, w0) ⟨Nat.zero_le _, hw⟩ trivial qF (Seals.sub qS)
  · rintro ⟨i, w0⟩ ⟨h1, hw⟩
    simp only at h1 hw ⊢
    have hzl : (toW (zrow padd G H i)).length = i := by rw [List.length_map, zrow_len]
    refine len_fact qM fun _ => ?_
    refine len_fact qM fun _ => ?_
    refine max2_rule ?_
    refine cmp_split _ rfl (fun hi => ?_) (fun hi => ?_)
    ·
      refine call_fn (c1 i) (Seals.refl _ _) qS ?_
      rintro r1 _ _ ⟨rfl, rfl⟩
      refine call_fn (c2 i) (Seals.refl _ _) qS ?_
      rintro r2 _ _ ⟨rfl, rfl⟩
      refine call_fn (rPAddT' r1 r2 _ _ k (hs1 i) (hs2 i) hk (Nat.le_trans (hl1 i) (by omega)) (Nat.le_trans (hl2 i) (by omega))) (Seals.refl _ _) qS ?_
      rintro r3 _ _ ⟨rfl, rfl⟩
      refine lit_L (size := 1) (e := 22) V [] ((padd (nrm (G.getD i [])) (nrm (H.getD i []))).map cn) (by decide) (Reads.fact qM) rfl fun l1 => ?_
      refine append_L (size := 1) (e := 22) 0 rfl hw (Knw.fact qM) (by rw [hzl]; simp; omega) (by rw [hzl]; simp; omega) fun w2 hw2 => ?_
      refine ar rfl qI ?_
      refine again (i + 1, w2) ⟨by simp only; omega, hw2⟩ (by simp only; omega) qF ?_
      rw [show toW (zrow padd G H (i + 1)) = toW (zrow padd G H i) ++ [(padd (nrm (G.getD i [])) (nrm (H.getD i []))).map cn] by rw [zrow_succ, padd_nrm]; simp]
      exact Seals.sub qS
    · have hia : i = max G.length H.length := by omega
      subst hia
      refine call_fn (rNorm12_meets w0 (h.zrow (j := k + 1) h' fun _ _ a b c d => ⟨a.padd b, Nat.le_trans (padd_len _ _) (Nat.max_le.2 ⟨c, d⟩)⟩) (by omega) hn) (Seals.L 0 rfl hw) qS ?_
      rintro r _ _ ⟨rfl, rfl⟩
      exact fin ⟨rfl, rfl⟩ (Seals.sub qS)
theorem Lg.pc (h : Lg A G k n) (h' : Lg B H k n) (hn : n ≤ 1024) (i j : Nat) : szR (k + k + 1 + j) (pco G H i j) ∧ (pco G H i j).length ≤ n + n := by
  induction j with
  | zero => exact ⟨fun x hx => by simp [pco] at hx, Nat.zero_le _⟩
  | succ j ih =>
    have a1 := nrm_length_le (G.getD j [])
    have a2 := nrm_length_le (H.getD (i - j) [])
    have b1 := (h.g j).2
    have b2 := (h'.g (i - j)).2
    have h1 := (h.g j).1.nrm.pmul (h'.g (i - j)).1.nrm (by omega)
    have h2 := pmul_len (Go.Proofs.YtjebljkoiaojaaaGreat.nrm (G.getD j [])) (Go.Proofs.YtjebljkoiaojaaaGreat.nrm (H.getD (i - j) []))
    exact ⟨ih.1.padd (h1.mono (by omega)), Nat.le_trans (padd_len _ _) (Nat.max_le.2 ⟨ih.2, by omega⟩)⟩
theorem rMul12_meets (v w : Value) (h : Lg A G k n) (h' : Lg B H k n) (hk : k + k + 10000 ≤ 137438953472 := by decide) (hn : n ≤ 512 := by decide) :
    Meets Tryz.prog 63 [v, w] [(v, W A), (w, W B)] (fun r os fs => os = [] ∧ fs = [(r, wd (gmu G H))]) := by
  have la : A.length = G.length := by rw [← h.val, ww_len]
  have lb : B.length = H.length := by rw [← h'.val, ww_len]
  have l1 := h.len
  have l2 := h'.len
  have c1 := fun i => rRow12_meets v i h (by omega) (by omega)
  have c2 := fun i => rRow12_meets w i h' (by omega) (by omega)
  have hs1 := fun i => (h.g i).1.nrm
  have hs2 := fun i => (h'.g i).1.nrm
  have hl1 := fun i => Nat.le_trans (nrm_length_le (G.getD i [])) (h.g i).2
  have hl2 := fun i => Nat.le_trans (nrm_length_le (H.getD i [])) (h'.g i).2
  have hpc := fun i j => h.pc h' (by omega) i j
  rw [← gcl_mu]
  have hfin : Lg (Go.Proofs.YtjebljkoiaojaaaGreat.toW (gcl G H)) (gcl G H) (k + k + 1 + 1025) (n + n) := Lg.told (by unfold gcl; rw [List.length_map, List.length_range]; omega) fun r hr => by
    obtain ⟨i, hi, rfl⟩ := List.mem_map.1 hr
    have := List.mem_range.1 hi
    exact ⟨(hpc i (i + 1)).2, (hpc i (i + 1)).1.mono (by omega)⟩
  refine meets_of_vc Tryz.func63 (by kernel_rfl) rfl (by kernel_rfl) (Nat.le_of_ble_eq_true rfl) ?_
  refine empty_L (size := 1) (e := 22) V [] (by decide) fun w0 hw => ?_
  refine loop_rule (X := Nat × Value) (fun x => ([(0, v), (1, w), (5, x.2), (6, .int .i64 (x.1 : Nat))], [ownL 1 V [] x.2 (toW ((List.range x.1).map fun i => pco G H i (i + 1)))], [(v, W A), (w, W B)])) (fun x => x.1 ≤ A.length + B.length ∧ isSl x.2) (fun x => A.length + B.length - x.1) rfl ?_ ?_
  · exact again (0, w0) ⟨Nat.zero_le _, hw⟩ trivial qF (Seals.sub qS)
  · rintro ⟨i, w0⟩ ⟨h1, hw⟩
    simp only at h1 hw ⊢
    refine len_fact qM fun _ => ?_
    refine len_fact qM fun _ => ?_
    refine ar rfl qI ?_
    refine cmp_split _ rfl (fun hi => ?_) (fun hi => ?_)
    · refine empty_F (size := 2) (e := 26) J z0 (by decide) fun e0 => ?_
      rw [show LD 2 J z0 [] = vd (pco G H i 0) from rfl]
      refine loop_rule (X := Nat × Value) (fun x => ([(0, v), (1, w), (5, w0), (6, .int .i64 (i : Nat)), (7, x.2), (8, .int .i64 (x.1 : Nat))], [ownL 1 V [] w0 (toW ((List.range i).map fun i => pco G H i (i + 1)))], [(x.2, vd (pco G H i x.1)), (v, W A), (w, W B)])) (fun x => x.1 ≤ i + 1) (fun x => i + 1 - x.1) rfl ?_ ?_
      · exact again (0, e0) (Nat.zero_le _) trivial qF (Seals.sub qS)
      · rintro ⟨j, s⟩ h2
        simp only at h2 ⊢
        refine cmp_split _ rfl (fun hj => ?_) (fun hj => ?_)
        · have hstep : pco G H i (j + 1) = padd (pco G H i j) (pmul (nrm (G.getD j [])) (nrm (H.getD (i - j) []))) := rfl
          have p1 := hpc i j
          have a1 := hl1 j
          have a2 := hl2 (i - j)
          have p2 := (hs1 j).pmul (hs2 (i - j)) (by omega)
          have p3 := pmul_len (nrm (G.getD j [])) (nrm (H.getD (i - j) []))
          refine call_fn (c1 j) (Seals.refl _ _) qS ?_
          rintro r1 _ _ ⟨rfl, rfl⟩
          refine ar (n := ((i - j : Nat) : Int)) (by simp only [arZ, Option.some.injEq]; omega) qI ?_
          refine call_fn (c2 (i - j)) (Seals.refl _ _) qS ?_
          rintro r2 _ _ ⟨rfl, rfl⟩
          refine call_fn (rPMulT' r1 r2 _ _ k k (hs1 j) (hs2 (i - j)) (by omega) (by omega) (by omega)) (Seals.refl _ _) qS ?_
          rintro r3 _ _ ⟨rfl, rfl⟩
          refine call_fn (rPAddT' s r3 _ _ (k + k + 1 + j) p1.1 (p2.mono (by omega)) (by omega) (by omega) (by omega)) (Seals.refl _ _) qS ?_
          rintro r4 _ _ ⟨rfl, rfl⟩
          refine ar rfl qI ?_
          refine again (j + 1, r4) (by simp only; omega) (by simp only; omega) qF ?_
          simp only
          rw [hstep]
          exact Seals.sub qS
        · have hji : j = i + 1 := by omega
          subst hji
          refine lit_L (size := 1) (e := 22) V [] ((pco G H i (i + 1)).map cn) (by decide) (Reads.fact qM) rfl fun l1 => ?_
          refine append_L (size := 1) (e := 22) 0 rfl hw (Knw.fact qM) (by simp; omega) (by simp; omega) fun w2 hw2 => ?_
          refine ar rfl qI ?_
          refine again (i + 1, w2) ⟨by simp only; omega, hw2⟩ (by simp only; omega) qF ?_
          rw [show toW ((List.range (i + 1)).map fun i => pco G H i (i + 1)) = toW ((List.range i).map fun i => pco G H i (i + 1)) ++ [(pco G H i (i + 1)).map cn] by simp [List.range_succ]]
          exact Seals.sub qS
    · have hia : i = G.length + H.length := by omega
      subst hia
      refine call_fn (rNorm12_meets w0 hfin (by omega) (by omega)) (Seals.L 0 rfl hw) qS ?_
      rintro r _ _ ⟨rfl, rfl⟩
      exact fin ⟨rfl, rfl⟩ (Seals.sub qS)
end
open Go.RowKit
open Go.RowKit
end Go.Proofs.YtjebljkoiaojaaaGreat
namespace Go.Proofs.YtjebljkoiaojaaaGreat
end Go.Proofs.YtjebljkoiaojaaaGreat
namespace Go.Proofs.YtjebljkoiaojaaaGreat
end Go.Proofs.YtjebljkoiaojaaaGreat
namespace Go.Proofs.YtjebljkoiaojaaaGreat
end Go.Proofs.YtjebljkoiaojaaaGreat
namespace Go.Proofs.YtjebljkoiaojaaaGreat
end Go.Proofs.YtjebljkoiaojaaaGreat
namespace Go.Proofs.YtjebljkoiaojaaaGreat
end Go.Proofs.YtjebljkoiaojaaaGreat
namespace Go.Proofs.YtjebljkoiaojaaaGreat
theorem ev_repl (d : Nat) (l : List Int) (x : Int) : pev (List.replicate d 0 ++ l) x = x ^ d * pev l x := by
  induction d with
  | zero => simp
  | succ d ih => rw [List.replicate_succ, List.cons_append, pev, ih, Int.pow_succ]; grind
end Go.Proofs.YtjebljkoiaojaaaGreat
namespace Go.Proofs.YtjebljkoiaojaaaGreat
open Go.RowKit
open Go.RowKit
open Go.RowKit
open Go.RowKit
theorem rCmpJ6 (v w : Value) (x y : Bool × List Nat) (a : Nat) (hx : Lim x.2) (lx : x.2.length ≤ a) (hy : Lim y.2) (ly : y.2.length ≤ a) (ha : a ≤ 137438953471) :
    Meets Tryz.prog 22 [v, w] [(v, J x), (w, J y)] (fun r os fs => os = [] ∧ fs = [] ∧ r = .int .i64 (jv x - jv y).sign) := by
  have h : ∀ y1 y2, Meets Tryz.prog 39 [y1, y2] [(y1, J x), (y2, J y)] (fun r os fs => os = [] ∧ fs = [(r, zd (jv x - jv y))]) := fun y1 y2 => rZSub_meets y1 y2 x.1 y.1 x.2 y.2 hx hy (by omega) (by omega)
  have hd : sz (jv x - jv y) (a + 1) := sz_sub (sz_jv hx lx) (sz_jv hy ly)
  have hs := fun z => rSign_meets z (decide (jv x - jv y < 0)) (lims (jv x - jv y).natAbs) (Lim_lims _) (Nat.le_trans hd.len (by omega))
  simp only [iv_zd] at hs
  refine meets_of_vc Tryz.func22 (by kernel_rfl) rfl (by kernel_rfl) (Nat.le_of_ble_eq_true rfl) ?_
  refine box_rule (Reads.fact (d := J x) qM) fun p hp => ?_
  refine box_rule (Reads.fact (d := J y) qM) fun q hq => ?_
  refine load_box (d := J x) 1 rfl hp rfl (load_J _) fun y1 => ?_
  refine load_box (d := J y) 0 rfl hq rfl (load_J _) fun y2 => ?_
  refine call_fn (h y1 y2) (Seals.refl _ _) qS ?_
  rintro z _ _ ⟨rfl, rfl⟩
  refine call_fn (hs z) (Seals.refl _ _) qS ?_
  rintro _ _ _ ⟨rfl, rfl, rfl⟩
  exact fin ⟨rfl, rfl, rfl⟩ (Seals.trans (Seals.drop 0 _ _) (Seals.trans (Seals.drop 0 _ _) (Seals.nil _ _)))
open Go.RowKit
theorem rWithin17_meets (v w u t : Value) (p : Row) (m y x : Bool × List Nat) (k a : Nat) (hp : Fit k p) (lp : p.length ≤ 1000) (hk : k ≤ 1000000) (hm : Lim m.2) (hma : m.2.length ≤ a) (hy : Lim y.2) (hya : y.2.length ≤ a) (hx : Lim x.2) (hxa : x.2.length ≤ a) (ha : a ≤ 1000000) :
    Meets Tryz.prog 14 [v, w, u, t] [(v, V p), (w, J m), (u, J y), (t, J x)] (fun r os fs => os = [] ∧ fs = [] ∧ r = .tuple #[.bool (withinR (vv p) (jv m) (jv y) (jv x)).1, .int .i64 (withinR (vv p) (jv m) (jv y) (jv x)).2]) := by
  have zm := sz_jv hm hma
  have zy := sz_jv hy hya
  have hmul : (p.length + 2) * (a + 1) ≤ 1002 * (a + 1) := Nat.mul_le_mul_right _ (by omega)
  have hsm : ∀ z, Meets Tryz.prog 44 [z] [(z, J m)] (fun r os fs => os = [] ∧ fs = [] ∧ r = .int .i64 (jv m).sign) := fun z => rSign_meets z m.1 m.2 hm (by omega)
  have hsy : ∀ z, Meets Tryz.prog 44 [z] [(z, J y)] (fun r os fs => os = [] ∧ fs = [] ∧ r = .int .i64 (jv y).sign) := fun z => rSign_meets z y.1 y.2 hy (by omega)
  have hv := fun z => rValueJ v z p x k a hp hx hxa (by omega) (by omega)
  have zv : sz (pev (vv p) (jv x)) 1073741824 := (ev_sz hp.szR (sz_jv hx hxa)).mono (by
    rw [vv_len]
    have : p.length * (a + 1) ≤ 1000 * (a + 1) := Nat.mul_le_mul_right _ lp
    omega)
  refine meets_of_vc Tryz.func14 (by kernel_rfl) rfl (by kernel_rfl) (Nat.le_of_ble_eq_true rfl) ?_
  refine box_rule (Reads.fact (d := J m) qM) fun b1 h1 => ?_
  refine box_rule (Reads.fact (d := J y) qM) fun b2 h2 => ?_
  refine box_rule (Reads.fact (d := J x) qM) fun b3 h3 => ?_
  refine load_box (d := J m) 2 rfl h1 rfl (load_J _) fun y1 => ?_
  refine call_fn (hsm y1) (Seals.refl _ _) qS ?_
  rintro _ _ _ ⟨rfl, rfl, rfl⟩
  refine cmp_split _ rfl (fun hl => ?_) (fun hl => ?_)
  · rw [show withinR (vv p) (jv m) (jv y) (jv x) = (false, 1) from if_pos (.inl (sgn_lt1.1 hl))]
    exact fin ⟨rfl, rfl, rfl⟩ (Seals.trans (Seals.drop 0 _ _) (Seals.trans (Seals.drop 0 _ _) (Seals.trans (Seals.drop 0 _ _) (Seals.nil _ _))))
  have hm1 : ¬ jv m < 1 := fun h => hl (sgn_lt1.2 h)
  refine load_box (d := J y) 1 rfl h2 rfl (load_J _) fun y2 => ?_
  refine call_fn (hsy y2) (Seals.refl _ _) qS ?_
  rintro _ _ _ ⟨rfl, rfl, rfl⟩
  refine cmp_split _ rfl (fun hl2 => ?_) (fun hl2 => ?_)
  · rw [show withinR (vv p) (jv m) (jv y) (jv x) = (false, 1) from if_pos (.inr (sgn_lt.1 hl2))]
    exact fin ⟨rfl, rfl, rfl⟩ (Seals.trans (Seals.drop 0 _ _) (Seals.trans (Seals.drop 0 _ _) (Seals.trans (Seals.drop 0 _ _) (Seals.nil _ _))))
  rw [show withinR (vv p) (jv m) (jv y) (jv x) = (near (pev (vv p) (jv x)) (jv m) (jv y), 0) from if_neg (fun h => h.elim hm1 fun h => hl2 (sgn_lt.2 h))]
  have hdm : ∀ z1 z2, Meets Tryz.prog 37 [z1, z2] [(z1, zd (pev (vv p) (jv x))), (z2, J m)] (fun r os fs => os = [] ∧ ∃ q s, r = .tuple #[q, s, .bool true] ∧ fs = [(q, zd (pev (vv p) (jv x) / jv m)), (s, zd (pev (vv p) (jv x) % jv m))]) := fun z1 z2 => by
    have := rZDivMod_meets z1 z2 (decide (pev (vv p) (jv x) < 0)) m.1 (lims (pev (vv p) (jv x)).natAbs) m.2 (Lim_lims _) hm (Nat.le_trans zv.len (by decide)) (by omega) (by show jv m ≠ 0; omega)
    rw [iv_zd] at this
    exact this
  have hr : sz (pev (vv p) (jv x) % jv m) a := by
    have h1 := Int.emod_nonneg (pev (vv p) (jv x)) (show jv m ≠ 0 by omega)
    have h2 := Int.emod_lt_of_pos (pev (vv p) (jv x)) (show 0 < jv m by omega)
    clear zv hdm hv
    unfold sz at *
    omega
  have hne : near (pev (vv p) (jv x)) (jv m) (jv y) = (decide (pev (vv p) (jv x) % jv m ≤ jv y) || decide (jv m - pev (vv p) (jv x) % jv m ≤ jv y)) := rfl
  rw [hne]
  clear zv hne
  generalize pev (vv p) (jv x) / jv m = Q at *
  generalize pev (vv p) (jv x) % jv m = R at *
  generalize pev (vv p) (jv x) = Z at *
  have hc1 : ∀ z1 z2, Meets Tryz.prog 22 [z1, z2] [(z1, zd R), (z2, J y)] (fun r os fs => os = [] ∧ fs = [] ∧ r = .int .i64 (R - jv y).sign) := fun z1 z2 => by
    have := rCmpJ6 z1 z2 (cn R) y a (Lim_lims _) hr.len hy hya (by omega)
    rw [jv_cn] at this
    exact this
  have hsb : ∀ z1 z2, Meets Tryz.prog 39 [z1, z2] [(z1, J m), (z2, zd R)] (fun r os fs => os = [] ∧ fs = [(r, zd (jv m - R))]) := fun z1 z2 => by
    have := rZSub_meets z1 z2 m.1 (decide (R < 0)) m.2 (lims R.natAbs) hm (Lim_lims _) (by omega) (Nat.le_trans hr.len (by omega))
    rw [iv_zd] at this
    exact this
  have hc2 : ∀ z1 z2, Meets Tryz.prog 22 [z1, z2] [(z1, zd (jv m - R)), (z2, J y)] (fun r os fs => os = [] ∧ fs = [] ∧ r = .int .i64 (jv m - R - jv y).sign) := fun z1 z2 => by
    have := rCmpJ6 z1 z2 (cn (jv m - R)) y (a + 1) (Lim_lims _) (sz_sub zm hr).len hy (by omega) (by omega)
    rw [jv_cn] at this
    exact this
  refine draw_join (X := Value) (fun br => ([(5, b1), (6, b2), (11, br)], [own1 br 2 1 (fun _ => zd R), own1 b3 2 1 (fun _ => J x), own1 b2 2 1 (fun _ => J y), own1 b1 2 1 (fun _ => J m)], [])) isBox ?_ ?_
  ·
      refine draw_ord [0, 1, 2, 3, 4, 5, 6, 9, 10, 11, 7, 12, 8, 13] (by kernel_rfl) ?_
      refine ord_split 2 9 (by kernel_rfl) (by kernel_rfl) (by kernel_rfl) ?_ ?_
      · refine ord_split 2 10 (by kernel_rfl) (by kernel_rfl) (by kernel_rfl) ?_ ?_
        · refine ord_split 4 9 (by kernel_rfl) (by kernel_rfl) (by kernel_rfl) ?_ ?_
          · refine ord_split 4 10 (by kernel_rfl) (by kernel_rfl) (by kernel_rfl) ?_ ?_
            · refine ord_split 9 10 (by kernel_rfl) (by kernel_rfl) (by kernel_rfl) ?_ ?_
              · refine ord_go [0, 1, 3, 2, 4, 5, 6, 7, 8, 9, 10, 11, 12, 13] (by kernel_rfl) (by kernel_rfl) ?_
                refine load_box (d := J x) 0 rfl h3 rfl (load_J _) fun y3 => ?_
                refine load_box (d := J m) 2 rfl h1 rfl (load_J _) fun y4 => ?_
                refine call_fn (hv y3) (Seals.refl _ _) qS ?_
                rintro y5 _ _ ⟨rfl, rfl⟩
                refine call_fn (hdm y5 y4) (Seals.refl _ _) qS ?_
                rintro _ _ _ ⟨rfl, q, r, rfl, rfl⟩
                refine alloc_rule (d := I false []) fun bq hbq => ?_
                refine alloc_rule (d := I false []) fun br hbr => ?_
                refine store_box (d := zd Q) 1 rfl hbq rfl (by kernel_rfl) (Reads.fact (v := q) qM) ?_
                refine store_box (d := zd R) 0 rfl hbr rfl (by kernel_rfl) (Reads.fact (v := r) qM) ?_
                exact again br hbr trivial qF (Seals.trans (Seals.drop 1 _ _) (Seals.trans (Seals.box0 rfl) (Seals.sub (fs' := []) qS)))
              · refine ord_go [0, 1, 3, 2, 4, 5, 6, 7, 8, 10, 9, 11, 12, 13] (by kernel_rfl) (by kernel_rfl) ?_
                refine load_box (d := J x) 0 rfl h3 rfl (load_J _) fun y3 => ?_
                refine load_box (d := J m) 2 rfl h1 rfl (load_J _) fun y4 => ?_
                refine call_fn (hv y3) (Seals.refl _ _) qS ?_
                rintro y5 _ _ ⟨rfl, rfl⟩
                refine call_fn (hdm y5 y4) (Seals.refl _ _) qS ?_
                rintro _ _ _ ⟨rfl, q, r, rfl, rfl⟩
                refine alloc_rule (d := I false []) fun br hbr => ?_
                refine alloc_rule (d := I false []) fun bq hbq => ?_
                refine store_box (d := zd Q) 0 rfl hbq rfl (by kernel_rfl) (Reads.fact (v := q) qM) ?_
                refine store_box (d := zd R) 1 rfl hbr rfl (by kernel_rfl) (Reads.fact (v := r) qM) ?_
                exact again br hbr trivial qF (Seals.trans (Seals.drop 0 _ _) (Seals.trans (Seals.box0 rfl) (Seals.sub (fs' := []) qS)))
            · refine ord_go [0, 1, 3, 2, 10, 4, 5, 6, 7, 8, 9, 11, 12, 13] (by kernel_rfl) (by kernel_rfl) ?_
              refine load_box (d := J x) 0 rfl h3 rfl (load_J _) fun y3 => ?_
              refine load_box (d := J m) 2 rfl h1 rfl (load_J _) fun y4 => ?_
              refine call_fn (hv y3) (Seals.refl _ _) qS ?_
              rintro y5 _ _ ⟨rfl, rfl⟩
              refine alloc_rule (d := I false []) fun br hbr => ?_
              refine call_fn (hdm y5 y4) (Seals.refl _ _) qS ?_
              rintro _ _ _ ⟨rfl, q, r, rfl, rfl⟩
              refine alloc_rule (d := I false []) fun bq hbq => ?_
              refine store_box (d := zd Q) 0 rfl hbq rfl (by kernel_rfl) (Reads.fact (v := q) qM) ?_
              refine store_box (d := zd R) 1 rfl hbr rfl (by kernel_rfl) (Reads.fact (v := r) qM) ?_
              exact again br hbr trivial qF (Seals.trans (Seals.drop 0 _ _) (Seals.trans (Seals.box0 rfl) (Seals.sub (fs' := []) qS)))
          · refine ord_split 4 10 (by kernel_rfl) (by kernel_rfl) (by kernel_rfl) ?_ ?_
            · refine ord_go [0, 1, 3, 2, 9, 4, 5, 6, 7, 8, 10, 11, 12, 13] (by kernel_rfl) (by kernel_rfl) ?_
              refine load_box (d := J x) 0 rfl h3 rfl (load_J _) fun y3 => ?_
              refine load_box (d := J m) 2 rfl h1 rfl (load_J _) fun y4 => ?_
              refine call_fn (hv y3) (Seals.refl _ _) qS ?_
              rintro y5 _ _ ⟨rfl, rfl⟩
              refine alloc_rule (d := I false []) fun bq hbq => ?_
              refine call_fn (hdm y5 y4) (Seals.refl _ _) qS ?_
              rintro _ _ _ ⟨rfl, q, r, rfl, rfl⟩
              refine alloc_rule (d := I false []) fun br hbr => ?_
              refine store_box (d := zd Q) 1 rfl hbq rfl (by kernel_rfl) (Reads.fact (v := q) qM) ?_
              refine store_box (d := zd R) 0 rfl hbr rfl (by kernel_rfl) (Reads.fact (v := r) qM) ?_
              exact again br hbr trivial qF (Seals.trans (Seals.drop 1 _ _) (Seals.trans (Seals.box0 rfl) (Seals.sub (fs' := []) qS)))
            · refine ord_split 9 10 (by kernel_rfl) (by kernel_rfl) (by kernel_rfl) ?_ ?_
              · refine ord_go [0, 1, 3, 2, 9, 10, 4, 5, 6, 7, 8, 11, 12, 13] (by kernel_rfl) (by kernel_rfl) ?_
                refine load_box (d := J x) 0 rfl h3 rfl (load_J _) fun y3 => ?_
                refine load_box (d := J m) 2 rfl h1 rfl (load_J _) fun y4 => ?_
                refine call_fn (hv y3) (Seals.refl _ _) qS ?_
                rintro y5 _ _ ⟨rfl, rfl⟩
                refine alloc_rule (d := I false []) fun bq hbq => ?_
                refine alloc_rule (d := I false []) fun br hbr => ?_
                refine call_fn (hdm y5 y4) (Seals.refl _ _) qS ?_
                rintro _ _ _ ⟨rfl, q, r, rfl, rfl⟩
                refine store_box (d := zd Q) 1 rfl hbq rfl (by kernel_rfl) (Reads.fact (v := q) qM) ?_
                refine store_box (d := zd R) 0 rfl hbr rfl (by kernel_rfl) (Reads.fact (v := r) qM) ?_
                exact again br hbr trivial qF (Seals.trans (Seals.drop 1 _ _) (Seals.trans (Seals.box0 rfl) (Seals.sub (fs' := []) qS)))
              · refine ord_go [0, 1, 3, 2, 10, 9, 4, 5, 6, 7, 8, 11, 12, 13] (by kernel_rfl) (by kernel_rfl) ?_
                refine load_box (d := J x) 0 rfl h3 rfl (load_J _) fun y3 => ?_
                refine load_box (d := J m) 2 rfl h1 rfl (load_J _) fun y4 => ?_
                refine call_fn (hv y3) (Seals.refl _ _) qS ?_
                rintro y5 _ _ ⟨rfl, rfl⟩
                refine alloc_rule (d := I false []) fun br hbr => ?_
                refine alloc_rule (d := I false []) fun bq hbq => ?_
                refine call_fn (hdm y5 y4) (Seals.refl _ _) qS ?_
                rintro _ _ _ ⟨rfl, q, r, rfl, rfl⟩
                refine store_box (d := zd Q) 0 rfl hbq rfl (by kernel_rfl) (Reads.fact (v := q) qM) ?_
                refine store_box (d := zd R) 1 rfl hbr rfl (by kernel_rfl) (Reads.fact (v := r) qM) ?_
                exact again br hbr trivial qF (Seals.trans (Seals.drop 0 _ _) (Seals.trans (Seals.box0 rfl) (Seals.sub (fs' := []) qS)))
        · refine ord_split 4 9 (by kernel_rfl) (by kernel_rfl) (by kernel_rfl) ?_ ?_
          · refine ord_go [0, 1, 3, 10, 2, 4, 5, 6, 7, 8, 9, 11, 12, 13] (by kernel_rfl) (by kernel_rfl) ?_
            refine load_box (d := J x) 0 rfl h3 rfl (load_J _) fun y3 => ?_
            refine load_box (d := J m) 2 rfl h1 rfl (load_J _) fun y4 => ?_
            refine alloc_rule (d := I false []) fun br hbr => ?_
            refine call_fn (hv y3) (Seals.refl _ _) qS ?_
            rintro y5 _ _ ⟨rfl, rfl⟩
            refine call_fn (hdm y5 y4) (Seals.refl _ _) qS ?_
            rintro _ _ _ ⟨rfl, q, r, rfl, rfl⟩
            refine alloc_rule (d := I false []) fun bq hbq => ?_
            refine store_box (d := zd Q) 0 rfl hbq rfl (by kernel_rfl) (Reads.fact (v := q) qM) ?_
            refine store_box (d := zd R) 1 rfl hbr rfl (by kernel_rfl) (Reads.fact (v := r) qM) ?_
            exact again br hbr trivial qF (Seals.trans (Seals.drop 0 _ _) (Seals.trans (Seals.box0 rfl) (Seals.sub (fs' := []) qS)))
          · refine ord_go [0, 1, 3, 10, 2, 9, 4, 5, 6, 7, 8, 11, 12, 13] (by kernel_rfl) (by kernel_rfl) ?_
            refine load_box (d := J x) 0 rfl h3 rfl (load_J _) fun y3 => ?_
            refine load_box (d := J m) 2 rfl h1 rfl (load_J _) fun y4 => ?_
            refine alloc_rule (d := I false []) fun br hbr => ?_
            refine call_fn (hv y3) (Seals.refl _ _) qS ?_
            rintro y5 _ _ ⟨rfl, rfl⟩
            refine alloc_rule (d := I false []) fun bq hbq => ?_
            refine call_fn (hdm y5 y4) (Seals.refl _ _) qS ?_
            rintro _ _ _ ⟨rfl, q, r, rfl, rfl⟩
            refine store_box (d := zd Q) 0 rfl hbq rfl (by kernel_rfl) (Reads.fact (v := q) qM) ?_
            refine store_box (d := zd R) 1 rfl hbr rfl (by kernel_rfl) (Reads.fact (v := r) qM) ?_
            exact again br hbr trivial qF (Seals.trans (Seals.drop 0 _ _) (Seals.trans (Seals.box0 rfl) (Seals.sub (fs' := []) qS)))
      · refine ord_split 2 10 (by kernel_rfl) (by kernel_rfl) (by kernel_rfl) ?_ ?_
        · refine ord_split 4 10 (by kernel_rfl) (by kernel_rfl) (by kernel_rfl) ?_ ?_
          · refine ord_go [0, 1, 3, 9, 2, 4, 5, 6, 7, 8, 10, 11, 12, 13] (by kernel_rfl) (by kernel_rfl) ?_
            refine load_box (d := J x) 0 rfl h3 rfl (load_J _) fun y3 => ?_
            refine load_box (d := J m) 2 rfl h1 rfl (load_J _) fun y4 => ?_
            refine alloc_rule (d := I false []) fun bq hbq => ?_
            refine call_fn (hv y3) (Seals.refl _ _) qS ?_
            rintro y5 _ _ ⟨rfl, rfl⟩
            refine call_fn (hdm y5 y4) (Seals.refl _ _) qS ?_
            rintro _ _ _ ⟨rfl, q, r, rfl, rfl⟩
            refine alloc_rule (d := I false []) fun br hbr => ?_
            refine store_box (d := zd Q) 1 rfl hbq rfl (by kernel_rfl) (Reads.fact (v := q) qM) ?_
            refine store_box (d := zd R) 0 rfl hbr rfl (by kernel_rfl) (Reads.fact (v := r) qM) ?_
            exact again br hbr trivial qF (Seals.trans (Seals.drop 1 _ _) (Seals.trans (Seals.box0 rfl) (Seals.sub (fs' := []) qS)))
          · refine ord_go [0, 1, 3, 9, 2, 10, 4, 5, 6, 7, 8, 11, 12, 13] (by kernel_rfl) (by kernel_rfl) ?_
            refine load_box (d := J x) 0 rfl h3 rfl (load_J _) fun y3 => ?_
            refine load_box (d := J m) 2 rfl h1 rfl (load_J _) fun y4 => ?_
            refine alloc_rule (d := I false []) fun bq hbq => ?_
            refine call_fn (hv y3) (Seals.refl _ _) qS ?_
            rintro y5 _ _ ⟨rfl, rfl⟩
            refine alloc_rule (d := I false []) fun br hbr => ?_
            refine call_fn (hdm y5 y4) (Seals.refl _ _) qS ?_
            rintro _ _ _ ⟨rfl, q, r, rfl, rfl⟩
            refine store_box (d := zd Q) 1 rfl hbq rfl (by kernel_rfl) (Reads.fact (v := q) qM) ?_
            refine store_box (d := zd R) 0 rfl hbr rfl (by kernel_rfl) (Reads.fact (v := r) qM) ?_
            exact again br hbr trivial qF (Seals.trans (Seals.drop 1 _ _) (Seals.trans (Seals.box0 rfl) (Seals.sub (fs' := []) qS)))
        · refine ord_split 9 10 (by kernel_rfl) (by kernel_rfl) (by kernel_rfl) ?_ ?_
          · refine ord_go [0, 1, 3, 9, 10, 2, 4, 5, 6, 7, 8, 11, 12, 13] (by kernel_rfl) (by kernel_rfl) ?_
            refine load_box (d := J x) 0 rfl h3 rfl (load_J _) fun y3 => ?_
            refine load_box (d := J m) 2 rfl h1 rfl (load_J _) fun y4 => ?_
            refine alloc_rule (d := I false []) fun bq hbq => ?_
            refine alloc_rule (d := I false []) fun br hbr => ?_
            refine call_fn (hv y3) (Seals.refl _ _) qS ?_
            rintro y5 _ _ ⟨rfl, rfl⟩
            refine call_fn (hdm y5 y4) (Seals.refl _ _) qS ?_
            rintro _ _ _ ⟨rfl, q, r, rfl, rfl⟩
            refine store_box (d := zd Q) 1 rfl hbq rfl (by kernel_rfl) (Reads.fact (v := q) qM) ?_
            refine store_box (d := zd R) 0 rfl hbr rfl (by kernel_rfl) (Reads.fact (v := r) qM) ?_
            exact again br hbr trivial qF (Seals.trans (Seals.drop 1 _ _) (Seals.trans (Seals.box0 rfl) (Seals.sub (fs' := []) qS)))
          · refine ord_go [0, 1, 3, 10, 9, 2, 4, 5, 6, 7, 8, 11, 12, 13] (by kernel_rfl) (by kernel_rfl) ?_
            refine load_box (d := J x) 0 rfl h3 rfl (load_J _) fun y3 => ?_
            refine load_box (d := J m) 2 rfl h1 rfl (load_J _) fun y4 => ?_
            refine alloc_rule (d := I false []) fun br hbr => ?_
            refine alloc_rule (d := I false []) fun bq hbq => ?_
            refine call_fn (hv y3) (Seals.refl _ _) qS ?_
            rintro y5 _ _ ⟨rfl, rfl⟩
            refine call_fn (hdm y5 y4) (Seals.refl _ _) qS ?_
            rintro _ _ _ ⟨rfl, q, r, rfl, rfl⟩
            refine store_box (d := zd Q) 0 rfl hbq rfl (by kernel_rfl) (Reads.fact (v := q) qM) ?_
            refine store_box (d := zd R) 1 rfl hbr rfl (by kernel_rfl) (Reads.fact (v := r) qM) ?_
            exact again br hbr trivial qF (Seals.trans (Seals.drop 0 _ _) (Seals.trans (Seals.box0 rfl) (Seals.sub (fs' := []) qS)))
  rintro br hbr
  simp only
  refine draw_rule [0, 1, 2, 3, 4, 5, 6, 8, 7, 9, 10, 11, 12, 13] [0, 1, 2, 3, 4, 5, 6, 7, 8, 9, 10, 11, 12, 13] (by kernel_rfl) (by kernel_rfl) ?_
  refine load_box (d := zd R) 0 rfl hbr rfl (load_I _ _) fun y3 => ?_
  refine load_box (d := J y) 2 rfl h2 rfl (load_J _) fun y4 => ?_
  refine call_fn (hc1 y3 y4) (Seals.refl _ _) qS ?_
  rintro _ _ _ ⟨rfl, rfl, rfl⟩
  refine cmp_split _ rfl (fun hle => ?_) (fun hle => ?_)
  · rw [decide_eq_true (show R ≤ jv y by have := sgn_le.1 hle; omega), Bool.true_or]
    exact fin ⟨rfl, rfl, rfl⟩ (Seals.trans (Seals.drop 0 _ _) (Seals.trans (Seals.drop 0 _ _) (Seals.trans (Seals.drop 0 _ _) (Seals.trans (Seals.drop 0 _ _) (Seals.nil _ _)))))
  · rw [decide_eq_false (show ¬ R ≤ jv y from fun h => hle (sgn_le.2 (by omega))), Bool.false_or]
    refine load_box (d := J m) 3 rfl h1 rfl (load_J _) fun y5 => ?_
    refine load_box (d := zd R) 0 rfl hbr rfl (load_I _ _) fun y6 => ?_
    refine load_box (d := J y) 2 rfl h2 rfl (load_J _) fun y7 => ?_
    refine call_fn (hsb y5 y6) (Seals.refl _ _) qS ?_
    rintro y8 _ _ ⟨rfl, rfl⟩
    refine call_fn (hc2 y8 y7) (Seals.refl _ _) qS ?_
    rintro _ _ _ ⟨rfl, rfl, rfl⟩
    refine cmp_split _ rfl (fun hle2 => ?_) (fun hle2 => ?_)
    · rw [decide_eq_true (show jv m - R ≤ jv y by have := sgn_le.1 hle2; omega)]
      exact fin ⟨rfl, rfl, rfl⟩ (Seals.trans (Seals.drop 0 _ _) (Seals.trans (Seals.drop 0 _ _) (Seals.trans (Seals.drop 0 _ _) (Seals.trans (Seals.drop 0 _ _) (Seals.nil _ _)))))
    · rw [decide_eq_false (show ¬ jv m - R ≤ jv y from fun h => hle2 (sgn_le.2 (by omega)))]
      exact fin ⟨rfl, rfl, rfl⟩ (Seals.trans (Seals.drop 0 _ _) (Seals.trans (Seals.drop 0 _ _) (Seals.trans (Seals.drop 0 _ _) (Seals.trans (Seals.drop 0 _ _) (Seals.nil _ _)))))
theorem rLeast_meets (v : Value) (x : Bool × List Nat) (a : Nat) (hx : Lim x.2) (hxa : x.2.length ≤ a) (ha : a ≤ 1000000) :
    Meets Tryz.prog 90 [v] [(v, J x)] (fun r os fs => os = [] ∧ fs = [(r, J (lstJ x))]) := by
  have hs : ∀ z, Meets Tryz.prog 44 [z] [(z, J x)] (fun r os fs => os = [] ∧ fs = [] ∧ r = .int .i64 (jv x).sign) := fun z => rSign_meets z x.1 x.2 hx (by omega)
  refine meets_of_vc Tryz.func90 (by kernel_rfl) rfl (by kernel_rfl) (Nat.le_of_ble_eq_true rfl) ?_
  refine box_rule (Reads.fact (d := J x) qM) fun b1 h1 => ?_
  refine alloc_rule (d := I false []) fun o ho => ?_
  refine load_box (d := J x) 1 rfl h1 rfl (load_J _) fun y1 => ?_
  refine call_fn (hs y1) (Seals.refl _ _) qS ?_
  rintro _ _ _ ⟨rfl, rfl, rfl⟩
  refine cmp_split _ rfl (fun h0 => ?_) (fun h0 => ?_)
  · rw [show lstJ x = cn 1 from if_pos (sgn0.1 h0)]
    refine call_fn (rOf_meets 1 (by decide) (by decide)) (Seals.refl _ _) qS ?_
    rintro y2 _ _ ⟨rfl, rfl⟩
    refine store_box (d := zd 1) 0 rfl ho rfl (by kernel_rfl) (Reads.fact (v := y2) qM) ?_
    refine load_box (d := zd 1) 0 rfl ho rfl (load_I _ _) fun r => ?_
    exact fin ⟨rfl, rfl⟩ (Seals.trans (Seals.drop 0 _ _) (Seals.trans (Seals.drop 0 _ _) (Seals.sub (fs' := [(r, zd 1)]) qS)))
  · rw [show lstJ x = x from if_neg fun h => h0 (sgn0.2 h)]
    refine load_box (d := J x) 1 rfl h1 rfl (load_J _) fun y2 => ?_
    refine store_box (d := J x) 0 rfl ho rfl (by kernel_rfl) (Reads.fact (v := y2) qM) ?_
    refine load_box (d := J x) 0 rfl ho rfl (load_J _) fun r => ?_
    exact fin ⟨rfl, rfl⟩ (Seals.trans (Seals.drop 0 _ _) (Seals.trans (Seals.drop 0 _ _) (Seals.sub (fs' := [(r, J x)]) qS)))
theorem rPowerJ (v : Value) (xj : Bool × List Nat) (n a : Nat) (hx : Lim xj.2) (hxa : xj.2.length ≤ a) (hk : (n + 1) * (a + 1) ≤ 137438953472) :
    Meets Tryz.prog 42 [v, .int .i64 (n : Nat)] [(v, J xj)] (fun r os fs => os = [] ∧ fs = [(r, zd (jv xj ^ n))]) := by
  have zx := sz_jv hx hxa
  have hm1 : (n + 1) * (a + 1) = n * (a + 1) + (a + 1) := Nat.succ_mul _ _
  have hm2 : n ≤ n * (a + 1) := Nat.le_mul_of_pos_right _ (by omega)
  have hp : ∀ i, i ≤ n → sz (jv xj ^ i) (n * (a + 1) + 1) := fun i hi => (sz_pow zx i).mono (by
    have h2 : i * a ≤ n * (a + 1) := Nat.mul_le_mul hi (by omega)
    omega)
  refine meets_of_vc Tryz.func42 (by kernel_rfl) rfl (by kernel_rfl) (Nat.le_of_ble_eq_true rfl) ?_
  refine box_fact (Reads.fact (d := J xj) qM) fun px => ?_
  refine alloc_rule (d := I false []) fun o ho => ?_
  refine call_fn (rOf_meets 1 (by decide) (by decide)) (Seals.refl _ _) qS ?_
  rintro y0 _ _ ⟨rfl, rfl⟩
  refine alloc_rule (d := I false []) fun s hs => ?_
  refine store_box (d := zd 1) 0 rfl hs rfl (by kernel_rfl) ?_ ?_; exact Reads.fact qM
  refine loop_rule (X := Nat) (fun i => ([(1, .int .i64 (n : Nat)), (2, px), (4, o), (5, s), (6, .int .i64 (i : Nat))], [own1 s 2 1 (fun _ => zd (jv xj ^ i)), own1 o 2 1 (fun _ => I false [])], [(px, .ptr (J xj))])) (fun i => i ≤ n) (fun i => n - i) rfl ?_ ?_
  · exact again 0 (Nat.zero_le _) trivial qF (Seals.trans (Seals.box0 (by rw [Int.pow_zero]; rfl)) (Seals.sub qS))
  · rintro i hi
    refine cmp_split _ rfl (fun hlt => ?_) (fun hlt => ?_)
    · have hnx := fun u u' => rMulZJ u u' (jv xj ^ i) xj (n * (a + 1) + 1) (hp i hi) (by omega) hx (by omega)
      rw [← Int.pow_succ] at hnx
      refine load_box (d := zd (jv xj ^ i)) 0 rfl hs rfl (load_I _ _) fun y1 => ?_
      refine load_fact (d := J xj) qM (load_J _) fun y2 => ?_
      refine call_fn (hnx y1 y2) (Seals.refl _ _) qS ?_
      rintro y3 _ _ ⟨rfl, rfl⟩
      refine store_box (d := zd (jv xj ^ (i + 1))) 0 rfl hs rfl (by kernel_rfl) ?_ ?_; exact Reads.fact qM
      refine ar rfl qI ?_
      exact again (i + 1) (by omega) (by simp only; omega) qF (Seals.trans (Seals.box0 rfl) (Seals.sub qS))
    · have hin : i = n := by omega
      subst hin
      refine load_box (d := zd (jv xj ^ i)) 0 rfl hs rfl (load_I _ _) fun y1 => ?_
      refine store_box (d := zd (jv xj ^ i)) 1 rfl ho rfl (by kernel_rfl) ?_ ?_; exact Reads.fact qM
      refine load_box (d := zd (jv xj ^ i)) 1 rfl ho rfl (load_I _ _) fun r => ?_
      exact fin ⟨rfl, rfl⟩ (Seals.trans (Seals.drop 0 _ _) (Seals.trans (Seals.drop 0 _ _) (Seals.sub (fs' := [(r, zd (jv xj ^ i))]) qS)))
theorem rScale_meets (v w u : Value) (t y : Bool × List Nat) (s : Nat × Nat) (a : Nat) (ht : Lim t.2) (hta : t.2.length ≤ a) (hy : Lim y.2) (hya : y.2.length ≤ a) (ha : a ≤ 100000) (hs : s.1 ≤ 1000 ∧ s.2 ≤ 1000) :
    Meets Tryz.prog 45 [v, w, u] [(v, J t), (w, J y), (u, spE s)] (fun r os fs => os = [] ∧ fs = [(r, zd (sclV (lst1 (jv t)) (lst1 (jv y)) s))]) := by
  have zt := lstJ_lim ht hta
  have zy := lstJ_lim hy hya
  have h1t := fun z => rLeast_meets z t a ht hta (by omega)
  have h1y := fun z => rLeast_meets z y a hy hya (by omega)
  have hb : ∀ i, i ≤ 1000 → (i + 1) * (a + 1 + 1) ≤ 1001 * (a + 2) := fun i hi => Nat.mul_le_mul (by omega) (by omega)
  have hpt := fun z => rPowerJ z (lstJ t) s.1 (a + 1) zt.1 zt.2 (by have := hb s.1 hs.1; omega)
  have hpy := fun z => rPowerJ z (lstJ y) s.2 (a + 1) zy.1 zy.2 (by have := hb s.2 hs.2; omega)
  have z1 : sz (jv (lstJ t) ^ s.1) (1000 * (a + 1) + 1) := (sz_pow (sz_jv zt.1 zt.2) _).mono (Nat.succ_le_succ (Nat.mul_le_mul_right _ hs.1))
  have z2 : sz (jv (lstJ y) ^ s.2) (1000 * (a + 1) + 1) := (sz_pow (sz_jv zy.1 zy.2) _).mono (Nat.succ_le_succ (Nat.mul_le_mul_right _ hs.2))
  have hmu := fun z z' => rMulZZ' z z' _ _ _ z1 z2 (by omega)
  have e : sclV (lst1 (jv t)) (lst1 (jv y)) s = jv (lstJ t) ^ s.1 * jv (lstJ y) ^ s.2 := by unfold sclV; rw [jv_lstJ, jv_lstJ]
  rw [e]
  obtain ⟨s1, s2⟩ := s
  simp only at hpt hpy hmu ⊢
  refine meets_of_vc Tryz.func45 (by kernel_rfl) rfl (by kernel_rfl) (Nat.le_of_ble_eq_true rfl) ?_
  refine box_rule (Reads.fact (d := J t) qM) fun b1 h1 => ?_
  refine box_rule (Reads.fact (d := J y) qM) fun b2 h2 => ?_
  refine box_rule (Reads.fact (d := spE (s1, s2)) qM) fun b3 h3 => ?_
  refine alloc_rule (d := I false []) fun o ho => ?_
  refine draw_rule [0, 2, 3, 5, 7, 8, 1, 4, 6, 9, 10, 11] [0, 1, 2, 3, 4, 5, 6, 7, 8, 9, 10, 11] (by kernel_rfl) (by kernel_rfl) ?_
  refine load_box (d := J t) 3 rfl h1 rfl (load_J _) fun y1 => ?_
  refine index_arr h3 0 rfl (by decide) ?_
  refine load_box_field_one 1 rfl (Part.left (Part.refl _)) ?_
  refine load_box (d := J y) 2 rfl h2 rfl (load_J _) fun y2 => ?_
  refine index_arr h3 1 rfl (by decide) ?_
  refine load_box_field_one 1 rfl (Part.right (Part.refl _)) ?_
  refine call_fn (h1t y1) (Seals.refl _ _) qS ?_
  rintro y3 _ _ ⟨rfl, rfl⟩
  refine call_fn (hpt y3) (Seals.refl _ _) qS ?_
  rintro y4 _ _ ⟨rfl, rfl⟩
  refine call_fn (h1y y2) (Seals.refl _ _) qS ?_
  rintro y5 _ _ ⟨rfl, rfl⟩
  refine call_fn (hpy y5) (Seals.refl _ _) qS ?_
  rintro y6 _ _ ⟨rfl, rfl⟩
  refine call_fn (hmu y4 y6) (Seals.refl _ _) qS ?_
  rintro y7 _ _ ⟨rfl, rfl⟩
  refine store_box (d := zd (jv (lstJ t) ^ s1 * jv (lstJ y) ^ s2)) 0 rfl ho rfl (by kernel_rfl) (Reads.fact qM) ?_
  refine load_box (d := zd (jv (lstJ t) ^ s1 * jv (lstJ y) ^ s2)) 0 rfl ho rfl (load_I _ _) fun r => ?_
  exact fin ⟨rfl, rfl⟩ (Seals.trans (Seals.drop 0 _ _) (Seals.trans (Seals.drop 0 _ _) (Seals.trans (Seals.drop 0 _ _) (Seals.trans (Seals.drop 0 _ _) (Seals.sub qS)))))
def sngJ (c : Bool × List Nat) (i j : Nat) : List Row := List.replicate i [] ++ [List.replicate j z0 ++ [c]]
theorem rSingle_meets (v : Value) (c : Bool × List Nat) (i j : Nat) (hi : i ≤ 1000) (hj : j ≤ 1000) :
    Meets Tryz.prog 60 [v, .int .i64 (i : Nat), .int .i64 (j : Nat)] [(v, J c)] (fun r os fs => os = [] ∧ fs = [(r, W (sngJ c i j))]) := by
  refine meets_of_vc Tryz.func60 (by kernel_rfl) rfl (by kernel_rfl) (Nat.le_of_ble_eq_true rfl) ?_
  refine box_rule (Reads.fact (d := J c) qM) fun b1 h1 => ?_
  refine empty_L (size := 1) (α := Row) V [] (by decide) fun g0 hg0 => ?_
  refine loop_rule (X := Nat × Value) (fun x => ([(1, .int .i64 (i : Nat)), (2, .int .i64 (j : Nat)), (3, b1), (7, x.2)], [ownL 1 V [] x.2 (List.replicate x.1 []), own1 b1 2 1 (fun _ => J c)], [])) (fun x => x.1 ≤ i ∧ isSl x.2) (fun x => i - x.1) rfl ?_ ?_
  · exact again (0, g0) ⟨Nat.zero_le _, hg0⟩ trivial qF (Seals.sub qS)
  rintro ⟨k, g⟩ ⟨hk, hg⟩
  simp only at hk hg ⊢
  refine len_own 0 rfl hg fun _ => ?_
  refine cmp_split _ rfl (fun hlt => ?_) (fun hlt => ?_)
  · rw [List.length_replicate] at hlt
    refine empty_F (size := 2) (e := 26) J z0 (by decide) fun e0 => ?_
    refine lit_L (size := 1) (e := 22) V [] [] (by decide) (Reads.fact (v := e0) (d := V []) qM) rfl fun l1 => ?_
    refine append_L (size := 1) (e := 22) (f := V) (z := []) (l := List.replicate k []) (m := [[]]) 0 rfl hg (Knw.fact qM) (by simp; omega) (by simp; omega) fun g2 hg2 => ?_
    refine again (k + 1, g2) ⟨by simp only; omega, hg2⟩ (by simp only; omega) qF ?_
    simp only [List.replicate_succ']
    exact Seals.sub qS
  rw [List.length_replicate] at hlt
  have hki : k = i := by omega
  subst hki
  clear hlt
  refine empty_L (size := 2) (e := 26) J z0 (by decide) fun r0 hr0 => ?_
  refine loop_rule (X := Nat × Value) (fun x => ([(2, .int .i64 (j : Nat)), (3, b1), (7, g), (8, x.2)], [ownL 2 J z0 x.2 (List.replicate x.1 z0), ownL 1 V [] g (List.replicate k []), own1 b1 2 1 (fun _ => J c)], [])) (fun x => x.1 ≤ j ∧ isSl x.2) (fun x => j - x.1) rfl ?_ ?_
  · exact again (0, r0) ⟨Nat.zero_le _, hr0⟩ trivial qF (Seals.sub qS)
  rintro ⟨l, r⟩ ⟨hl, hr⟩
  simp only at hl hr ⊢
  refine len_own 0 rfl hr fun _ => ?_
  refine cmp_split _ rfl (fun hlt => ?_) (fun hlt => ?_)
  · rw [List.length_replicate] at hlt
    refine build0 (da := .one (.bool false)) (db := U []) (fun S w => ⟨[.bool false], [.slice none 0 0], rfl, rd_false S w, rd_nil S w 1 _⟩) fun z => ?_
    refine lit_L (size := 2) J z0 z0 (by decide) (Reads.fact (v := z) (d := J z0) qM) rfl fun l1 => ?_
    refine append_L (size := 2) (e := 26) (f := J) (z := z0) (l := List.replicate l z0) (m := [z0]) 0 rfl hr (Knw.fact qM) (by simp; omega) (by simp; omega) fun r2 hr2 => ?_
    refine again (l + 1, r2) ⟨by simp only; omega, hr2⟩ (by simp only; omega) qF ?_
    simp only [List.replicate_succ']
    exact Seals.sub qS
  rw [List.length_replicate] at hlt
  have hlj : l = j := by omega
  subst hlj
  refine load_box (d := J c) 2 rfl h1 rfl (load_J _) fun y1 => ?_
  refine lit_L (size := 2) J z0 c (by decide) (Reads.fact (v := y1) qM) rfl fun l1 => ?_
  refine append_L (size := 2) (e := 26) (f := J) (z := z0) (l := List.replicate l z0) (m := [c]) 0 rfl hr (Knw.fact qM) (by simp; omega) (by simp; omega) fun r2 hr2 => ?_
  refine BuildSliceK.pre (Seals.L (f := J) (z := z0) 0 rfl hr2) ?_
  refine lit_L (size := 1) (e := 22) V [] (List.replicate l z0 ++ [c]) (by decide) (Reads.fact (v := r2) (d := V (List.replicate l z0 ++ [c])) qM) rfl fun l2 => ?_
  refine append_L (size := 1) (e := 22) (f := V) (z := []) (l := List.replicate k []) (m := [List.replicate l z0 ++ [c]]) 0 rfl hg (Knw.fact qM) (by simp; omega) (by simp; omega) fun g2 hg2 => ?_
  exact fin ⟨rfl, rfl⟩ (Seals.trans (Seals.L (f := V) (z := []) 0 rfl hg2) (Seals.trans (Seals.drop 0 _ _) (Seals.sub (fs' := [(g2, W (sngJ c k l))]) qS)))
theorem rAt17_meets (v w : Value) {A : List Row} {G : List (List Int)} {k n : Nat} (s : Nat × Nat) (h : Lg A G k n) (hk : k ≤ 137438953472) (hn : n ≤ 1024) :
    Meets Tryz.prog 64 [v, w] [(v, W A), (w, spE s)] (fun r os fs => os = [] ∧ fs = [(r, zd (gv G s.1 s.2))]) := by
  obtain ⟨s1, s2⟩ := s
  have hr := rRow12_meets v s1 h hk hn
  have ha : ∀ z, Meets Tryz.prog 109 [z, .int .i64 (s2 : Nat)] [(z, vd (nrm (G.getD s1 [])))] (fun r os fs => os = [] ∧ fs = [(r, zd (gv G s1 s2))]) := fun z => by
    have := rAtN z ((nrm (G.getD s1 [])).map cn) ((h.g s1).1.nrm.fit.mono (by omega)) s2
    rw [vv_cn, co_nrm] at this
    exact this
  simp only
  refine meets_of_vc Tryz.func64 (by kernel_rfl) rfl (by kernel_rfl) (Nat.le_of_ble_eq_true rfl) ?_
  refine box_rule (Reads.fact (d := spE (s1, s2)) qM) fun b1 h1 => ?_
  refine alloc_rule (d := I false []) fun o ho => ?_
  refine draw_rule [0, 1, 2, 4, 5, 3, 6, 7] [0, 1, 2, 3, 4, 5, 6, 7] (by kernel_rfl) (by kernel_rfl) ?_
  refine index_arr h1 0 rfl (by decide) ?_
  refine load_box_field_one 1 rfl (Part.left (Part.refl _)) ?_
  refine index_arr h1 1 rfl (by decide) ?_
  refine load_box_field_one 1 rfl (Part.right (Part.refl _)) ?_
  refine call_fn (hr) (Seals.refl _ _) qS ?_
  rintro y1 _ _ ⟨rfl, rfl⟩
  refine call_fn (ha y1) (Seals.refl _ _) qS ?_
  rintro y2 _ _ ⟨rfl, rfl⟩
  refine store_box (d := zd (gv G s1 s2)) 0 rfl ho rfl (by kernel_rfl) (Reads.fact qM) ?_
  refine load_box (d := zd (gv G s1 s2)) 0 rfl ho rfl (load_I _ _) fun r => ?_
  exact fin ⟨rfl, rfl⟩ (Seals.trans (Seals.drop 0 _ _) (Seals.trans (Seals.drop 0 _ _) (Seals.sub qS)))
theorem rShape_meets (d n : Int) (hd : inK .i64 d) (hn : inK .i64 n) :
    Meets Tryz.prog 16 [.int .i64 d, .int .i64 n] [] (fun r os fs => os = [] ∧ ∃ q, r = .tuple #[q, .int .i64 (shpR d n).2] ∧ fs = [(q, ShD (shpR d n).1)]) := by
  have bad : (d < 1 ∨ n < 1 ∨ 24 ≤ d ∨ 24 ≤ n ∨ 24 < (shp d.toNat n.toNat).length) → shpR d n = ([], 1) := fun h => if_pos h
  have knil : ∀ os fs, Knw os fs (.slice none 0 0) (ShD []) := fun os fs => Knw.nil 2 _
  have hbig := shp_big d.toNat n.toNat
  refine meets_of_vc Tryz.func16 (by kernel_rfl) rfl (by kernel_rfl) (Nat.le_of_ble_eq_true rfl) ?_
  refine cmp_split _ rfl (fun h1 => ?_) (fun h1 => ?_)
  · rw [bad (.inl h1)]
    exact fin ⟨rfl, _, rfl, rfl⟩ (Seals.cons (knil _ _) (Seals.nil _ _))
  refine cmp_split _ rfl (fun h2 => ?_) (fun h2 => ?_)
  · rw [bad (.inr (.inl h2))]
    exact fin ⟨rfl, _, rfl, rfl⟩ (Seals.cons (knil _ _) (Seals.nil _ _))
  refine cmp_split _ rfl (fun h3 => ?_) (fun h3 => ?_)
  · rw [bad (.inr (.inr (.inl (by omega))))]
    exact fin ⟨rfl, _, rfl, rfl⟩ (Seals.cons (knil _ _) (Seals.nil _ _))
  refine cmp_split _ rfl (fun h4 => ?_) (fun h4 => ?_)
  · rw [bad (.inr (.inr (.inr (.inl (by omega)))))]
    exact fin ⟨rfl, _, rfl, rfl⟩ (Seals.cons (knil _ _) (Seals.nil _ _))
  obtain ⟨d, rfl⟩ : ∃ k : Nat, d = (k : Int) := ⟨d.toNat, by omega⟩
  obtain ⟨n, rfl⟩ : ∃ k : Nat, n = (k : Int) := ⟨n.toNat, by omega⟩
  have hd1 : 1 ≤ d ∧ d ≤ 24 := by omega
  have hn1 : 1 ≤ n ∧ n ≤ 24 := by omega
  rw [Int.toNat_natCast, Int.toNat_natCast] at hbig
  clear h1 h2 h3 h4 hd hn
  have hdn : d * n ≤ 24 * 24 := Nat.mul_le_mul (by omega) (by omega)
  refine empty_L (size := 2) spE (0, 0) (by decide) fun v0 hv0 => ?_
  refine loop_rule (X := Nat × Value) (fun x => ([(0, .int .i64 (d : Int)), (1, .int .i64 (n : Int)), (6, x.2), (7, .int .i64 (x.1 : Nat))], [ownL 2 spE (0, 0) x.2 (shN d n x.1)], []))
    (fun x => x.1 ≤ n + 1 ∧ isSl x.2) (fun x => n + 1 - x.1) rfl ?_ ?_
  · exact again (0, v0) ⟨Nat.zero_le _, hv0⟩ trivial qF (Seals.sub qS)
  rintro ⟨j, vo⟩ ⟨hj, hvo⟩
  simp only at hj hvo ⊢
  have hlen := shN_len (d := d) (n := n) (by omega) (by omega) j
  refine cmp_split _ rfl (fun hlt => ?_) (fun hlt => ?_)
  · have hjn : j ≤ n := by omega
    obtain ⟨e, rfl⟩ : ∃ e, n = j + e := ⟨n - j, by omega⟩
    have hde : d * (j + e) = d * j + d * e := Nat.mul_add _ _ _
    have h1 : ((d : Int) * ((j : Nat) : Int)) = ((d * j : Nat) : Int) := (Int.natCast_mul d j).symm
    have h2 : ((d : Int) * ((j + e : Nat) : Int)) = ((d * j + d * e : Nat) : Int) := by rw [← hde]; exact (Int.natCast_mul d (j + e)).symm
    have hsucc := shN_succ d (j + e) j
    rw [show j + e - j = e by omega] at hsucc
    have hdj : d * j ≤ 24 * 24 := Nat.mul_le_mul (by omega) (by omega)
    have hdee : d * e ≤ 24 * 24 := Nat.mul_le_mul (by omega) (by omega)
    generalize shN d (j + e) j = T at *
    generalize d * j = A at *
    generalize d * e = B at *
    refine loop_rule (X := Nat × Value) (fun x => ([(0, .int .i64 (d : Int)), (1, .int .i64 ((j + e : Nat) : Int)), (6, x.2), (7, .int .i64 (j : Nat)), (8, .int .i64 (x.1 : Nat))], [ownL 2 spE (0, 0) x.2 (T ++ (List.range x.1).map fun i => (i, j))], []))
      (fun x => x.1 ≤ B + 1 ∧ isSl x.2) (fun x => B + 1 - x.1) rfl ?_ ?_
    · refine again (0, vo) ⟨Nat.zero_le _, hvo⟩ trivial qF ?_
      simp only [List.range_zero, List.map_nil, List.append_nil]
      exact Seals.sub qS
    rintro ⟨i, vi⟩ ⟨hi, hvi⟩
    simp only at hi hvi ⊢
    refine ar (n := ((A : Nat) : Int)) (by simp only [arZ, Option.some.injEq]; exact h1) qI ?_
    refine ar (n := ((i + A : Nat) : Int)) (by simp [arZ]) qI ?_
    refine ar (n := ((A + B : Nat) : Int)) (by simp only [arZ, Option.some.injEq]; exact h2) qI ?_
    refine cmp_split _ rfl (fun hlt2 => ?_) (fun hlt2 => ?_)
    · refine build_arr ?_
      refine lit_L (size := 2) spE (0, 0) (i, j) (by decide) (Reads.spot _ _) rfl fun l1 => ?_
      refine append_L 0 rfl hvi (Knw.fact qM) (by simp; omega) (by simp; omega) fun u2 hu2 => ?_
      refine ar rfl qI ?_
      refine again (i + 1, u2) ⟨by simp only; omega, hu2⟩ (by simp only; omega) qF ?_
      simp only [List.range_succ, List.map_append, List.map_cons, List.map_nil, ← List.append_assoc]
      exact Seals.sub qS
    · have hie : i = B + 1 := by omega
      subst hie
      refine ar rfl qI ?_
      refine again (j + 1, vi) ⟨by simp only; omega, hvi⟩ (by simp only; omega) qF ?_
      simp only [hsucc]
      exact Seals.sub qS
  · have hjn : j = n + 1 := by omega
    subst hjn
    have hs : shN d n (n + 1) = shp d n := rfl
    rw [hs] at hlen ⊢
    refine len_own 0 rfl hvo fun _ => ?_
    refine cmp_split _ rfl (fun hbg => ?_) (fun hbg => ?_)
    · rw [bad (.inr (.inr (.inr (.inr (by rw [Int.toNat_natCast, Int.toNat_natCast]; omega)))))]
      exact fin ⟨rfl, _, rfl, rfl⟩ (Seals.trans (Seals.drop 0 _ _) (Seals.cons (knil _ _) (Seals.nil _ _)))
    · have hdn2 : d * 1 ≤ d * n := Nat.mul_le_mul_left _ (by omega)
      have hdn3 : 1 * n ≤ d * n := Nat.mul_le_mul_right _ (by omega)
      have e : shpR (d : Nat) (n : Nat) = (shp d n, 0) := by
        unfold shpR
        rw [if_neg (by rw [Int.toNat_natCast, Int.toNat_natCast]; omega), Int.toNat_natCast, Int.toNat_natCast]
      rw [e]
      exact fin ⟨rfl, vo, rfl, rfl⟩ (Seals.trans (Seals.L 0 rfl hvo) (Seals.sub qS))
theorem index_pa {P : Program} {t : TypeId} [ht : TArr2 P t] {v : Value} {kk : IntKind} {x : Int} {d e : Dat} {os : List Own} {fs : List Fact} {K : Cont} (hm : (v, .ptr d) ∈ fs) (j : Nat) (hj : x = (j : Int)) (hlt : j < 2) (hp : Part j d e) (k : ∀ q, K q os ((q, .ptr e) :: fs)) :
    IndexAddrK P t v (.int kk x) os fs K := by
  obtain ⟨e', h1, h2, h3, h4, h5⟩ := ht.und
  subst hj
  refine ⟨fun G w hw => ?_⟩
  obtain ⟨r, o, cs, rfl, g2, g3⟩ := (hw.facts _ hm).ptr
  obtain ⟨pre, cs', post, rfl, rfl, e3⟩ := hp _ _ _ g2
  refine ⟨.pointer (some ⟨r, o + pre.length, none⟩), _, fun w' _ => val_run ?_, k _, hw.put (Rd.mk_ptr e3 g3.part)⟩
  have h0 : (0 : Int) ≤ (pre.length : Int) ∧ (pre.length : Int) < 2 := by omega
  simp [Instr.indexAt, asIntOf, run_underlying h1, Instr.sureAddr, run_sizeOf h3, h0, add_none]
  intro h; omega
theorem rSameShape_meets (v w : Value) (a b : List (Nat × Nat)) :
    Meets Tryz.prog 19 [v, w] [(v, ShD a), (w, ShD b)] (fun r os fs => os = [] ∧ fs = [] ∧ r = .bool (decide (a = b))) := by
  refine meets_of_vc Tryz.func19 (by kernel_rfl) rfl (by kernel_rfl) (Nat.le_of_ble_eq_true rfl) ?_
  refine len_fact (v := v) (n := a.length) qM fun _ => ?_
  refine len_fact (v := w) (n := b.length) qM fun _ => ?_
  refine cmp_split _ rfl (fun hne => ?_) (fun hne => ?_)
  · rw [decide_eq_false (show ¬ a = b from fun h => hne (by rw [h]))]
    exact fin ⟨rfl, rfl, rfl⟩ (Seals.nil _ _)
  have hlen : a.length = b.length := by omega
  refine loop_rule (X := Nat) (fun i => ([(0, v), (1, w), (5, .int .i64 (i : Nat))], [], [(v, ShD a), (w, ShD b)])) (fun i => i ≤ a.length ∧ ∀ j, j < i → a.getD j (0, 0) = b.getD j (0, 0)) (fun i => a.length - i) rfl ?_ ?_
  · exact again 0 ⟨Nat.zero_le _, fun j hj => absurd hj (Nat.not_lt_zero _)⟩ trivial qF (Seals.sub qS)
  rintro i ⟨hi, hij⟩
  simp only at hi hij ⊢
  refine len_fact (v := v) (n := a.length) qM fun _ => ?_
  refine cmp_split _ rfl (fun hlt => ?_) (fun hlt => ?_)
  · have hia : i < a.length := by omega
    have hsa : a.getD i (0, 0) = b.getD i (0, 0) → ∀ j, j < i + 1 → a.getD j (0, 0) = b.getD j (0, 0) := fun e j hj => by
      by_cases g : j = i
      · rw [g]; exact e
      · exact hij j (by omega)
    have no : a.getD i (0, 0) ≠ b.getD i (0, 0) → ¬ a = b := fun h e => h (by rw [e])
    refine draw_rule [0, 1, 2, 3, 4, 5, 6, 7, 8, 9, 10, 11, 12, 13, 14, 15, 16, 17, 18, 19, 20, 21, 22, 23] [0, 1, 2, 3, 4, 5, 6, 7, 8, 9, 10, 11, 12, 13, 14, 15, 16, 17, 18, 19, 20, 21, 22, 23] (by kernel_rfl) (by kernel_rfl) ?_
    refine index_fact (v := v) qM i rfl (by omega) fun a1 => ?_
    refine index_pa (v := a1) (d := spE ((a).getD i (0, 0))) qM 0 rfl (by decide) (Part.left (Part.refl _)) fun a2 => ?_
    refine load_one (p := a2) qM ?_
    refine index_fact (v := w) qM i rfl (by omega) fun a1 => ?_
    refine index_pa (v := a1) (d := spE ((b).getD i (0, 0))) qM 0 rfl (by decide) (Part.left (Part.refl _)) fun a2 => ?_
    refine load_one (p := a2) qM ?_
    refine cmp_split _ rfl (fun h1 => ?_) (fun h1 => ?_)
    · rw [decide_eq_false (no fun e => h1 (by rw [e]))]
      exact fin ⟨rfl, rfl, rfl⟩ (Seals.nil _ _)
    refine index_fact (v := v) qM i rfl (by omega) fun a1 => ?_
    refine index_pa (v := a1) (d := spE ((a).getD i (0, 0))) qM 1 rfl (by decide) (Part.right (Part.refl _)) fun a2 => ?_
    refine load_one (p := a2) qM ?_
    refine index_fact (v := w) qM i rfl (by omega) fun a1 => ?_
    refine index_pa (v := a1) (d := spE ((b).getD i (0, 0))) qM 1 rfl (by decide) (Part.right (Part.refl _)) fun a2 => ?_
    refine load_one (p := a2) qM ?_
    refine cmp_split _ rfl (fun h2 => ?_) (fun h2 => ?_)
    · rw [decide_eq_false (no fun e => h2 (by rw [e]))]
      exact fin ⟨rfl, rfl, rfl⟩ (Seals.nil _ _)
    refine ar rfl qI ?_
    exact again (i + 1) ⟨by omega, hsa (Prod.ext (by omega) (by omega))⟩ (by simp only; omega) qF (Seals.sub qS)
  · have hia : i = a.length := by omega
    subst hia
    rw [decide_eq_true (show a = b from row_eq_of_getD (0, 0) hlen hij)]
    exact fin ⟨rfl, rfl, rfl⟩ (Seals.nil _ _)
end Go.Proofs.YtjebljkoiaojaaaGreat
namespace Go.Proofs.YtjebljkoiaojaaaGreat
section
variable {m n : Nat} {b : Mx}
def iprod (g : Nat → Int) : Nat → Int
  | 0 => 1
  | n + 1 => iprod g n * g n
theorem iprod_pos {g : Nat → Int} : ∀ {n : Nat}, (∀ i, i < n → 0 < g i) → 0 < iprod g n
  | 0, _ => by show (0 : Int) < 1; decide
  | n + 1, h => Int.mul_pos (iprod_pos fun i hi => h i (by omega)) (h n (by omega))
end
end Go.Proofs.YtjebljkoiaojaaaGreat
namespace Go.Proofs.YtjebljkoiaojaaaGreat
theorem gev_map (G : List (List Int)) (x y : Int) : gev G x y = pev (G.map fun r => pev r y) x := ev_nrm _ _
theorem gev_gone (c : Int) (i : Nat) (x y : Int) : gev (gone c i) x y = c * x ^ i := by
  rw [gev_map, gone, List.map_append, List.map_replicate]
  show pev (List.replicate i 0 ++ _) x = _
  rw [ev_repl]
  simp [pev]; grind
theorem gev_gless {p : List Int} (h : p ≠ []) (x y : Int) : gev (gless p) x y = pev p x - y := by
  cases p with
  | nil => exact absurd rfl h
  | cons c l =>
    rw [gev_map, gless, List.map_cons, List.map_map]
    have e : (l.map ((fun r => pev r y) ∘ fun c => [c])) = l := by
      conv => rhs; rw [← List.map_id l]
      exact List.map_congr_left fun z _ => by simp [pev]
    rw [e]
    simp [pev]; grind
theorem lin_pow (C P : Int) : ∀ j : Nat, ∃ q : List Int, (∀ y, pev q y = C * (P - y) ^ j) ∧ (∀ v, j < v → q.getD v 0 = 0) ∧ q.getD j 0 = C * (-1) ^ j
  | 0 => ⟨[C], fun y => by simp [pev], fun v hv => by
      obtain ⟨t, rfl⟩ : ∃ t, v = t + 1 := ⟨v - 1, by omega⟩
      simp, by simp⟩
  | j + 1 => by
    obtain ⟨q, h1, h2, h3⟩ := lin_pow C P j
    refine ⟨padd (q.map fun z => P * z) (0 :: q.map fun z => (-1) * z), fun y => ?_, fun v hv => ?_, ?_⟩
    · have e1 : pev (q.map fun z => P * z) y = P * pev q y := by rw [← ev_ptim]; exact (ev_nrm _ y).symm
      have e2 : pev (q.map fun z => (-1) * z) y = (-1) * pev q y := by rw [← ev_ptim]; exact (ev_nrm _ y).symm
      rw [ev_padd, pev, e1, e2, h1, Int.pow_succ]; grind
    · obtain ⟨t, rfl⟩ : ∃ t, v = t + 1 := ⟨v - 1, by omega⟩
      rw [co_padd, co_map, List.getD_cons_succ, co_map, h2 _ (by omega), h2 _ (by omega)]; simp
    · rw [co_padd, co_map, List.getD_cons_succ, co_map, h2 _ (by omega), h3, Int.pow_succ]; grind
theorem gv_gtu_ev (G : List (List Int)) (x : Int) (v : Nat) : gaf G x v = pev ((gtu G).getD v []) x := gaf_eq G x v
section
variable {P : List Int} {m : Int} {n : Nat}
theorem matG_ev0 {G : List (List Int)} {c : Int} {i j : Nat} (hG : G = gpw (gless (nrm P)) (gone c i) j) (h : nrm P ≠ []) (x y : Int) : gev G x y = c * x ^ i * (pev P x - y) ^ j := by
  rw [hG, gpw_ev, gev_gone, gev_gless h, ev_nrm]
theorem matG_top0 {G : List (List Int)} {c : Int} {i j : Nat} (hG : G = gpw (gless (nrm P)) (gone c i) j) (h : nrm P ≠ []) (u v : Nat) :
    (j < v → gv G u v = 0) ∧ gv G u j = if u = i then c * (-1) ^ j else 0 := by
  have key : ∀ x, ∃ q : List Int, (∀ w, gaf G x w = q.getD w 0) ∧ (∀ v, j < v → q.getD v 0 = 0) ∧ q.getD j 0 = c * x ^ i * (-1) ^ j := fun x => by
    obtain ⟨q, h1, h2, h3⟩ := lin_pow (c * x ^ i) (pev P x) j
    refine ⟨q, fun w => ?_, h2, h3⟩
    unfold gaf
    exact co_ext (fun y => by rw [gax_ev, matG_ev0 hG h, h1]) w
  constructor
  · intro hv
    have h0 : ∀ x, pev ((gtu G).getD v []) x = pev [] x := fun x => by
      obtain ⟨q, h1, h2, _⟩ := key x
      rw [← gv_gtu_ev, h1, h2 v hv]; rfl
    rw [← gtu_gv]
    have := co_ext h0 u
    unfold gv
    rw [this]; simp
  · have h0 : ∀ x, pev ((gtu G).getD j []) x = pev (List.replicate i 0 ++ [c * (-1) ^ j]) x := fun x => by
      obtain ⟨q, h1, _, h3⟩ := key x
      rw [← gv_gtu_ev, h1, h3, ev_repl]
      simp [pev]; grind
    rw [← gtu_gv]
    have := co_ext h0 u
    unfold gv
    rw [this]
    by_cases e : u = i
    · subst e; rw [if_pos rfl]; simp [List.getD_eq_getElem?_getD]
    · rw [if_neg e]
      by_cases g : u < i
      · rw [List.getD_eq_getElem?_getD, List.getElem?_append_left (by simpa using g)]; simp [g]
      · rw [getD_end (l := List.replicate i 0 ++ [c * (-1) ^ j]) (by simp; omega)]
end
theorem shp_ord (d n : Nat) : (shp d n).Pairwise fun a b => a.2 < b.2 ∨ (a.2 = b.2 ∧ a.1 < b.1) := by
  unfold shp
  generalize n + 1 = m
  induction m with
  | zero => exact List.Pairwise.nil
  | succ m ih =>
    rw [List.range_succ, List.flatMap_append]
    refine List.pairwise_append.2 ⟨ih, ?_, fun a ha b hb => ?_⟩
    · simp only [List.flatMap_cons, List.flatMap_nil, List.append_nil]
      refine List.Pairwise.map _ (R := fun a b => a < b) (fun a b h => .inr ⟨rfl, h⟩) List.pairwise_lt_range
    · simp only [List.mem_flatMap, List.mem_range, List.mem_map] at ha
      simp only [List.flatMap_cons, List.flatMap_nil, List.append_nil, List.mem_map] at hb
      obtain ⟨j, hj, i, _, rfl⟩ := ha
      obtain ⟨i', _, rfl⟩ := hb
      exact .inl hj
theorem shp_lt {d n r c : Nat} (hr : r < c) (hc : c < (shp d n).length) : ((shp d n).getD r (0, 0)).2 < ((shp d n).getD c (0, 0)).2 ∨ (((shp d n).getD r (0, 0)).2 = ((shp d n).getD c (0, 0)).2 ∧ ((shp d n).getD r (0, 0)).1 < ((shp d n).getD c (0, 0)).1) := by
  have := List.pairwise_iff_getElem.1 (shp_ord d n) r c (by omega) hc hr
  simp only [List.getD_eq_getElem?_getD, List.getElem?_eq_getElem hc, List.getElem?_eq_getElem (show r < (shp d n).length by omega), Option.getD_some]
  exact this
theorem det_low : ∀ (n : Nat) (A : Mx), (∀ i j, i < j → j < n → A i j = 0) → det n A = iprod (fun i => A i i) n
  | 0, _, _ => rfl
  | n + 1, A, h => by
    rw [det_block' n 1 A fun i j h1 h2 h3 => h i j (by omega) (by omega), det_low n A fun i j h1 h2 => h i j h1 (by omega), iprod]
    congr 1
    simp [det, isum, sg_zero]
end Go.Proofs.YtjebljkoiaojaaaGreat
namespace Go.Proofs.YtjebljkoiaojaaaGreat
theorem isum_abs {g h : Nat → Int} : ∀ {N : Nat}, (∀ t, t < N → (g t).natAbs ≤ (h t).natAbs) → ((isum g N).natAbs : Int) ≤ isum (fun t => ((h t).natAbs : Int)) N
  | 0, _ => by simp [isum]
  | N + 1, H => by
    have h1 := isum_abs (N := N) fun t ht => H t (by omega)
    have h2 := H N (by omega)
    show (((isum g N) + g N).natAbs : Int) ≤ isum (fun t => ((h t).natAbs : Int)) N + ((h N).natAbs : Int)
    omega
section
variable {s : List (Nat × Nat)} {T Y : Int}
end
def amat (P : List Int) (m : Int) (d n : Nat) (T Y : Int) : Mx := fun r c => gv (matG P m n ((shp d n).getD r (0, 0))) ((shp d n).getD c (0, 0)).1 ((shp d n).getD c (0, 0)).2 * sclV T Y ((shp d n).getD c (0, 0))
structure SzOk (P : List Int) (m : Int) (d n : Nat) (T Y : Int) : Prop where
  dg : dg P = d + 1
  d1 : 1 ≤ d
  m1 : 1 ≤ m
  T1 : 1 ≤ T
  Y1 : 1 ≤ Y
  len : (shp d n).length ≤ 24
section
variable {P : List Int} {m : Int} {d n : Nat} {T Y : Int}
theorem SzOk.small (h : SzOk P m d n T Y) {p : Nat × Nat} (hp : p ∈ shp d n) : p.1 ≤ 23 ∧ p.2 ≤ n ∧ p.1 ≤ d * (n - p.2) ∧ n ≤ 23 := by
  have h1 := shp_big d n
  have h2 := h.len
  have h3 := h.d1
  obtain ⟨x, y⟩ := p
  have h4 := shp_mem.1 hp
  have h5 : d * (n - y) ≤ d * n := Nat.mul_le_mul_left _ (by omega)
  have h6 : 1 * n ≤ d * n := Nat.mul_le_mul_right _ h3
  exact ⟨by simp only; omega, h4.1, h4.2, by omega⟩
theorem SzOk.ne (h : SzOk P m d n T Y) : nrm P ≠ [] := fun e => by
  have h1 := h.dg
  unfold Go.Proofs.YtjebljkoiaojaaaGreat.dg at h1
  rw [e] at h1; simp at h1
theorem SzOk.scl (h : SzOk P m d n T Y) (p : Nat × Nat) : 0 < sclV T Y p := by
  have h1 := h.T1
  have h2 := h.Y1
  exact Int.mul_pos (Int.pow_pos (by omega)) (Int.pow_pos (by omega))
theorem SzOk.top (h : SzOk P m d n T Y) (s : Nat × Nat) (u v : Nat) : (s.2 < v → gv (matG P m n s) u v = 0) ∧ gv (matG P m n s) u s.2 = if u = s.1 then m ^ (n - s.2) * (-1) ^ s.2 else 0 := matG_top0 rfl h.ne u v
theorem SzOk.low (h : SzOk P m d n T Y) {r c : Nat} (hr : r < c) (hc : c < (shp d n).length) : gv (matG P m n ((shp d n).getD r (0, 0))) ((shp d n).getD c (0, 0)).1 ((shp d n).getD c (0, 0)).2 = 0 := by
  have h1 := shp_lt hr hc
  have h2 := h.top ((shp d n).getD r (0, 0)) ((shp d n).getD c (0, 0)).1 ((shp d n).getD c (0, 0)).2
  rcases h1 with g | ⟨g, g2⟩
  · exact h2.1 g
  · have := h2.2
    rw [g] at this
    rw [this, if_neg (by omega)]
theorem SzOk.diag (h : SzOk P m d n T Y) (c : Nat) : gv (matG P m n ((shp d n).getD c (0, 0))) ((shp d n).getD c (0, 0)).1 ((shp d n).getD c (0, 0)).2 = m ^ (n - ((shp d n).getD c (0, 0)).2) * (-1) ^ ((shp d n).getD c (0, 0)).2 := by
  rw [(h.top ((shp d n).getD c (0, 0)) ((shp d n).getD c (0, 0)).1 0).2, if_pos rfl]
theorem SzOk.det (h : SzOk P m d n T Y) : det (shp d n).length (amat P m d n T Y) = iprod (fun k => m ^ (n - ((shp d n).getD k (0, 0)).2) * (-1) ^ ((shp d n).getD k (0, 0)).2 * sclV T Y ((shp d n).getD k (0, 0))) (shp d n).length := by
  rw [det_low _ _ fun i j hi hj => by unfold amat; rw [h.low hi hj, Int.zero_mul]]
  congr 1
  funext k
  unfold amat
  rw [h.diag]
theorem m1pow (j : Nat) : ((-1 : Int) ^ j).natAbs = 1 := by
  induction j with
  | zero => rfl
  | succ j ih => rw [Int.pow_succ, Int.natAbs_mul, ih]; rfl
theorem iprod_abs (f g : Nat → Int) : ∀ {N : Nat}, (∀ k, k < N → (f k).natAbs = (g k).natAbs) → (iprod f N).natAbs = (iprod g N).natAbs
  | 0, _ => rfl
  | N + 1, h => by
    rw [iprod, iprod, Int.natAbs_mul, Int.natAbs_mul, iprod_abs f g fun k hk => h k (by omega), h N (by omega)]
theorem SzOk.det_abs (h : SzOk P m d n T Y) : ((Go.Proofs.YtjebljkoiaojaaaGreat.det (shp d n).length (amat P m d n T Y)).natAbs : Int) = iprod (fun k => m ^ (n - ((shp d n).getD k (0, 0)).2) * sclV T Y ((shp d n).getD k (0, 0))) (shp d n).length := by
  rw [h.det, iprod_abs _ (fun k => m ^ (n - ((shp d n).getD k (0, 0)).2) * sclV T Y ((shp d n).getD k (0, 0))) fun k _ => by
    rw [Int.natAbs_mul, Int.natAbs_mul, Int.natAbs_mul, m1pow, Nat.mul_one]]
  have hp : 0 < iprod (fun k => m ^ (n - ((shp d n).getD k (0, 0)).2) * sclV T Y ((shp d n).getD k (0, 0))) (shp d n).length := iprod_pos fun k _ => Int.mul_pos (Int.pow_pos (by have := h.m1; omega)) (h.scl _)
  omega
theorem SzOk.det_ne (h : SzOk P m d n T Y) : Go.Proofs.YtjebljkoiaojaaaGreat.det (shp d n).length (amat P m d n T Y) ≠ 0 := by
  have h1 := h.det_abs
  have hp : 0 < iprod (fun k => m ^ (n - ((shp d n).getD k (0, 0)).2) * sclV T Y ((shp d n).getD k (0, 0))) (shp d n).length := iprod_pos fun k _ => Int.mul_pos (Int.pow_pos (by have := h.m1; omega)) (h.scl _)
  omega
variable {U : Nat → Int} {R : List Int}
end
end Go.Proofs.YtjebljkoiaojaaaGreat
namespace Go.Proofs.YtjebljkoiaojaaaGreat
open Go.RowKit
open Go.RowKit
open Go.RowKit
open Go.RowKit
open Go.RowKit
def cbd (M : Nat) (l : List Int) : Prop := ∀ i, (l.getD i 0).natAbs ≤ M
theorem cbd.szR {M k : Nat} {l : List Int} (h : cbd M l) (hm : M < 18446744073709551616 ^ k) : szR k l := fun x hx => by
  obtain ⟨i, hi, rfl⟩ := List.mem_iff_getElem.1 hx
  have := h i
  rw [List.getD_eq_getElem?_getD, List.getElem?_eq_getElem hi] at this
  exact Nat.lt_of_le_of_lt this hm
end Go.Proofs.YtjebljkoiaojaaaGreat
namespace Go.Proofs.YtjebljkoiaojaaaGreat
def dle (D : Int) (l : List Int) : Prop := ∀ i : Nat, l.getD i 0 ≠ 0 → (i : Int) ≤ D
theorem dle.mono {D E : Int} {l : List Int} (h : dle D l) (hd : D ≤ E) : dle E l := fun i hi => Int.le_trans (h i hi) hd
theorem dle.padd {D : Int} {l m : List Int} (h : dle D l) (h' : dle D m) : dle D (padd l m) := fun i hi => by
  rw [co_padd] at hi
  by_cases e : l.getD i 0 = 0
  · exact h' i (by omega)
  · exact h i e
theorem dle.ptim {D c : Int} {l : List Int} (h : dle D l) : dle D (ptim c l) := fun i hi => by
  rw [co_ptim] at hi
  exact h i fun e => hi (by rw [e, Int.mul_zero])
theorem co_pmul (l m : List Int) (y : Nat) : (pmul l m).getD y 0 = 0 ∨ (pmul l m).getD y 0 = conv (nrm l) (nrm m) (nrm l).length y := by
  unfold pmul
  simp only
  split
  · exact .inl (by simp)
  · rw [co_nrm, lst_get']
    split
    · exact .inr rfl
    · exact .inl rfl
theorem isum_some {g : Nat → Int} {n : Nat} (h : isum g n ≠ 0) : ∃ t, t < n ∧ g t ≠ 0 := Classical.byContradiction fun hn => h (isum_zero fun t ht => Classical.byContradiction fun e => hn ⟨t, ht, e⟩)
theorem dle.pmul {D E : Int} {l m : List Int} (h : dle D l) (h' : dle E m) : dle (D + E) (pmul l m) := fun y hy => by
  rcases co_pmul l m y with e | e
  · exact absurd e hy
  · rw [e] at hy
    obtain ⟨t, _, ht⟩ := isum_some hy
    split at ht
    · rename_i hty
      rw [co_nrm, co_nrm] at ht
      have h1 := h t fun e => ht (by rw [e, Int.zero_mul])
      have h2 := h' (y - t) fun e => ht (by rw [e, Int.mul_zero])
      omega
    · exact absurd rfl ht
theorem dle.nil (D : Int) : dle D [] := fun i hi => by simp at hi
theorem psumf_dle {D : Int} {f : Nat → List Int} : ∀ {n : Nat}, (∀ i, i < n → dle D (f i)) → dle D (psumf f n)
  | 0, _ => dle.nil D
  | n + 1, h => (psumf_dle fun i hi => h i (by omega)).padd (h n (by omega))
theorem isum_sk (g : Nat → Int) : ∀ (n i : Nat), i ≤ n → isum (fun x => g (sk i x)) n + g i = isum g (n + 1)
  | 0, i, h => by
    obtain rfl : i = 0 := by omega
    simp [isum]
  | n + 1, i, h => by
    show isum (fun x => g (sk i x)) n + g (sk i n) + g i = isum g (n + 1) + g (n + 1)
    by_cases e : i = n + 1
    · subst e
      have e1 : isum (fun x => g (sk (n + 1) x)) n = isum g n := isum_congr fun k hk => by
        have : sk (n + 1) k = k := by unfold sk; rw [if_pos (by omega)]
        rw [this]
      have e2 : sk (n + 1) n = n := by unfold sk; rw [if_pos (by omega)]
      rw [e1, e2]; rfl
    · have e2 : sk i n = n + 1 := by unfold sk; rw [if_neg (by omega)]
      have := isum_sk g n i (by omega)
      rw [e2]; omega
theorem pdet_dle : ∀ (n : Nat) (A : Px) (α β : Nat → Int), (∀ i j, i < n → j < n → dle (α i + β j) (A i j)) → dle (isum α n + isum β n) (pdet n A)
  | 0, _, _, _, _ => fun i hi => by
    cases i with
    | zero => simp [isum]
    | succ i => simp [pdet] at hi
  | n + 1, A, α, β, h => by
    refine psumf_dle fun i hi => dle.ptim ?_
    have h1 := pdet_dle n (fun x y => A (sk i x) (sk 0 y)) (fun x => α (sk i x)) (fun y => β (sk 0 y)) fun x y hx hy => h _ _ (sk_lt hx) (sk_lt hy)
    refine ((h i 0 hi (by omega)).pmul h1).mono ?_
    have e1 := isum_sk α n i (by omega)
    have e2 := isum_sk β n 0 (by omega)
    omega
theorem isum_leC {g : Nat → Int} {C : Nat} : ∀ {n : Nat}, (∀ t, t < n → (g t).natAbs ≤ C) → (isum g n).natAbs ≤ n * C
  | 0, _ => by simp [isum]
  | n + 1, h => by
    have h1 := isum_leC (n := n) fun t ht => h t (by omega)
    have h2 := h n (by omega)
    have h3 := Int.natAbs_add_le (isum g n) (g n)
    rw [Nat.succ_mul]
    show (isum g n + g n).natAbs ≤ _
    omega
theorem cbd.pmul {A B k : Nat} {l m : List Int} (h : cbd A l) (h' : cbd B m) (hl : l.length ≤ k) : cbd (k * (A * B)) (pmul l m) := fun y => by
  rcases co_pmul l m y with e | e
  · rw [e]; exact Nat.zero_le _
  · rw [e]
    refine Nat.le_trans (isum_leC (C := A * B) fun t _ => ?_) (Nat.mul_le_mul_right _ (Nat.le_trans (nrm_length_le l) hl))
    split
    · rw [co_nrm, co_nrm, Int.natAbs_mul]
      exact Nat.mul_le_mul (h t) (h' _)
    · exact Nat.zero_le _
theorem psumf_cbd {C : Nat} {f : Nat → List Int} : ∀ {n : Nat}, (∀ i, i < n → cbd C (f i)) → cbd (n * C) (psumf f n)
  | 0, _ => fun i => by simp [psumf]
  | n + 1, h => fun i => by
    have h1 := psumf_cbd (n := n) (fun i hi => h i (by omega)) i
    have h2 := h n (by omega) i
    rw [psumf, co_padd, Nat.succ_mul]
    have := Int.natAbs_add_le ((psumf f n).getD i 0) ((f n).getD i 0)
    omega
theorem sg_abs (i : Nat) : (sg i).natAbs = 1 := by unfold sg; split <;> rfl
def dbd (M k : Nat) : Nat → Nat
  | 0 => 1
  | n + 1 => (n + 1) * (k * (M * dbd M k n))
theorem pdet_cbd {M k : Nat} : ∀ (n : Nat) (A : Px), (∀ i j, cbd M (A i j)) → (∀ i j, (A i j).length ≤ k) → cbd (dbd M k n) (pdet n A)
  | 0, _, _, _ => fun i => by
    cases i with
    | zero => simp [pdet, dbd]
    | succ i => simp [pdet]
  | n + 1, A, h, hl => by
    refine psumf_cbd fun i _ => ?_
    have h1 := pdet_cbd n (fun x y => A (sk i x) (sk 0 y)) (fun x y => h _ _) fun x y => hl _ _
    have h2 := (h i 0).pmul h1 (hl i 0)
    intro y
    rw [co_ptim, Int.natAbs_mul, sg_abs, Nat.one_mul]
    exact h2 y
section
variable {G H : List (List Int)} {d n : Nat}
theorem supp.dy (h : supp d (d * n) G) (hd : 1 ≤ d) : dy G ≤ n := by
  refine Nat.not_lt.1 fun g => ?_
  have hl := led_dg (G := G) (fun e => by unfold Go.Proofs.YtjebljkoiaojaaaGreat.dy at g; rw [e] at g; simp at g)
  have h1 := ld_ne hl
  have h2 : gv (gtu G) (Go.Proofs.YtjebljkoiaojaaaGreat.dy G) (dg (led G) - 1) ≠ 0 := h1
  rw [gtu_gv] at h2
  have h3 := h _ _ h2
  have h4 : d * (n + 1) ≤ d * Go.Proofs.YtjebljkoiaojaaaGreat.dy G := Nat.mul_le_mul_left _ (by omega)
  rw [Nat.mul_add] at h4
  omega
theorem supp.row (h : supp d (d * n) G) (v : Nat) : dle ((d : Int) * ((n : Int) - v)) ((gtu G).getD v []) := fun i hi => by
  have h2 : gv (gtu G) v i ≠ 0 := hi
  rw [gtu_gv] at h2
  have h3 := h _ _ h2
  have e : (d : Int) * ((n : Int) - v) = ((d * n : Nat) : Int) - ((d * v : Nat) : Int) := by rw [Int.mul_sub, Int.natCast_mul, Int.natCast_mul]
  omega
theorem syRow_dle (h : supp d (d * n) G) (a y : Nat) : dle ((d : Int) * ((n : Int) - dy G - a) + (d : Int) * y) (syRow (gtu G) (dy G) a y) := by
  unfold syRow
  split
  · rename_i hy
    refine (h.row (dy G - (y - a))).mono (Int.le_of_eq ?_)
    rw [← Int.mul_add]
    congr 1
    omega
  · exact dle.nil _
theorem nm_len {l : List Int} {D : Int} {k : Nat} (hn : Nm l) (h : dle D l) (hk : D < k) : l.length ≤ k := by
  rw [← dg_nm hn]
  refine dg_le.2 fun i hi => Classical.byContradiction fun e => ?_
  have := h i e
  omega
theorem gel_len9 (hG : supp d (d * n) G) (hH : supp d (d * n) H) (hd : 1 ≤ d) (hn : n ≤ 2) (hdn : d * n ≤ 4) : (gel G H).length ≤ 9 := by
  have g1 := hG.dy hd
  have g2 := hH.dy hd
  have key : ¬ (gtu G = [] ∨ gtu H = []) → (gel G H).length ≤ 9 := fun h0 => by
    have e : gel G H = pdet (dy G + dy H) (syX (gtu G) (gtu H) (dy G) (dy H)) := by unfold gel; rw [if_neg h0]
    refine nm_len (D := 8) (gel_nm _ _) ?_ (by decide)
    rw [e]
    have h1 := pdet_dle (dy G + dy H) (syX (gtu G) (gtu H) (dy G) (dy H)) (fun i => if i < dy H then (d : Int) * ((n : Int) - dy G - i) else (d : Int) * ((n : Int) - dy H - ((i - dy H : Nat) : Int))) (fun y => (d : Int) * y) fun i j _ _ => by
      unfold syX
      split
      · exact syRow_dle hG i j
      · exact syRow_dle hH (i - dy H) j
    refine h1.mono ?_
    generalize dy G = a at g1 ⊢
    generalize dy H = b at g2 ⊢
    have hn3 : n = 0 ∨ n = 1 ∨ n = 2 := by omega
    have ha3 : a = 0 ∨ a = 1 ∨ a = 2 := by omega
    have hb3 : b = 0 ∨ b = 1 ∨ b = 2 := by omega
    rcases hn3 with rfl | rfl | rfl <;> rcases ha3 with rfl | rfl | rfl <;> rcases hb3 with rfl | rfl | rfl <;> simp only [isum] at * <;> simp <;> omega
  by_cases h0 : gtu G = [] ∨ gtu H = []
  · rw [gel_none h0]; simp
  · exact key h0
theorem syRow_cbd {M k : Nat} {F : List (List Int)} (h : ∀ v, cbd M (F.getD v []) ∧ (F.getD v []).length ≤ k) (e a y : Nat) : cbd M (syRow F e a y) ∧ (syRow F e a y).length ≤ k := by
  unfold syRow
  split
  · exact h _
  · exact ⟨fun i => by simp, Nat.zero_le _⟩
theorem supp.rows {M : Nat} (h : supp d (d * n) G) (hdn : d * n ≤ 4) (hb : ∀ u v, (gv G u v).natAbs ≤ M) (v : Nat) : cbd M ((gtu G).getD v []) ∧ ((gtu G).getD v []).length ≤ 5 := by
  refine ⟨fun i => ?_, ?_⟩
  · have : ((gtu G).getD v []).getD i 0 = gv G i v := gtu_gv G v i
    rw [this]; exact hb _ _
  · refine nm_len (D := 4) ?_ ((h.row v).mono ?_) (by decide)
    · by_cases hv : v < (gtu G).length
      · exact (gtu_gn G).2 _ (getD_mem [] hv)
      · rw [getD_end (l := gtu G) (by omega)]; rfl
    · have e : (d : Int) * ((n : Int) - v) = ((d * n : Nat) : Int) - ((d * v : Nat) : Int) := by rw [Int.mul_sub, Int.natCast_mul, Int.natCast_mul]
      omega
theorem gel_sz9 (hG : supp d (d * n) G) (hH : supp d (d * n) H) (hd : 1 ≤ d) (hn : n ≤ 2) (hdn : d * n ≤ 4) {M : Nat} (hM : M < 18446744073709551616 ^ 2) (bG : ∀ u v, (gv G u v).natAbs ≤ M) (bH : ∀ u v, (gv H u v).natAbs ≤ M) : szR 9 (gel G H) := by
  have g1 := hG.dy hd
  have g2 := hH.dy hd
  by_cases h0 : gtu G = [] ∨ gtu H = []
  · rw [gel_none h0]; exact fun x hx => by simp at hx
  have e : gel G H = pdet (dy G + dy H) (syX (gtu G) (gtu H) (dy G) (dy H)) := by unfold gel; rw [if_neg h0]
  rw [e]
  have key : ∀ i j, cbd M (syX (gtu G) (gtu H) (dy G) (dy H) i j) ∧ (syX (gtu G) (gtu H) (dy G) (dy H) i j).length ≤ 5 := fun i j => by
    unfold syX
    split
    · exact syRow_cbd (hG.rows hdn bG) _ _ _
    · exact syRow_cbd (hH.rows hdn bH) _ _ _
  refine (pdet_cbd _ _ (fun i j => (key i j).1) fun i j => (key i j).2).szR ?_
  have h4 : ∀ N, N ≤ 4 → dbd M 5 N ≤ 15000 * 18446744073709551616 ^ (2 * N) := fun N hN => by
    have hX : 0 < 18446744073709551616 ^ 2 := by decide
    have e0 : ∀ t, 18446744073709551616 ^ (2 * t) = (18446744073709551616 ^ 2) ^ t := fun t => by rw [Nat.pow_mul]
    rw [e0]
    generalize 18446744073709551616 ^ 2 = X at *
    have s1 : dbd M 5 1 ≤ 5 * X ^ 1 := by simp only [dbd, Nat.pow_one, Nat.mul_one]; omega
    have step : ∀ t a, dbd M 5 t ≤ a * X ^ t → dbd M 5 (t + 1) ≤ ((t + 1) * 5 * a) * X ^ (t + 1) := fun t a h => by
      have h1 : M * dbd M 5 t ≤ X * (a * X ^ t) := Nat.mul_le_mul (by omega) h
      show (t + 1) * (5 * (M * dbd M 5 t)) ≤ _
      have h2 : (t + 1) * (5 * (M * dbd M 5 t)) ≤ (t + 1) * (5 * (X * (a * X ^ t))) := Nat.mul_le_mul_left _ (Nat.mul_le_mul_left _ h1)
      have h3 : (t + 1) * (5 * (X * (a * X ^ t))) = ((t + 1) * 5 * a) * X ^ (t + 1) := by rw [Nat.pow_succ]; grind
      omega
    have s2 := step 1 _ s1
    have s3 := step 2 _ s2
    have s4 := step 3 _ s3
    have hN5 : N = 0 ∨ N = 1 ∨ N = 2 ∨ N = 3 ∨ N = 4 := by omega
    rcases hN5 with rfl | rfl | rfl | rfl | rfl
    · simp [dbd]
    · exact Nat.le_trans s1 (Nat.mul_le_mul_right _ (by decide))
    · exact Nat.le_trans s2 (Nat.mul_le_mul_right _ (by decide))
    · exact Nat.le_trans s3 (Nat.mul_le_mul_right _ (by decide))
    · exact s4
  have h5 := h4 (dy G + dy H) (by omega)
  refine Nat.lt_of_le_of_lt h5 ?_
  have h6 : 18446744073709551616 ^ (2 * (dy G + dy H)) ≤ 18446744073709551616 ^ 8 := Nat.pow_le_pow_right (by decide) (by omega)
  have h7 : (18446744073709551616 : Nat) ^ 9 = 18446744073709551616 ^ 8 * 18446744073709551616 := Nat.pow_succ _ _
  have h8 : 0 < 18446744073709551616 ^ 8 := by decide
  generalize 18446744073709551616 ^ 8 = X at *
  omega
end
open Go.RowKit
def Rq (R C : Nat) (x : Jx) (B : Mx) (k0 : Nat) : Prop := ∀ i c, i < R → c < C → jv (x i c) = B i c ∧ Lim (x i c).2 ∧ ((x i c).2.length ≤ k0 ∨ x i c = cn (B i c))
theorem Rq.rp {R C : Nat} {x : Jx} {B : Mx} {k0 K : Nat} (h : Rq R C x B k0) (hz : ∀ i c, i < R → c < C → sz (B i c) K) (hk : k0 ≤ K) : Rp R C x B K := fun i c hi hc => by
  obtain ⟨h1, h2, h3⟩ := h i c hi hc
  refine ⟨h1, h2, ?_⟩
  rcases h3 with h3 | h3
  · omega
  · rw [h3]; exact (hz i c hi hc).len
theorem Rq.red {R C : Nat} {x x2 : Jx} {B : Mx} {k0 k j : Nat} {q : Int} (h : Rq R C x B k0) (hk : k < R) (hj : j < R) (h2 : x2 = x ∧ q = 0 ∨ x2 = mid x k j q C) : Rq R C x2 (redq B k j q) k0 := by
  rcases h2 with ⟨rfl, rfl⟩ | rfl
  · rw [redq_zero]; exact h
  · intro i c hi hc
    unfold mid redq
    by_cases e : i = k
    · rw [if_pos ⟨e, hc⟩, if_pos e, jv_cn, (h k c hk hc).1, (h j c hj hc).1]
      exact ⟨rfl, Lim_lims _, .inr rfl⟩
    · rw [if_neg (fun h => e h.1), if_neg e]
      exact h i c hi hc
theorem Rq.swb {R C : Nat} {x : Jx} {B : Mx} {k0 p : Nat} (h : Rq R C x B k0) (hp : p + 1 < R) : Rq R C (fun i c => x (sx p i) c) (swb B p) k0 := fun i c hi hc => h (sx p i) c (sx_lt hp hi) hc
structure Sv (m n : Nat) (a : Mx) (D K k0 : Nat) (x y : Jx) (d : Nat → Int) (l : Mx) (B U : Mx) : Prop where
  lb : LB a m n D K B U
  rb : Rq n m x B k0
  ru : Rq n n y U k0
  hd : ∀ t, t ≤ n → d t = dm m B t
  hl : ∀ i t, t < i → i < n → l i t = lm m B i t
section
variable {m n : Nat} {a : Mx} {D K k0 A Z : Nat} {x y : Jx} {d : Nat → Int} {l : Mx} {B U : Mx}
structure Szs (m n : Nat) (a : Mx) (D K k0 A Z : Nat) : Prop where
  hm : m ≤ 1048576
  hn : n ≤ 1048575
  ha : ∀ i c, i < n → c < m → sz (a i c) A
  hd : dm m a n ≠ 0
  hk : k0 ≤ Z
  hz : D + K + 2 ≤ Z ∧ K + A + 1 + ((A + A + 2) * n + 1) + 1 ≤ Z
  big : Z ≤ 268435456
theorem Sv.mono {K' : Nat} (h : Sv m n a D K k0 x y d l B U) (hk : K ≤ K') : Sv m n a D K' k0 x y d l B U :=
  ⟨⟨h.lb.ind, h.lb.dz, fun i c hi hc => (h.lb.bz i c hi hc).mono hk, h.lb.ua, h.lb.un⟩, h.rb, h.ru, h.hd, h.hl⟩
theorem Sv.dz (h : Sv m n a D K k0 x y d l B U) (t : Nat) (ht : t ≤ n) : sz (d t) D := by rw [h.hd t ht]; exact h.lb.dz t ht
theorem Sv.lz (h : Sv m n a D K k0 x y d l B U) (z : Szs m n a D K k0 A Z) (i j : Nat) (hj : j < i) (hi : i < n) : sz (l i j) (D + K + 1) := by
  rw [h.hl i j hj hi]; exact h.lb.lz (by have := z.hm; omega) hi hj
theorem Sv.bp (h : Sv m n a D K k0 x y d l B U) (z : Szs m n a D K k0 A Z) : Rp n m x B Z := h.rb.rp (fun i c hi hc => (h.lb.bz i c hi hc).mono (by have := z.hz; omega)) z.hk
theorem Sv.uz (h : Sv m n a D K k0 x y d l B U) (z : Szs m n a D K k0 A Z) (i j : Nat) (hi : i < n) (hj : j < n) : sz (U i j) Z :=
  (h.lb.uz (by have := z.hm; omega) (by have := z.hn; omega) z.ha z.hd hi hj).mono z.hz.2
theorem Sv.up (h : Sv m n a D K k0 x y d l B U) (z : Szs m n a D K k0 A Z) : Rp n n y U Z := h.ru.rp (h.uz z) z.hk
theorem Sv.red {k j : Nat} {x2 y2 : Jx} (h : Sv m n a D K k0 x y d l B U) (z : Szs m n a D K k0 A Z) (hk : k < n) (hj : j < k) (hx : x2 = x ∧ rnd (l k j) (d (j + 1)) = 0 ∨ x2 = mid x k j (rnd (l k j) (d (j + 1))) m) (hy : y2 = y ∧ rnd (l k j) (d (j + 1)) = 0 ∨ y2 = mid y k j (rnd (l k j) (d (j + 1))) n) :
    Sv m n a D (D + K + K + 3) k0 x2 y2 d (lmid l d k j (rnd (l k j) (d (j + 1))) j) (redq B k j (rnd (lm m B k j) (dm m B (j + 1)))) (redq U k j (rnd (lm m B k j) (dm m B (j + 1)))) := by
  have e1 := h.hl k j hj hk
  have e2 := h.hd (j + 1) (by omega)
  rw [e1, e2] at hx hy ⊢
  have hm : m < 18446744073709551616 := by have := z.hm; omega
  refine ⟨h.lb.redq hk hj (h.lb.qz hm hk hj), h.rb.red hk (by omega) hx, h.ru.red hk (by omega) hy, fun t ht => by rw [dm_redq h.lb.ind hj ht]; exact h.hd t ht, fun i t ht hi => ?_⟩
  rw [lm_redq h.lb.ind hj ht hi]
  unfold lmid
  by_cases ei : i = k
  · rw [if_pos ei, if_pos ei]
    by_cases et : t = j
    · rw [if_pos et, if_neg (by omega), if_pos et, e1, e2]
    · rw [if_neg et]
      by_cases et2 : t < j
      · rw [if_pos et2, if_pos et2, h.hl k t (by omega) hk, h.hl j t et2 (by omega)]
      · rw [if_neg et2, if_neg et2, if_neg et, h.hl k t (by omega) hk]
  · rw [if_neg ei, if_neg ei, h.hl i t ht hi]
theorem Sv.turn {k : Nat} (h : Sv m n a D K k0 x y d l B U) (h1 : 1 ≤ k) (hk : k < n) (hf : ¬ farL m B k) :
    Sv m n a D K k0 (fun i c => x (sx (k - 1) i) c) (fun i c => y (sx (k - 1) i) c) (tdd d l k) (trw d l k n) (swb B (k - 1)) (swb U (k - 1)) := by
  obtain ⟨p, rfl⟩ : ∃ p, k = p + 1 := ⟨k - 1, by omega⟩
  rw [Nat.add_sub_cancel]
  have hi := h.lb.ind
  have e0 := h.hd p (by omega)
  have e1 := h.hd (p + 1) (by omega)
  have e2 := h.hd (p + 2) (by omega)
  have el := h.hl (p + 1) p (by omega) hk
  have n1 : dm m B (p + 1) ≠ 0 := by have := hi (p + 1) (by omega); omega
  have n2 : dm m B (p + 2) ≠ 0 := by have := hi (p + 2) (by omega); omega
  have hT : tD d l (p + 1) = mi (gr m B) p (p + 1) (p + 1) := by
    unfold tD
    rw [Nat.add_sub_cancel, e0, e1, e2, el, ← dd hi hk, Int.mul_ediv_cancel_left _ n1]
  have hlb := h.lb.swb (k := p + 1) (by omega) hk hf
  rw [Nat.add_sub_cancel] at hlb
  have hN1 : ∀ i, p + 1 < i → i < n → tN1 d l (p + 1) i = lm m (swb B p) i (p + 1) := fun i g1 g2 => by
    unfold tN1
    rw [Nat.add_sub_cancel, e1, e2, el, h.hl i p (by omega) g2, h.hl i (p + 1) g1 g2, ← lm_swb_one hi hk g1 g2, Int.mul_ediv_cancel_left _ n1]
  refine ⟨hlb, h.rb.swb hk, h.ru.swb hk, fun t ht => ?_, fun i t ht hi' => ?_⟩
  · unfold tdd
    rw [dm_swb hi hk ht]
    split
    · exact hT
    · exact h.hd t ht
  · unfold trw
    by_cases c1 : p + 1 < i
    · rw [if_pos ⟨c1, hi'⟩]
      by_cases c2 : t = p + 1
      · rw [if_pos c2, hN1 i c1 hi', c2]
      · rw [if_neg c2, Nat.add_sub_cancel]
        by_cases c3 : t = p
        · rw [if_pos c3]
          unfold tN2
          rw [hN1 i c1 hi', hT, Nat.add_sub_cancel, e2, el, h.hl i (p + 1) c1 hi', ← lm_swb_two hi hk c1 hi', Int.mul_ediv_cancel_left _ n2, c3]
        · rw [if_neg c3, lm_swb hi hk ht hi', if_neg (by omega), if_neg c3, if_neg c2, sx_high (by omega), h.hl i t ht hi']
    · rw [if_neg (fun h => c1 h.1), Nat.add_sub_cancel]
      unfold tsw
      by_cases c2 : i = p + 1
      · subst c2
        by_cases c3 : t < p
        · rw [if_pos ⟨rfl, c3⟩, Nat.add_sub_cancel, lm_swb hi hk ht hi', if_neg (by omega), if_neg (by omega), if_neg (by omega), sx_at', h.hl p t c3 (by omega)]
        · rw [if_neg (fun h => c3 h.2), if_neg (by omega), lm_swb hi hk ht hi', if_pos (by omega), show t = p by omega, el]
      · rw [if_neg (fun h => c2 h.1), Nat.add_sub_cancel]
        by_cases c4 : i = p
        · subst c4
          rw [if_pos (by omega), lm_swb hi hk ht hi', if_neg (by omega), if_neg (by omega), if_neg (by omega), sx_at, h.hl (i + 1) t (by omega) hk]
        · rw [if_neg (fun h => c4 h.1), lm_swb hi hk ht hi', if_neg (by omega), if_neg (by omega), if_neg (by omega), sx_low (by omega), h.hl i t ht hi']
theorem Sv.far {k : Nat} (h : Sv m n a D K k0 x y d l B U) (h1 : 1 ≤ k) (hk : k < n) : decide (farN d l k) = decide (farL m B k) := by
  refine decide_eq_decide.2 ?_
  unfold farN farL
  rw [h.hd k (by omega), h.hd (k + 1) (by omega), h.hd (k - 1) (by omega), h.hl k (k - 1) (by omega) hk]
end
open Go.RowKit
def lD (k n : Nat) : Nat := (k + k + 2) * n + 1
def lK (k n : Nat) : Nat := n * (lD k n + 1) + k
theorem mm_one_left {n : Nat} (A : Mx) {i : Nat} (c : Nat) (hi : i < n) : mm n one A i c = A i c := by
  unfold mm
  rw [isum_one (r := i) hi fun s _ hs => by unfold one; rw [if_neg (fun e => hs e.symm), Int.zero_mul]]
  unfold one; rw [if_pos rfl, Int.one_mul]
theorem Sv.start {a : List Row} {k : Nat} (hf : Fits k a) (lc : (a.getD 0 []).length ≤ 1048576) (ln : a.length ≤ 1024) (hI : Ind (a.getD 0 []).length a.length (rvm a)) :
    Sv (a.getD 0 []).length a.length (rvm a) (lD k a.length) (lK k a.length) k (rawJ a) uniJ (dm (a.getD 0 []).length (rvm a)) (ltb (a.getD 0 []).length (rvm a) a.length 0) (rvm a) one := by
  have hg : ∀ i j, sz (gr (a.getD 0 []).length (rvm a) i j) (k + k + 1) := gmx_sz hf lc
  refine ⟨⟨hI, fun t ht => ?_, fun i c _ _ => (rv_sz (hf.get i) c).mono (by unfold lK; omega), fun i c hi _ => mm_one_left _ c hi, .inl (det_one _)⟩, fun i c _ _ => ?_, fun i c _ _ => ?_, fun _ _ => rfl, fun i t h1 h2 => ?_⟩
  · unfold dm dG
    refine (det_sz t (by omega) (k := k + k + 1) fun x y _ _ => hg _ _).mono ?_
    have : (k + k + 1 + 1) * t ≤ (k + k + 2) * a.length := Nat.mul_le_mul (by omega) ht
    unfold lD; omega
  · exact ⟨rfl, ((hf.get i).get c).1, .inl ((hf.get i).get c).2⟩
  · have e : uniJ i c = cn (one i c) := by
      unfold uniJ one
      by_cases h : c = i
      · rw [if_pos h, if_pos h.symm]
      · rw [if_neg h, if_neg (fun e => h e.symm), cn0]
    rw [e, jv_cn]
    exact ⟨rfl, Lim_lims _, .inr rfl⟩
  · unfold ltb
    rw [if_pos ⟨h1, .inl h2⟩]
open Go.RowKit
def kt (D K : Nat) : Nat → Nat
  | 0 => K
  | t + 1 => D + kt D K t + kt D K t + 3
theorem kt_mono {D K : Nat} : ∀ {s t : Nat}, s ≤ t → kt D K s ≤ kt D K t
  | s, 0, h => by rw [show s = 0 by omega]; exact Nat.le_refl _
  | s, t + 1, h => by
    by_cases e : s = t + 1
    · rw [e]; exact Nat.le_refl _
    · have := kt_mono (D := D) (K := K) (s := s) (t := t) (by omega)
      show kt D K s ≤ D + kt D K t + kt D K t + 3
      omega
def lZ (k n : Nat) : Nat := kt (lD k n) (lK k n) n + lD k n + k + ((k + k + 2) * n + 1) + 4
theorem lrun_step {m n f : Nat} {b u : Mx} {k : Nat} {R : Mx × Mx} (h : lrun m n f b u k = some R) (hk : k < n) :
    ∃ g, f = g + 1 ∧ (if farL m (redr m k k b u).1 k then lrun m n g (redr m k k b u).1 (redr m k k b u).2 (k + 1)
    else lrun m n g (swb (redr m k k b u).1 (k - 1)) (swb (redr m k k b u).2 (k - 1)) (max 1 (k - 1))) = some R := by
  cases f with
  | zero => simp [lrun] at h
  | succ g =>
    rw [lrun, if_neg (by omega)] at h
    exact ⟨g, rfl, h⟩
theorem lrun_end {m n f : Nat} {b u : Mx} {k : Nat} {R : Mx × Mx} (h : lrun m n f b u k = some R) (hk : n ≤ k) : R = (b, u) := by
  cases f with
  | zero => simp [lrun] at h
  | succ g =>
    rw [lrun, if_pos hk] at h
    simpa using h.symm
theorem redr_row {m k : Nat} : ∀ (j : Nat) (b u : Mx) (i c : Nat), i ≠ k → (redr m k j b u).1 i c = b i c
  | 0, _, _, _, _, _ => rfl
  | j + 1, b, u, i, c, h => by
    rw [redr_succ, redr_row j _ _ i c h]
    unfold redq; rw [if_neg h]
theorem Sv.full {m n : Nat} {a : Mx} {D K K' k0 k : Nat} {x y : Jx} {d : Nat → Int} {l : Mx} {B0 U0 B U : Mx} (h0 : LB a m n D K B0 U0) (h : Sv m n a D K' k0 x y d l B U) (hk : k < n) (hK : n * (D + 1) ≤ K)
    (he : (B, U) = redr m k k B0 U0) : Sv m n a D K k0 x y d l B U := by
  obtain ⟨w, ws⟩ := redr_full (u := U0) hk h0.ind
  have eB : B = (redr m k k B0 U0).1 := by rw [← he]
  have eU : U = (redr m k k B0 U0).2 := by rw [← he]
  rw [← eB] at w ws
  exact ⟨h0.full hk hK w ws (fun i c hi => by rw [eB]; exact redr_row k _ _ i c hi) h.lb.ua h.lb.un, h.rb, h.ru, h.hd, h.hl⟩
structure RdS where
  k : Nat
  s : BS
  b : Jx
  u : Jx
  d : Nat → Int
  l : Mx
  B : Mx
  U : Mx
  f : Nat
structure RdI where
  z : Int
  j : Nat
  b : Jx
  u : Jx
  l : Mx
  B : Mx
  U : Mx
def nrmJ (x : Jx) (i c : Nat) : Jx := fun a e => if a < i ∨ (a = i ∧ e < c) then cn (jv (x a e)) else x a e
theorem nrmJ_zero (x : Jx) : nrmJ x 0 0 = x := by
  funext a e; unfold nrmJ; rw [if_neg (by omega)]
theorem lReduce_meets (v : Value) (a : List Row) (k : Nat) (R : Mx × Mx) (hf : Fits k a) (hk : k ≤ 1048576) (ln : a.length ≤ 1024) (lc : (a.getD 0 []).length ≤ 1048576) (hZ : lZ k a.length ≤ 268435456)
    (hR : right a → Ind (a.getD 0 []).length a.length (rvm a) → ∃ f, lrun (a.getD 0 []).length a.length f (rvm a) one 1 = some R) :
    Meets Tryz.prog 30 [v] [(v, W a)] (fun r os fs => fs = [] ∧
      ((¬ right a ∧ r = .tuple #[.slice none 0 0, .slice none 0 0, .int .i64 1] ∧ os = []) ∨ (right a ∧ ¬ Ind (a.getD 0 []).length a.length (rvm a) ∧ r = .tuple #[.slice none 0 0, .slice none 0 0, .int .i64 8] ∧ os = []) ∨
       (right a ∧ Ind (a.getD 0 []).length a.length (rvm a) ∧ ∃ q w vs ws, isSl q ∧ isSl w ∧ (∀ i, i < a.length → isSl (vs i)) ∧ (∀ i, i < a.length → isSl (ws i)) ∧ r = .tuple #[q, w, .int .i64 0] ∧
        os = [famO vs a.length (a.getD 0 []).length R.1, outer q a.length vs, famO ws a.length a.length R.2, outer w a.length ws]))) := by
  refine meets_of_vc Tryz.func30 (by kernel_rfl) rfl (by kernel_rfl) (Nat.le_of_ble_eq_true rfl) ?_
  refine call_fn (mRight_meets v a) (Seals.refl _ _) qS ?_
  rintro _ _ _ ⟨rfl, rfl, rfl⟩
  by_cases hr : right a
  case neg =>
    rw [decide_eq_false hr]
    exact fin ⟨rfl, .inl ⟨hr, rfl, rfl⟩⟩ (Seals.nil _ _)
  rw [decide_eq_true hr]
  refine call_fn (lmade_meets v a k hf hr hk ln lc) (Seals.refl _ _) qS ?_
  rintro _ _ _ (⟨hI, rfl, rfl, rfl⟩ | ⟨hI, s0, hs0, rfl, rfl, rfl⟩)
  · refine eq_ptr ?_
    exact fin ⟨rfl, .inr (.inl ⟨hr, hI, rfl, rfl⟩)⟩ (Seals.nil _ _)
  have hv := Sv.start hf lc ln hI
  have hn1 := hr.1
  obtain ⟨f0, hf0⟩ := hR hr hI
  have hA : ∀ i c, sz (rvm a i c) k := fun i c => rv_sz (hf.get i) c
  have hdn : dm (a.getD 0 []).length (rvm a) a.length ≠ 0 := by have := hI a.length (Nat.le_refl _); omega
  have hnK : a.length * (lD k a.length + 1) ≤ lK k a.length := by unfold lK; omega
  have hzz : kt (lD k a.length) (lK k a.length) a.length + lD k a.length + k + ((k + k + 2) * a.length + 1) + 4 ≤ 268435456 := hZ
  generalize hC : (a.getD 0 []).length = C at *
  generalize dm C (rvm a) = d0 at hv ⊢
  generalize ltb C (rvm a) a.length 0 = l0 at *
  generalize hDD : lD k a.length = D at *
  generalize hKK : lK k a.length = K at *
  generalize hZZ : kt D K a.length + D + k + ((k + k + 2) * a.length + 1) + 4 = Z at *
  have hsz : ∀ t, t ≤ a.length → Szs C a.length (rvm a) D (kt D K t) k k Z := fun t ht => by
    have := kt_mono (D := D) (K := K) ht
    exact ⟨by omega, by omega, fun i c _ _ => hA i c, hdn, by omega, ⟨by omega, by omega⟩, hzz⟩
  have hK0 : Szs C a.length (rvm a) D K k k Z := hsz 0 (Nat.zero_le _)
  refine eq_ptr ?_
  refine loop_rule (X := RdS) (fun x => ([(0, v), (5, ptr0 x.s.r 0), (6, .int .i64 (x.k : Nat))], bas x.s C a.length x.b x.u x.d x.l [], [(v, W a)]))
    (fun x => 1 ≤ x.k ∧ x.k ≤ a.length ∧ x.s.ok a.length ∧ Sv C a.length (rvm a) D K k x.b x.u x.d x.l x.B x.U ∧ lrun C a.length x.f x.B x.U x.k = some R) (fun x => x.f) rfl ?_ ?_
  · exact again ⟨1, s0, rawJ a, uniJ, d0, l0, rvm a, one, f0⟩ ⟨Nat.le_refl _, hn1, hs0, hv, hf0⟩ trivial qF (Seals.sub qS)
  · rintro ⟨i, s, b, u, d, l, B, U, f⟩ ⟨hi1, hi2, hs, hv, hf⟩
    simp only at hi1 hi2 hs hv hf ⊢
    refine len_fact (v := v) (n := a.length) qM fun _ => ?_
    refine cmp_split _ rfl (fun hc => ?_) (fun hc => ?_)
    · have hin : i < a.length := by omega
      obtain ⟨g, rfl, hg⟩ := lrun_step hf hin
      refine ar rfl qI ?_
      refine loop_rule (X := RdI) (fun x => ([(0, v), (5, ptr0 s.r 0), (6, .int .i64 (i : Nat)), (7, .int .i64 x.z)], bas s C a.length x.b x.u d x.l [], [(v, W a)]))
        (fun x => x.z = (x.j : Int) - 1 ∧ x.j ≤ i ∧ Sv C a.length (rvm a) D (kt D K (i - x.j)) k x.b x.u d x.l x.B x.U ∧ redr C i x.j x.B x.U = redr C i i B U) (fun x => x.j) rfl ?_ ?_
      · exact again ⟨(i : Int) - 1, i, b, u, l, B, U⟩ ⟨rfl, Nat.le_refl _, by simp only [Nat.sub_self]; exact hv, rfl⟩ trivial qF (Seals.sub qS)
      · rintro ⟨z, j, b2, u2, l2, B2, U2⟩ ⟨hz, hj, hv2, he⟩
        simp only at hz hj hv2 he ⊢
        refine cmp_split _ rfl (fun hlt => ?_) (fun hlt => ?_)
        · obtain ⟨j, rfl⟩ : ∃ j', j = j' + 1 := ⟨j - 1, by omega⟩
          obtain rfl : z = (j : Int) := by omega
          have hS := hsz (i - (j + 1)) (by omega)
          have hbig := hS.hz
          refine size_call i j D (D + kt D K (i - (j + 1)) + 1) Z hin (by omega) (by omega) (by omega) hs (hv2.bp hS) (hv2.up hS) hv2.dz (fun x y h1 h2 => hv2.lz hS x y h1 h2) ?_ (by omega) (by omega) (by omega) fun r b3 u3 h3 h4 => ?_
          · rw [hv2.hd (j + 1) (by omega)]; exact hv2.lb.ind (j + 1) (by omega)
          have hv3 := hv2.red hS hin (by omega) h3 h4
          refine ar rfl qI ?_
          refine again ⟨(j : Int) - 1, j, b3, u3, lmid l2 d i j (rnd (l2 i j) (d (j + 1))) j, redq B2 i j (rnd (lm C B2 i j) (dm C B2 (j + 1))), redq U2 i j (rnd (lm C B2 i j) (dm C B2 (j + 1)))⟩ ⟨rfl, by simp only; omega, ?_, ?_⟩ (by simp only; omega) qF (Seals.sub (fs' := [(v, W a)]) qS)
          · refine hv3.mono ?_
            simp only
            rw [show i - j = (i - (j + 1)) + 1 by omega]
            exact Nat.le_refl _
          · exact he
        · obtain rfl : j = 0 := by omega
          have hv3 : Sv C a.length (rvm a) D K k b2 u2 d l2 B2 U2 := hv2.full hv.lb hin hnK he
          have eB : (redr C i i B U).1 = B2 := by rw [← he]; rfl
          have eU : (redr C i i B U).2 = U2 := by rw [← he]; rfl
          rw [eB, eU] at hg
          refine far_call i D (D + K + 1) hi1 hin (by omega) hs hv3.dz (fun x y h1 h2 => hv3.lz hK0 x y h1 h2) (by omega) (by have := hK0.hz; omega) ?_
          rw [hv3.far hi1 hin]
          by_cases hfar : farL C B2 i
          · rw [decide_eq_true hfar]
            rw [if_pos hfar] at hg
            refine ar rfl qI ?_
            exact again ⟨i + 1, s, b2, u2, d, l2, B2, U2, g⟩ ⟨by simp only; omega, by simp only; omega, hs, hv3, hg⟩ (by simp only; omega) qF (Seals.sub (fs' := [(v, W a)]) qS)
          · rw [decide_eq_false hfar]
            rw [if_neg hfar] at hg
            have n1 : d i ≠ 0 := by rw [hv3.hd i (by omega)]; have := hv3.lb.ind i (by omega); omega
            have n2 : d (i + 1) ≠ 0 := by rw [hv3.hd (i + 1) (by omega)]; have := hv3.lb.ind (i + 1) (by omega); omega
            refine turn_call i D (D + K + 1) hi1 hin (by omega) hs hv3.dz (fun x y h1 h2 => hv3.lz hK0 x y h1 h2) n1 n2 (by have := hK0.hz; omega) (by have := hK0.hz; omega) fun r => ?_
            have hv4 := hv3.turn hi1 hin hfar
            refine ar rfl qI ?_
            refine max2_rule ?_
            exact again ⟨max 1 (i - 1), s.sw (i - 1), _, _, _, _, _, _, g⟩ ⟨by simp only; omega, by simp only; omega, hs.sw (by omega), hv4, hg⟩ (by simp only; omega) qF (Seals.sub (fs' := [(v, W a)]) qS)
    · have hin : i = a.length := by omega
      have hRR := lrun_end hf (by omega)
      have hb := hv.bp hK0
      have hu := hv.up hK0
      have z1 := hs.vb
      have z2 := hs.vu
      have z3 := hs.sb
      have z4 := hs.su
      have hZb : Z ≤ 268435456 := hzz
      have e1 : ∀ i c, i < a.length → c < C → cn (jv (b i c)) = cn (R.1 i c) := fun i c h1 h2 => by rw [(hb i c h1 h2).1, hRR]
      have e2 : ∀ i c, i < a.length → c < a.length → cn (jv (u i c)) = cn (R.2 i c) := fun i c h1 h2 => by rw [(hu i c h1 h2).1, hRR]
      clear hv hf hRR hR hsz hK0 hf0 hA
      generalize hn : a.length = n at *
      refine draw_rule [0, 1, 2, 3, 4, 5, 6, 7, 8, 9, 12, 10, 11] [0, 1, 2, 3, 4, 5, 6, 7, 8, 9, 10, 11, 12] (by kernel_rfl) (by kernel_rfl) ?_
      refine field_ptr ?_
      refine field_ptr ?_
      refine ld4b 0 rfl rfl ?_
      refine field_ptr ?_
      refine field_ptr ?_
      refine ld4u 0 rfl rfl ?_
      refine buildSlice_fact (size := 1) (n := 2) [s.vb, s.vu] [.one s.vb, .one s.vu] rfl rfl (by decide) (by decide) ⟨Reads.one hs.vb.one, rfl, Reads.one hs.vu.one, rfl, trivial⟩ fun lt => ?_
      refine len_fact (n := 2) qM fun _ => ?_
      refine loop_rule (X := Nat) (fun t => ([(5, ptr0 s.r 0), (55, lt), (56, .int .i64 2), (57, .int .i64 (t : Nat))],
          bas s C n (selb b (nrmJ b n 0) t) (selu u (nrmJ u n 0) t) d l [], [(lt, .sl 1 2 fun i => [Dat.one s.vb, Dat.one s.vu].getD i (.one undef))]))
          (fun t => t ≤ 2) (fun t => 2 - t) rfl ?_ ?_
      · exact again 0 (Nat.zero_le _) trivial qF (Seals.sub qS)
      · rintro t ht
        refine cmp_split _ rfl (fun hc => ?_) (fun hc => ?_)
        · have htt : t = 0 ∨ t = 1 := by omega
          rcases htt with rfl | rfl
          ·
            refine index_fact (n := 2) qM 0 rfl (by decide) fun a1 => ?_
            refine load_one (u := s.vb) qM ?_
            refine len_own 2 rfl z1 fun _ => ?_
            refine loop_rule (X := Nat) (fun i => ([(5, ptr0 s.r 0), (55, lt), (56, .int .i64 2), (57, .int .i64 (0 : Nat)), (61, s.vb), (62, .int .i64 (n : Nat)), (63, .int .i64 (i : Nat))],
                bas s C n (nrmJ b i 0) (u) d l [], [(lt, .sl 1 2 fun i => [Dat.one s.vb, Dat.one s.vu].getD i (.one undef))]))
                (fun i => i ≤ n) (fun i => n - i) rfl ?_ ?_
            · exact again 0 (Nat.zero_le _) trivial qF (by rw [nrmJ_zero]; exact Seals.sub qS)
            rintro i hi
            refine cmp_split _ rfl (fun hlt => ?_) (fun hlt => ?_)
            · have hin : i < n := by omega
              refine index_elem 2 rfl z1 i rfl (by omega) ?_
              refine load_one_elem 2 rfl i (by omega) (u := s.sb i) rfl ?_
              refine len_fj 1 i rfl hin (z3 i hin) fun _ => ?_
              refine loop_rule (X := Nat) (fun c => ([(5, ptr0 s.r 0), (11, s.sb i), (55, lt), (56, .int .i64 2), (57, .int .i64 (0 : Nat)), (61, s.vb), (62, .int .i64 (n : Nat)), (63, .int .i64 (i : Nat)), (67, s.sb i), (68, .int .i64 (C : Nat)), (69, .int .i64 (c : Nat))],
                  bas s C n (nrmJ b i c) (u) d l [], [(lt, .sl 1 2 fun i => [Dat.one s.vb, Dat.one s.vu].getD i (.one undef))]))
                  (fun c => c ≤ C) (fun c => C - c) rfl ?_ ?_
              · exact again 0 (Nat.zero_le _) trivial qF (Seals.sub qS)
              rintro c hcm
              refine cmp_split _ rfl (fun hlt2 => ?_) (fun hlt2 => ?_)
              · have hcC : c < C := by omega
                have f1 := hb i c hin hcC
                refine index_fj 1 i rfl hin (z3 i hin) c rfl hcC ?_
                refine load_fj 1 i c rfl hin hcC (b i c) (by unfold nrmJ; rw [if_neg (by omega)]) fun y1 => ?_
                refine call_fn (znorm_meets y1 (b i c).1 (b i c).2 f1.2.1 (by omega)) (Seals.refl _ _) qS ?_
                rintro y2 _ _ ⟨rfl, rfl⟩
                refine index_fj 1 i rfl hin (z3 i hin) c rfl hcC ?_
                refine store_fj 1 i c rfl hin hcC (cn (jv (b i c))) (nrmJ b i (c + 1)) (Reads.fact (d := zd (jv (b i c))) qM) (fun a b' ha hb' => ?_) ?_
                · unfold nrmJ
                  by_cases e : a = i ∧ b' = c
                  · rw [if_pos e, if_pos (by omega), e.1, e.2]
                  · rw [if_neg e]
                    by_cases e2 : a < i ∨ (a = i ∧ b' < c)
                    · rw [if_pos e2, if_pos (by omega)]
                    · rw [if_neg e2, if_neg (by omega)]
                refine ar rfl qI ?_
                exact again (c + 1) (by omega) (by simp only; omega) qF (Seals.sub qS)
              · have hcC : c = C := by omega
                subst hcC
                refine ar rfl qI ?_
                refine again (i + 1) (by omega) (by simp only; omega) qF (Seals.trans (Seals.fjcong (vs := s.sb) (vs' := s.sb) (x := nrmJ b i c) (x' := nrmJ b (i + 1) 0) (os := [_, _, _, _, _, _, _, _]) 1 rfl (fun x => x) (fun x hx => ⟨hx, rfl, fun y hy => ?_⟩) (fun _ _ _ _ e => e)) (Seals.sub qS))
                unfold nrmJ
                by_cases e : x < i ∨ x = i
                · rw [if_pos (by omega), if_pos (by omega)]
                · rw [if_neg (by omega), if_neg (by omega)]
            · have hin : i = n := by omega
              subst hin
              refine ar rfl qI ?_
              exact again 1 (by omega) (by simp only; omega) qF (Seals.sub qS)
          ·
            refine index_fact (n := 2) qM 1 rfl (by decide) fun a1 => ?_
            refine load_one (u := s.vu) qM ?_
            refine len_own 4 rfl z2 fun _ => ?_
            refine loop_rule (X := Nat) (fun i => ([(5, ptr0 s.r 0), (55, lt), (56, .int .i64 2), (57, .int .i64 (1 : Nat)), (61, s.vu), (62, .int .i64 (n : Nat)), (63, .int .i64 (i : Nat))],
                bas s C n (nrmJ b n 0) (nrmJ u i 0) d l [], [(lt, .sl 1 2 fun i => [Dat.one s.vb, Dat.one s.vu].getD i (.one undef))]))
                (fun i => i ≤ n) (fun i => n - i) rfl ?_ ?_
            · exact again 0 (Nat.zero_le _) trivial qF (by rw [nrmJ_zero]; exact Seals.sub qS)
            rintro i hi
            refine cmp_split _ rfl (fun hlt => ?_) (fun hlt => ?_)
            · have hin : i < n := by omega
              refine index_elem 4 rfl z2 i rfl (by omega) ?_
              refine load_one_elem 4 rfl i (by omega) (u := s.su i) rfl ?_
              refine len_fj 3 i rfl hin (z4 i hin) fun _ => ?_
              refine loop_rule (X := Nat) (fun c => ([(5, ptr0 s.r 0), (11, s.su i), (55, lt), (56, .int .i64 2), (57, .int .i64 (1 : Nat)), (61, s.vu), (62, .int .i64 (n : Nat)), (63, .int .i64 (i : Nat)), (67, s.su i), (68, .int .i64 (n : Nat)), (69, .int .i64 (c : Nat))],
                  bas s C n (nrmJ b n 0) (nrmJ u i c) d l [], [(lt, .sl 1 2 fun i => [Dat.one s.vb, Dat.one s.vu].getD i (.one undef))]))
                  (fun c => c ≤ n) (fun c => n - c) rfl ?_ ?_
              · exact again 0 (Nat.zero_le _) trivial qF (Seals.sub qS)
              rintro c hcm
              refine cmp_split _ rfl (fun hlt2 => ?_) (fun hlt2 => ?_)
              · have hcC : c < n := by omega
                have f1 := hu i c hin hcC
                refine index_fj 3 i rfl hin (z4 i hin) c rfl hcC ?_
                refine load_fj 3 i c rfl hin hcC (u i c) (by unfold nrmJ; rw [if_neg (by omega)]) fun y1 => ?_
                refine call_fn (znorm_meets y1 (u i c).1 (u i c).2 f1.2.1 (by omega)) (Seals.refl _ _) qS ?_
                rintro y2 _ _ ⟨rfl, rfl⟩
                refine index_fj 3 i rfl hin (z4 i hin) c rfl hcC ?_
                refine store_fj 3 i c rfl hin hcC (cn (jv (u i c))) (nrmJ u i (c + 1)) (Reads.fact (d := zd (jv (u i c))) qM) (fun a b' ha hb' => ?_) ?_
                · unfold nrmJ
                  by_cases e : a = i ∧ b' = c
                  · rw [if_pos e, if_pos (by omega), e.1, e.2]
                  · rw [if_neg e]
                    by_cases e2 : a < i ∨ (a = i ∧ b' < c)
                    · rw [if_pos e2, if_pos (by omega)]
                    · rw [if_neg e2, if_neg (by omega)]
                refine ar rfl qI ?_
                exact again (c + 1) (by omega) (by simp only; omega) qF (Seals.sub qS)
              · have hcC : c = n := by omega
                subst hcC
                refine ar rfl qI ?_
                refine again (i + 1) (by omega) (by simp only; omega) qF (Seals.trans (Seals.fjcong (vs := s.su) (vs' := s.su) (x := nrmJ u i c) (x' := nrmJ u (i + 1) 0) (os := [_, _, _, _, _, _, _, _]) 3 rfl (fun x => x) (fun x hx => ⟨hx, rfl, fun y hy => ?_⟩) (fun _ _ _ _ e => e)) (Seals.sub qS))
                unfold nrmJ
                by_cases e : x < i ∨ x = i
                · rw [if_pos (by omega), if_pos (by omega)]
                · rw [if_neg (by omega), if_neg (by omega)]
            · have hin : i = n := by omega
              subst hin
              refine ar rfl qI ?_
              exact again 2 (by omega) (by simp only; omega) qF (Seals.sub qS)
        · have ht2 : t = 2 := by omega
          subst ht2
          refine draw_rule [0, 1, 2, 3, 4, 5, 6, 7, 8, 9, 10, 11, 12] [0, 1, 2, 3, 4, 10, 5, 6, 7, 8, 9, 11, 12] (by kernel_rfl) (by kernel_rfl) ?_
          refine field_ptr ?_
          refine field_ptr ?_
          refine ld4b 0 rfl rfl ?_
          refine field_ptr ?_
          refine field_ptr ?_
          refine ld4u 0 rfl rfl ?_
          refine fin ⟨rfl, .inr (.inr ⟨hr, hI, s.vb, s.vu, s.sb, s.su, z1, z2, z3, z4, rfl, rfl⟩)⟩ ?_
          refine Seals.trans (Seals.drop 0 _ _) (Seals.trans (Seals.drop 4 _ _) (Seals.trans (Seals.drop 4 _ _) (Seals.trans (Seals.drop 4 _ _) ?_)))
          refine Seals.trans (Seals.fjcong (vs := s.sb) (vs' := s.sb) (x := nrmJ b n 0) (x' := fun i c => cn (R.1 i c)) (os := [_, _, _, _]) 0 rfl (fun x => x) (fun x hx => ⟨hx, rfl, fun y hy => ?_⟩) (fun _ _ _ _ e => e))
            (Seals.trans (Seals.fjcong (vs := s.su) (vs' := s.su) (x := nrmJ u n 0) (x' := fun i c => cn (R.2 i c)) (os := [_, _, _, _]) 2 rfl (fun x => x) (fun x hx => ⟨hx, rfl, fun y hy => ?_⟩) (fun _ _ _ _ e => e)) (Seals.nil _ _))
          · unfold nrmJ; rw [if_pos (.inl hx)]; exact (e1 x y hx hy).symm
          · unfold nrmJ; rw [if_pos (.inl hx)]; exact (e2 x y hx hy).symm
end Go.Proofs.YtjebljkoiaojaaaGreat
namespace Go.Proofs.YtjebljkoiaojaaaGreat
theorem dG_det (G : Mx) (n : Nat) : dG G n = det n G := by
  unfold dG
  rw [← det_rev n G]
  refine det_congr fun x y hx hy => ?_
  show G ((dn n).getD x 0) ((dn n).getD y 0) = G _ _
  rw [dn_get hx, dn_get hy]
section
variable {m n : Nat} {b : Mx}
theorem ip_zero {u : Nat → Int} : ∀ {m : Nat}, ip m u u = 0 → ∀ c, c < m → u c = 0
  | 0, _, c, hc => by omega
  | m + 1, h, c, hc => by
    have h1 : ip m u u + u m * u m = 0 := h
    have h2 := ip_nn m u
    have h3 := sq_nn (u m)
    by_cases e : c = m
    · have : u m * u m = 0 := by omega
      rw [e]; rcases Int.mul_eq_zero.1 this with h | h <;> exact h
    · exact ip_zero (m := m) (by omega) c (by omega)
theorem ind_of_vol (h : dm m b n ≠ 0) : Ind m n b := by
  have hne : ∀ t, t ≤ n → dG (gr m b) t ≠ 0 := by
    intro t
    induction t with
    | zero => intro _; rw [dG_zero]; decide
    | succ s ih =>
      intro hs h0
      have hs0 := ih (by omega)
      have hw : ip m (wv m b s) (wv m b s) = 0 := by rw [wv_wv, h0, Int.mul_zero]
      have hz := ip_zero hw
      refine h ?_
      unfold dm
      rw [dG_det]
      refine kernel_det (i := s) (by omega) (u := fun i => if i ≤ s then cf (gr m b) s (s - i) else 0) ?_ fun j hj => ?_
      · simp only [if_pos (Nat.le_refl s), Nat.sub_self]
        rw [cf_zero]; exact hs0
      · have h1 : ip m (wv m b s) (b j) = 0 := isum_zero fun c hc => by rw [hz c hc, Int.zero_mul]
        rw [ip_wv] at h1
        obtain ⟨e, he⟩ : ∃ e, n = (s + 1) + e := ⟨n - (s + 1), by omega⟩
        rw [he, isum_split, isum_zero (n := e) fun i hi => by simp only [if_neg (show ¬ s + 1 + i ≤ s by omega), Int.zero_mul], Int.add_zero, ← h1, ← isum_rev]
        refine isum_congr fun r hr => ?_
        simp only [show s + 1 - 1 - r ≤ s by omega, if_true]
        rw [show s - (s + 1 - 1 - r) = r by omega, show s + 1 - 1 - r = s - r by omega, Int.mul_comm]; rfl
  exact fun t ht => dG_pos (n := n) hne t ht
theorem vol_of_ind (h : Ind m n b) : dm m b n ≠ 0 := by have := h n (Nat.le_refl _); omega
end
end Go.Proofs.YtjebljkoiaojaaaGreat
namespace Go.Proofs.YtjebljkoiaojaaaGreat
section
variable {a b b' u : Mx} {m n D K k : Nat}
theorem redr_lb (hm : m < 18446744073709551616) (hk : k < n) : ∀ (j : Nat) {b u : Mx} {K : Nat}, j ≤ k → LB a m n D K b u → ∃ K', LB a m n D K' (redr m k j b u).1 (redr m k j b u).2
  | 0, _, _, K, _, h => ⟨K, h⟩
  | j + 1, _, _, _, hj, h => by
    rw [redr_succ]
    exact redr_lb hm hk j (by omega) (h.redq hk (by omega) (h.qz hm hk (by omega)))
theorem redr_rows : ∀ (j : Nat) (b u : Mx) (i c : Nat), i ≠ k → (redr m k j b u).1 i c = b i c
  | 0, _, _, _, _, _ => rfl
  | j + 1, b, u, i, c, h => by
    rw [redr_succ, redr_rows j _ _ i c h]
    unfold redq; rw [if_neg h]
theorem redr_LB (hm : m < 18446744073709551616) (hk : k < n) (hK : n * (D + 1) ≤ K) (h : LB a m n D K b u) : LB a m n D K (redr m k k b u).1 (redr m k k b u).2 := by
  obtain ⟨w, ws⟩ := redr_full (u := u) hk h.ind
  obtain ⟨K', h'⟩ := redr_lb hm hk k (Nat.le_refl _) h
  exact h.full hk hK w ws (fun i c hi => redr_rows k _ _ i c hi) h'.ua h'.un
theorem lrun_LB (hm : m < 18446744073709551616) (hK : n * (D + 1) ≤ K) : ∀ {f : Nat} {b u : Mx} {k : Nat} {R : Mx × Mx}, lrun m n f b u k = some R → 1 ≤ k → LB a m n D K b u → LB a m n D K R.1 R.2
  | 0, b, u, k, R, h, _, _ => by simp [lrun] at h
  | f + 1, b, u, k, R, h, hk, hb => by
    rw [lrun] at h
    split at h
    · obtain rfl : (b, u) = R := by simpa using h
      exact hb
    · rename_i hn
      have h1 := redr_LB hm (show k < n by omega) hK hb
      split at h
      · exact lrun_LB hm hK h (by omega) h1
      · rename_i hf
        exact lrun_LB hm hK h (by omega) (h1.swb hk (by omega) hf)
end
open Go.RowKit
theorem rv_vv (r : Row) : rv r = fun c => (vv r).getD c 0 := by
  funext c
  unfold rv
  by_cases h : c < r.length
  · exact (vv_get r c h).symm
  · rw [List.getD_eq_getElem?_getD, List.getD_eq_getElem?_getD, List.getElem?_eq_none (by omega), List.getElem?_eq_none (by rw [vv_len]; omega)]; rfl
theorem rvm_ww (m : List Row) : rvm m = mx (ww m) := by
  funext i c
  unfold rvm mx
  rw [rv_vv, ww_get]
theorem rvm_cn (M : List (List Int)) : rvm (M.map (·.map cn)) = mx M := by rw [rvm_ww, ww_cn]
noncomputable def lrr (m n : Nat) (B : Mx) : Mx × Mx := Classical.epsilon fun R => ∃ f, lrun m n f B one 1 = some R
theorem lrr_spec {m n : Nat} {B : Mx} (h : Ind m n B) : ∃ f, lrun m n f B one 1 = some (lrr m n B) := by
  have h1 : ∃ R, ∃ f, lrun m n f B one 1 = some R := by
    obtain ⟨f, R, h⟩ := lrun_total (m := m) (n := n) _ B one 1 (Nat.le_refl _) h (Nat.le_refl _)
    exact ⟨R, f, h⟩
  exact Classical.epsilon_spec h1
theorem lrr_eq {m n f : Nat} {B : Mx} {R : Mx × Mx} (hi : Ind m n B) (h : lrun m n f B one 1 = some R) : lrr m n B = R := by
  obtain ⟨g, hg⟩ := lrr_spec hi
  exact lrun_one hg h
theorem linD_dm (a : List Row) : linD a = dm (a.getD 0 []).length (rvm a) a.length := by unfold linD gmx dm; rw [dG_det]
theorem ind_iff (a : List Row) : Ind (a.getD 0 []).length a.length (rvm a) ↔ linD a ≠ 0 := by
  rw [linD_dm]
  exact ⟨vol_of_ind, ind_of_vol⟩
noncomputable def lrd (a : List Row) : Mx × Mx := lrr (a.getD 0 []).length a.length (rvm a)
noncomputable def lred (a : List Row) : List (List Int) × List (List Int) × Int :=
  if right a then (if linD a = 0 then ([], [], 8) else (matL a.length (a.getD 0 []).length (lrd a).1, matL a.length a.length (lrd a).2, 0)) else ([], [], 1)
theorem lReduceT (v : Value) (a : List Row) (k : Nat) (hf : Fits k a) (hk : k ≤ 1048576) (ln : a.length ≤ 1024) (lc : (a.getD 0 []).length ≤ 1048576) (hZ : lZ k a.length ≤ 268435456) :
    Meets Tryz.prog 30 [v] [(v, W a)] (fun r os fs => os = [] ∧ ∃ q w, r = .tuple #[q, w, .int .i64 (lred a).2.2] ∧ fs = [(q, wd (lred a).1), (w, wd (lred a).2.1)]) := by
  refine (lReduce_meets v a k (lrd a) hf hk ln lc hZ fun _ h => lrr_spec h).closed ?_
  rintro r os fs ⟨rfl, ⟨h, rfl, rfl⟩ | ⟨h, hi, rfl, rfl⟩ | ⟨h, hi, q, w, vs, ws, h1, h2, h3, h4, rfl, rfl⟩⟩
  · have e : lred a = ([], [], 1) := if_neg h
    exact ⟨_, _, ⟨rfl, _, _, by rw [e], rfl⟩, Seals.cons (by rw [e]; exact Knw.nil 1 _) (Seals.cons (by rw [e]; exact Knw.nil 1 _) (Seals.refl _ _))⟩
  · have e : lred a = ([], [], 8) := by unfold lred; rw [if_pos h, if_pos (Classical.byContradiction fun hne => hi ((ind_iff a).2 hne))]
    exact ⟨_, _, ⟨rfl, _, _, by rw [e], rfl⟩, Seals.cons (by rw [e]; exact Knw.nil 1 _) (Seals.cons (by rw [e]; exact Knw.nil 1 _) (Seals.refl _ _))⟩
  · have e : lred a = (matL a.length (a.getD 0 []).length (lrd a).1, matL a.length a.length (lrd a).2, 0) := by unfold lred; rw [if_pos h, if_neg ((ind_iff a).1 hi)]
    refine ⟨_, _, ⟨rfl, q, w, by rw [e], rfl⟩, ?_⟩
    rw [e]
    exact Seals.trans (Seals.made h1 h3) (Seals.trans (Seals.made h2 h4) (Seals.sub qS))
open Go.RowKit
def tG (M : List (List Int)) : Mx := gr (M.getD 0 []).length (mx M)
instance (M : List (List Int)) (v : List Int) : Decidable (tok M v) := inferInstanceAs (Decidable (_ ∧ _))
theorem gmx_cn (M : List (List Int)) : gmx (M.map (·.map cn)) = tG M := by
  unfold gmx tG
  rw [rvm_cn, get_cn, List.length_map]
theorem linD_cn (M : List (List Int)) : linD (M.map (·.map cn)) = det M.length (tG M) := by
  unfold linD
  rw [gmx_cn, List.length_map]
theorem lred_cn {M R1 R2 : List (List Int)} {f : Nat} (hr : right M) (hd : det M.length (tG M) ≠ 0) (h : (lrun (M.getD 0 []).length M.length f (mx M) one 1).map (fun R => (matL M.length (M.getD 0 []).length R.1, matL M.length M.length R.2)) = some (R1, R2)) :
    lred (M.map (·.map cn)) = (R1, R2, 0) := by
  have hC : ((M.map (·.map cn)).getD 0 []).length = (M.getD 0 []).length := by rw [get_cn, List.length_map]
  unfold lred
  rw [if_pos ((right_cn M).2 hr), linD_cn, if_neg hd]
  obtain ⟨R, e1, e2⟩ := Option.map_eq_some_iff.1 h
  have hi : Ind ((M.map (·.map cn)).getD 0 []).length (M.map (·.map cn)).length (rvm (M.map (·.map cn))) := (ind_iff _).2 (by rw [linD_cn]; exact hd)
  have e3 : lrd (M.map (·.map cn)) = R := by
    unfold lrd
    rw [rvm_cn, hC, List.length_map]
    rw [rvm_cn, hC, List.length_map] at hi
    exact lrr_eq hi e1
  rw [e3, hC, List.length_map]
  simp only [Prod.mk.injEq] at e2
  rw [e2.1, e2.2]
theorem exallT (v w : Value) (x y : List Int) (h : x = y) : Meets Tryz.prog 26 [v, w] [(v, vd x), (w, vd y)] (fun r os fs => os = [] ∧ fs = [] ∧ r = .bool true) := by
  have := exactAllW v w x y
  rw [decide_eq_true h] at this
  exact this
instance (m : Nat) (b : Mx) (k j : Nat) : Decidable (lsm m b k j) := inferInstanceAs (Decidable (_ ≤ _))
open Go.RowKit
noncomputable def M1 (a : List Row) : List (List Int) := matL a.length (a.getD 0 []).length (lrd a).1
noncomputable def M2 (a : List Row) : List (List Int) := matL a.length a.length (lrd a).2
theorem M1_at (a : List Row) {i c : Nat} (hi : i < a.length) (hc : c < (a.getD 0 []).length) : mx (M1 a) i c = (lrd a).1 i c := matL_at _ hi hc
structure Rdd (a : List Row) (k : Nat) : Prop where
  lb : LB (rvm a) (a.getD 0 []).length a.length (lD k a.length) (lK k a.length) (lrd a).1 (lrd a).2
  rd : Rdc (a.getD 0 []).length (lrd a).1 a.length
  dn : dm (a.getD 0 []).length (lrd a).1 a.length = dm (a.getD 0 []).length (rvm a) a.length
theorem rdd {a : List Row} {k : Nat} (hf : Fits k a) (hr : right a) (ln : a.length ≤ 1024) (lc : (a.getD 0 []).length ≤ 1048576) (hI : Ind (a.getD 0 []).length a.length (rvm a)) : Rdd a k := by
  obtain ⟨f, hf'⟩ := lrr_spec hI
  have hs := (Sv.start hf lc ln hI).lb
  have hn := hr.1
  obtain ⟨h1, h2, h3⟩ := lrun_red hf' (Nat.le_refl _) (by omega) hI fun i h1 h2 => by omega
  exact ⟨lrun_LB (by omega) (by unfold lK; omega) hf' (Nat.le_refl _) hs, h1, h3⟩
section
variable {a : List Row} {k : Nat}
theorem Rdd.len (_ : Rdd a k) : (M1 a).length = a.length := matL_len _ _ _
end
theorem lred_ok {a : List Row} (hr : right a) (hI : Ind (a.getD 0 []).length a.length (rvm a)) : lred a = (M1 a, M2 a, 0) := by
  unfold lred
  rw [if_pos hr, if_neg ((ind_iff a).1 hI)]; rfl
open Go.RowKit
structure Lil (P : List Int) (m t y : Int) (d n : Nat) : Prop where
  ok : planOk P m t y n
  dg : dg P = d + 1
  n1 : 1 ≤ n
  n2 : n ≤ 2
  dn : d * n ≤ 4
  d1 : 1 ≤ d
  P1 : szR 1 P
  Pl : P.length ≤ 4
  m1 : sz m 1
  t1 : sz t 1
  y1 : sz y 1
def lA (P : List Int) (m t y : Int) (d n : Nat) : List (List Int) := (shp d n).map fun s => rowV (shp d n) (lst1 t) (lst1 y) (matG P m n s)
section
variable {P : List Int} {m t y : Int} {d n : Nat}
theorem Lil.pos (h : Lil P m t y d n) : 1 ≤ m ∧ 0 ≤ t ∧ 0 ≤ y := h.ok.2
theorem Lil.len (h : Lil P m t y d n) : (shp d n).length ≤ 9 := by
  obtain ⟨h1, h2, h3, h4⟩ := And.intro h.n1 (And.intro h.n2 (And.intro h.dn h.d1))
  have hn : n = 1 ∨ n = 2 := by omega
  rcases hn with rfl | rfl
  · have hd : d = 1 ∨ d = 2 ∨ d = 3 ∨ d = 4 := by omega
    rcases hd with rfl | rfl | rfl | rfl <;> decide
  · have hd : d = 1 ∨ d = 2 := by omega
    rcases hd with rfl | rfl <;> decide
theorem lst1_pos {x : Int} (h : 0 ≤ x) : 1 ≤ lst1 x := by unfold lst1; split <;> omega
theorem Lil.sz (h : Lil P m t y d n) : SzOk P m d n (lst1 t) (lst1 y) :=
  ⟨h.dg, h.d1, h.pos.1, lst1_pos h.pos.2.1, lst1_pos h.pos.2.2, by have := h.len; omega⟩
theorem Lil.mat (h : Lil P m t y d n) : matR P m t y n = (lA P m t y d n, 0) := by
  unfold matR
  rw [if_pos h.ok, h.dg, Nat.add_sub_cancel, Int.toNat_natCast]; rfl
theorem lA_len (P : List Int) (m t y : Int) (d n : Nat) : (lA P m t y d n).length = (shp d n).length := List.length_map _
theorem lA_row {P : List Int} {m t y : Int} {d n i : Nat} (hi : i < (shp d n).length) : (lA P m t y d n).getD i [] = rowV (shp d n) (lst1 t) (lst1 y) (matG P m n ((shp d n).getD i (0, 0))) := by
  unfold lA
  simp [List.getD_eq_getElem?_getD, hi]
theorem rowV_len (s : List (Nat × Nat)) (T Y : Int) (G : List (List Int)) : (rowV s T Y G).length = s.length := List.length_map _
theorem lA_mx {P : List Int} {m t y : Int} {d n i c : Nat} (hi : i < (shp d n).length) (hc : c < (shp d n).length) : mx (lA P m t y d n) i c = amat P m d n (lst1 t) (lst1 y) i c := by
  unfold mx
  rw [lA_row hi]
  unfold rowV amat
  simp [List.getD_eq_getElem?_getD, hc]
theorem Lil.n0 (_ : Lil P m t y d n) : 0 < (shp d n).length := by have := shp_big d n; omega
theorem Lil.row0 (h : Lil P m t y d n) : ((lA P m t y d n).getD 0 []).length = (shp d n).length := by rw [lA_row h.n0, rowV_len]
theorem Lil.right (h : Lil P m t y d n) : right (lA P m t y d n) := by
  have h0 := h.n0
  refine ⟨by rw [lA_len]; exact h0, fun r hr => ?_⟩
  rw [h.row0]
  obtain ⟨s, _, rfl⟩ := List.mem_map.1 hr
  rw [rowV_len]; exact ⟨h0, rfl⟩
theorem Lil.ent (h : Lil P m t y d n) {s : Nat × Nat} (hs : s ∈ shp d n) (u v : Nat) : Go.Proofs.YtjebljkoiaojaaaGreat.sz (gv (matG P m n s) u v) 7 := by
  have h1 := h.sz.small hs
  have hd4 : d ≤ 4 := by
    have := Nat.mul_le_mul_left d h.n1
    have := h.dn
    omega
  have h2 : szR 1 (nrm P) := h.P1.nrm
  have hl : Lg (toW (gless (nrm P))) (gless (nrm P)) 1 5 := (glJ_lg h2 (Nat.le_refl _) (by have : (nrm P).length = d + 1 := h.dg; omega) (by decide)).toW
  have hn2 := h.n2
  have h3 : Go.Proofs.YtjebljkoiaojaaaGreat.sz (m ^ (n - s.2)) 3 := (sz_pow h.m1 (n - s.2)).mono (by omega)
  have h4 := gpw_lg hl (gone_lg (n := 24) h3 (show s.1 + 1 ≤ 24 by omega)) (by decide) s.2 (by have : s.2 * 5 ≤ 2 * 5 := Nat.mul_le_mul_right _ (by omega); omega)
  exact (h4.gv u v).mono (by have : s.2 * (1 + 1) ≤ 2 * (1 + 1) := Nat.mul_le_mul_right _ (by omega); omega)
theorem Lil.small (h : Lil P m t y d n) {s : Nat × Nat} (hs : s ∈ shp d n) : s.1 ≤ 4 ∧ s.2 ≤ 4 ∧ s.2 ≤ n := by
  have h1 := h.sz.small hs
  have h2 : d * (n - s.2) ≤ d * n := Nat.mul_le_mul_left _ (by omega)
  have := h.dn
  have := h.n2
  omega
theorem Lil.scl (h : Lil P m t y d n) {s : Nat × Nat} (hs : s ∈ shp d n) : Go.Proofs.YtjebljkoiaojaaaGreat.sz (sclV (lst1 t) (lst1 y) s) 10 :=
  (sclV_sz (lst1_sz h.t1 (Nat.le_refl _)) (lst1_sz h.y1 (Nat.le_refl _)) ⟨(h.small hs).1, (h.small hs).2.1⟩).mono (by decide)
theorem Lil.szM (h : Lil P m t y d n) : szM 17 (lA P m t y d n) := fun r hr x hx => by
  obtain ⟨s, hs, rfl⟩ := List.mem_map.1 hr
  obtain ⟨p, hp, rfl⟩ := List.mem_map.1 hx
  exact (h.ent hs p.1 p.2).mul (h.scl hp)
theorem Lil.fits (h : Lil P m t y d n) : Fits 17 ((lA P m t y d n).map (·.map cn)) := h.szM.fits
theorem map_right {M : List (List Int)} (h : Go.Proofs.YtjebljkoiaojaaaGreat.right M) : Go.Proofs.YtjebljkoiaojaaaGreat.right (M.map (·.map cn)) := by
  have h0 : ((M.map (·.map cn)).getD 0 []).length = (M.getD 0 []).length := by
    simp [List.getD_eq_getElem?_getD, h.1]
  refine ⟨by rw [List.length_map]; exact h.1, fun r hr => ?_⟩
  obtain ⟨l, hl, rfl⟩ := List.mem_map.1 hr
  rw [h0, List.length_map]
  exact h.2 l hl
theorem map_row0 {M : List (List Int)} (h : Go.Proofs.YtjebljkoiaojaaaGreat.right M) : ((M.map (·.map cn)).getD 0 []).length = (M.getD 0 []).length := by
  simp [List.getD_eq_getElem?_getD, h.1]
abbrev lW (P : List Int) (m t y : Int) (d n : Nat) : List Row := (lA P m t y d n).map (·.map cn)
theorem lW_len (P : List Int) (m t y : Int) (d n : Nat) : (lW P m t y d n).length = (shp d n).length := by rw [List.length_map, lA_len]
theorem Lil.wrow0 (h : Lil P m t y d n) : ((lW P m t y d n).getD 0 []).length = (shp d n).length := by rw [map_row0 h.right, h.row0]
theorem lW_rvm (P : List Int) (m t y : Int) (d n : Nat) : rvm (lW P m t y d n) = mx (lA P m t y d n) := rvm_cn _
theorem Lil.ind (h : Lil P m t y d n) : Ind ((lW P m t y d n).getD 0 []).length (lW P m t y d n).length (rvm (lW P m t y d n)) := by
  refine (ind_iff _).2 ?_
  unfold linD gmx
  rw [lW_len, h.wrow0, lW_rvm]
  have e : det (shp d n).length (gr (shp d n).length (mx (lA P m t y d n))) = det (shp d n).length (mm (shp d n).length (mx (lA P m t y d n)) (tp (mx (lA P m t y d n)))) := rfl
  rw [e, det_mul, det_tr, det_congr (B := amat P m d n (lst1 t) (lst1 y)) fun i j hi hj => lA_mx hi hj]
  exact Int.mul_ne_zero h.sz.det_ne h.sz.det_ne
noncomputable def lR (P : List Int) (m t y : Int) (d n : Nat) : List (List Int) := M1 (lW P m t y d n)
theorem Lil.red (h : Lil P m t y d n) : lred (lW P m t y d n) = (lR P m t y d n, M2 (lW P m t y d n), 0) := lred_ok (map_right h.right) h.ind
theorem Lil.rdd (h : Lil P m t y d n) : Rdd (lW P m t y d n) 17 := Go.Proofs.YtjebljkoiaojaaaGreat.rdd h.fits (map_right h.right) (by rw [lW_len]; have := h.len; omega) (by rw [h.wrow0]; have := h.len; omega) h.ind
theorem Lil.rlen (h : Lil P m t y d n) : (lR P m t y d n).length = (shp d n).length := by rw [lR, h.rdd.len, lW_len]
theorem Lil.rrow (h : Lil P m t y d n) {i : Nat} (hi : i < (shp d n).length) : ((lR P m t y d n).getD i []).length = (shp d n).length := by
  unfold lR M1
  rw [matL_row _ (by rw [lW_len]; exact hi), h.wrow0]; simp
theorem Lil.lb (h : Lil P m t y d n) : LB (mx (lA P m t y d n)) (shp d n).length (shp d n).length (lD 17 (shp d n).length) (lK 17 (shp d n).length) (lrd (lW P m t y d n)).1 (lrd (lW P m t y d n)).2 := by
  have := h.rdd.lb
  rw [h.wrow0, lW_len, lW_rvm] at this
  exact this
theorem Lil.rat (h : Lil P m t y d n) {i c : Nat} (hi : i < (shp d n).length) (hc : c < (shp d n).length) : ((lR P m t y d n).getD i []).getD c 0 = (lrd (lW P m t y d n)).1 i c :=
  M1_at (lW P m t y d n) (by rw [lW_len]; exact hi) (by rw [h.wrow0]; exact hc)
theorem lK_le {N : Nat} (h : N ≤ 9) : lK 17 N ≤ 4000 ∧ lZ 17 N ≤ 268435456 := by
  have hN : N = 0 ∨ N = 1 ∨ N = 2 ∨ N = 3 ∨ N = 4 ∨ N = 5 ∨ N = 6 ∨ N = 7 ∨ N = 8 ∨ N = 9 := by omega
  rcases hN with rfl | rfl | rfl | rfl | rfl | rfl | rfl | rfl | rfl | rfl <;> decide
theorem Lil.rsz (h : Lil P m t y d n) {i : Nat} (hi : i < (shp d n).length) : szR 4000 ((lR P m t y d n).getD i []) := fun x hx => by
  obtain ⟨c, hc, rfl⟩ := mem_getD 0 hx
  have hc' : c < (shp d n).length := by rw [← h.rrow hi]; exact hc
  rw [h.rat hi hc']
  exact (h.lb.bz i c hi hc').mono (lK_le h.len).1
theorem Lil.hm (h : Lil P m t y d n) : Go.Proofs.YtjebljkoiaojaaaGreat.sz (m ^ n) 3 := (sz_pow h.m1 n).mono (by have := h.n2; omega)
noncomputable def lF (P : List Int) (m t y : Int) (d n : Nat) : List Int × Bool := foundR (shp d n) (lst1 t) (lst1 y) (m ^ n) (lR P m t y d n)
theorem two_rows (h : Lil P m t y d n) : 2 ≤ (shp d n).length := by
  have := shp_big d n
  have h1 := Nat.mul_le_mul h.d1 h.n1
  omega
theorem Lil.gsz (h : Lil P m t y d n) {i : Nat} (hi : i < (shp d n).length) (hs : asum ((lR P m t y d n).getD i []) < m ^ n) :
    supp d (d * n) (gridV (shp d n) (lst1 t) (lst1 y) ((lR P m t y d n).getD i [])) ∧ ∀ u v, (gv (gridV (shp d n) (lst1 t) (lst1 y) ((lR P m t y d n).getD i [])) u v).natAbs ≤ (m ^ n).natAbs := by
  have hb : ∀ p, p ∈ shp d n → p.1 ≤ 100 ∧ p.2 ≤ 100 := fun p hp => by have := h.small hp; omega
  constructor
  · intro u v hne
    rw [gridV_gv hb] at hne
    rcases gFs_get (s := shp d n) (T := lst1 t) (Y := lst1 y) (R := (lR P m t y d n).getD i []) (u := u) (v := v) (shp d n).length with ⟨j, hj, _, e⟩ | e
    · have hm : (u, v) ∈ shp d n := by rw [← e]; exact getD_mem (0, 0) hj
      have h1 := shp_mem.1 hm
      have h2 : d * (n - v) + d * v = d * n := by rw [← Nat.mul_add]; congr 1; omega
      omega
    · exact absurd e hne
  · intro u v
    rw [gridV_gv hb]
    rcases gFs_get (s := shp d n) (T := lst1 t) (Y := lst1 y) (R := (lR P m t y d n).getD i []) (u := u) (v := v) (shp d n).length with ⟨j, hj, e, _⟩ | e
    · rw [e]
      have h1 := Int.natAbs_ediv_le_natAbs (((lR P m t y d n).getD i []).getD j 0) (sclV (lst1 t) (lst1 y) (u, v))
      have h2 := asum_mem (getD_mem 0 (l := (lR P m t y d n).getD i []) (i := j) (by rw [h.rrow hi]; exact hj))
      omega
    · rw [e]; simp
theorem Lil.fsz (h : Lil P m t y d n) (hf : (lF P m t y d n).2 = true) : szR 9 (lF P m t y d n).1 ∧ (lF P m t y d n).1.length ≤ 9 ∧ 0 < Go.Proofs.YtjebljkoiaojaaaGreat.dg (lF P m t y d n).1 ∧ asum ((lR P m t y d n).getD 0 []) < m ^ n ∧ asum ((lR P m t y d n).getD 1 []) < m ^ n ∧
    (lF P m t y d n).1 = gel (gridV (shp d n) (lst1 t) (lst1 y) ((lR P m t y d n).getD 0 [])) (gridV (shp d n) (lst1 t) (lst1 y) ((lR P m t y d n).getD 1 [])) := by
  have h2 := two_rows h
  by_cases hs : asum ((lR P m t y d n).getD 0 []) < m ^ n ∧ asum ((lR P m t y d n).getD 1 []) < m ^ n
  · have e : lF P m t y d n = _ := if_pos hs
    obtain ⟨g1, g2⟩ := h.gsz (i := 0) (by omega) hs.1
    obtain ⟨g3, g4⟩ := h.gsz (i := 1) (by omega) hs.2
    rw [e] at hf ⊢
    dsimp only at hf ⊢
    have hl9 := gel_len9 g1 g3 h.d1 h.n2 h.dn
    generalize hGE : gel (gridV (shp d n) (lst1 t) (lst1 y) ((lR P m t y d n).getD 0 [])) (gridV (shp d n) (lst1 t) (lst1 y) ((lR P m t y d n).getD 1 [])) = E at *
    refine ⟨?_, hl9, of_decide_eq_true hf, hs.1, hs.2, rfl⟩
    rw [← hGE]
    clear hl9 hf e
    clear hGE
    clear E
    have h3 := sz_pow h.m1 n
    refine gel_sz9 g1 g3 h.d1 h.n2 h.dn (M := (m ^ n).natAbs) ?_ g2 g4
    have h4 : (m.natAbs) < 18446744073709551616 := by have := h.m1; unfold Go.Proofs.YtjebljkoiaojaaaGreat.sz at this; omega
    have h5 := h.n1
    have h6 := h.n2
    rw [Int.natAbs_pow]
    have hn : n = 1 ∨ n = 2 := by omega
    rcases hn with rfl | rfl
    · rw [Nat.pow_one]; exact Nat.lt_of_lt_of_le h4 (Nat.le_of_ble_eq_true rfl)
    · exact Nat.pow_lt_pow_left h4 (by decide)
  · have e : lF P m t y d n = ([], false) := by
      unfold lF foundR
      rw [if_neg hs]
    rw [e] at hf; simp at hf
end
open Go.RowKit
structure SolveOk (P : List Int) (m t y : Int) (d n : Nat) (L : List Int) (dec : Bool) : Prop where
  und : (lF P m t y d n).2 = false → L = [] ∧ dec = false
  ok : (lF P m t y d n).2 = true → dec = true ∧ ∃ O e, FlSpec (lF P m t y d n).1 (-t) t O e ∧ L = (inRt (lF P m t y d n).1 O).filter fun x => near (pev P x) m y
theorem ch9 : Ch0 9 9 2 := ⟨by decide, by decide, by decide, by decide, by decide, by decide⟩
theorem filter_succ {f : Int → Bool} {L : List Int} {i : Nat} (h : i < L.length) : (L.take (i + 1)).filter f = if f (L.getD i 0) = true then (L.take i).filter f ++ [L.getD i 0] else (L.take i).filter f := by
  rw [List.take_add_one, List.getElem?_eq_getElem h, List.filter_append, List.getD_eq_getElem?_getD, List.getElem?_eq_getElem h]
  simp only [Option.toList, Option.getD_some, List.filter_cons, List.filter_nil]
  split <;> simp
set_option maxHeartbeats 4000000 in
theorem slzSolve_ok (v w u z : Value) (p : Row) (m t y : Bool × List Nat) (d n : Nat) (hp : Fit 1 p) (hm : Lim m.2) (hma : m.2.length ≤ 1) (ht : Lim t.2) (hta : t.2.length ≤ 1) (hy : Lim y.2) (hya : y.2.length ≤ 1)
    (h : Lil (vv p) (jv m) (jv t) (jv y) d n) :
    Meets Tryz.prog 28 [v, w, u, z, .int .i64 (n : Int)] [(v, V p), (w, J m), (u, J t), (z, J y)] (fun r os fs => os = [] ∧ ∃ q L dec, r = .tuple #[q, .bool dec, .int .i64 0] ∧ SolveOk (vv p) (jv m) (jv t) (jv y) d n L dec ∧ fs = [(q, vd L)]) := by
  have lp : p.length ≤ 4 := by have := h.Pl; rwa [vv_len] at this
  have hn2 := h.n2
  have hin : inK .i64 (n : Int) := by simp only [inK]; omega
  have hpl := fun y1 y2 y3 => slzplanned_meets v y1 y2 y3 p m t y n 1 1 hp (by omega) (by decide) hm hma ht hta hy hya (by decide) hin
  rw [show planR (vv p) (jv m) (jv t) (jv y) n = (planD (shp (dg (vv p) - 1) (n : Int).toNat) (lst1 (jv t)) (lst1 (jv y)) (jv m ^ (n : Int).toNat), 0) from if_pos h.ok, h.dg, Nat.add_sub_cancel, Int.toNat_natCast] at hpl
  have hmx := fun y1 y2 y3 => slzMatrix_meets v y1 y2 y3 p m t y n 1 1 hp (by omega) (by decide) (by decide) hm hma ht hta hy hya (by decide) (by decide) hin
  rw [h.mat] at hmx
  have h9 := h.len
  have hrd : ∀ y1, Meets Tryz.prog 30 [y1] [(y1, wd (lA (vv p) (jv m) (jv t) (jv y) d n))] (fun r os fs => os = [] ∧ ∃ q w, r = .tuple #[q, w, .int .i64 0] ∧ fs = [(q, wd (lR (vv p) (jv m) (jv t) (jv y) d n)), (w, wd (M2 (lW (vv p) (jv m) (jv t) (jv y) d n)))]) := fun y1 => by
    have := lReduceT y1 (lW (vv p) (jv m) (jv t) (jv y) d n) 17 h.fits (by decide) (by rw [lW_len]; omega) (by rw [h.wrow0]; omega) (by rw [lW_len]; exact (lK_le h9).2)
    rw [h.red] at this
    exact this
  have h22 := two_rows h
  have hfd := fun y1 y2 => slzfound_meets y1 y2 (shp d n) (lst1 (jv t)) (lst1 (jv y)) (jv m ^ n) (lR (vv p) (jv m) (jv t) (jv y) d n) 4000 10 3 (fun p hp => by have := h.small hp; omega) (by omega) (by rw [h.rlen]; omega) (fun i hi => ⟨h.rrow (by omega), h.rsz (by omega)⟩) (by decide)
    (fun s hs => ⟨h.scl hs, sclV_ne (lst1_ne _) (lst1_ne _) s⟩) (by decide) h.hm (by decide)
  have hfz := h.fsz
  have hlF : foundR (shp d n) (lst1 (jv t)) (lst1 (jv y)) (jv m ^ n) (lR (vv p) (jv m) (jv t) (jv y) d n) = lF (vv p) (jv m) (jv t) (jv y) d n := rfl
  rw [hlF] at hfd
  have hS : ∀ L dec, ((lF (vv p) (jv m) (jv t) (jv y) d n).2 = false → L = [] ∧ dec = false) → ((lF (vv p) (jv m) (jv t) (jv y) d n).2 = true → dec = true ∧ ∃ O e, FlSpec (lF (vv p) (jv m) (jv t) (jv y) d n).1 (-jv t) (jv t) O e ∧ L = (inRt (lF (vv p) (jv m) (jv t) (jv y) d n).1 O).filter fun x => near (pev (vv p) x) (jv m) (jv y)) → SolveOk (vv p) (jv m) (jv t) (jv y) d n L dec := fun L dec a b => ⟨a, b⟩
  have hm0 := h.pos.1
  have hP := h.P1
  have zt := h.t1
  clear h
  generalize lF (vv p) (jv m) (jv t) (jv y) d n = F at *
  generalize lR (vv p) (jv m) (jv t) (jv y) d n = R at *
  generalize lA (vv p) (jv m) (jv t) (jv y) d n = A at *
  generalize M2 _ = U at *
  generalize hSS : shp d n = S at *
  generalize jv m ^ n = M at *
  generalize lst1 (jv t) = T at *
  generalize lst1 (jv y) = Y at *
  obtain ⟨f, b⟩ := F
  simp only at hfd hfz hS
  refine meets_of_vc Tryz.func28 (by kernel_rfl) rfl (by kernel_rfl) (Nat.le_of_ble_eq_true rfl) ?_
  refine box_rule (Reads.fact (d := J m) qM) fun b1 h1 => ?_
  refine box_rule (Reads.fact (d := J t) qM) fun b2 h2 => ?_
  refine box_rule (Reads.fact (d := J y) qM) fun b3 h3 => ?_
  refine load_box (d := J m) 2 rfl h1 rfl (load_J _) fun y1 => ?_
  refine load_box (d := J t) 1 rfl h2 rfl (load_J _) fun y2 => ?_
  refine load_box (d := J y) 0 rfl h3 rfl (load_J _) fun y3 => ?_
  refine call_fn (hpl y1 y2 y3) (Seals.refl _ _) qS ?_
  rintro _ _ _ ⟨rfl, q, rfl, rfl⟩
  refine alloc_rule (d := planZD) fun bp hbp => ?_
  refine store_box (d := planD S T Y M) 0 rfl hbp rfl (by kernel_rfl) (Reads.fact qM) ?_
  refine cmp_false rfl (fun h => h rfl) ?_
  refine load_box (d := J m) 3 rfl h1 rfl (load_J _) fun y4 => ?_
  refine load_box (d := J t) 2 rfl h2 rfl (load_J _) fun y5 => ?_
  refine load_box (d := J y) 1 rfl h3 rfl (load_J _) fun y6 => ?_
  refine call_fn (hmx y4 y5 y6) (Seals.refl _ _) qS ?_
  rintro _ _ _ ⟨rfl, q2, rfl, rfl⟩
  refine call_fn (hrd q2) (Seals.refl _ _) qS ?_
  rintro _ _ _ ⟨rfl, q3, q4, rfl, rfl⟩
  refine load_box (d := planD S T Y M) 0 rfl hbp rfl (load_plan _ _ _ _) fun y7 => ?_
  refine call_fn (hfd y7 q3) (Seals.refl _ _) qS ?_
  rintro _ _ _ ⟨rfl, q5, rfl, rfl⟩
  cases b with
  | false =>
    exact fin ⟨rfl, .slice none 0 0, [], false, rfl, hS _ _ (fun _ => ⟨rfl, rfl⟩) (fun h => by simp at h), rfl⟩ (Seals.trans (Seals.drop 0 _ _) (Seals.trans (Seals.drop 0 _ _) (Seals.trans (Seals.drop 0 _ _) (Seals.trans (Seals.drop 0 _ _) (Seals.cons (Knw.nil 2 _) (Seals.nil _ _))))))
  | true =>
    obtain ⟨sf, lf, df, _, _, _⟩ := hfz rfl
    have hch : ChOk (vv (f.map cn)) 9 9 (1 + 1) := ch9.of sf.fit (by rw [List.length_map]; exact lf)
    have hIn := fun y1 y2 => in_meets q5 y1 y2 (f.map cn) (cn (-jv t)) t 9 9 1 sf.fit (by rw [List.length_map]; exact lf) (Lim_lims _) zt.neg.len ht hta (by decide) (by decide) hch
    simp only [vv_cn, jv_cn] at hIn
    have hng := fun y1 => zneg_meets y1 t.1 t.2 ht (by omega)
    have hit : iv t.1 t.2 = jv t := rfl
    rw [hit] at hng
    refine draw_rule [0, 1, 3, 2, 4, 5, 6, 7, 8, 9] [0, 1, 2, 3, 4, 5, 6, 8, 7, 9] (by kernel_rfl) (by kernel_rfl) ?_
    refine load_box (d := J t) 2 rfl h2 rfl (load_J _) fun y8 => ?_
    refine load_box (d := J t) 2 rfl h2 rfl (load_J _) fun y9 => ?_
    refine call_fn (hng y8) (Seals.refl _ _) qS ?_
    rintro y10 _ _ ⟨rfl, rfl⟩
    refine call_fn (hIn y10 y9) (Seals.refl _ _) qS ?_
    rintro _ _ _ ⟨rfl, q6, O, e, rfl, hO, rfl⟩
    have hmem : ∀ x, x ∈ inRt f O → sz x 1 := fun x hx => by
      have h1 := (List.mem_filter.1 hx).1
      have h2 := hO.mem x h1
      exact sz_btw zt.neg zt h2.1 h2.2
    have hfew : (inRt f O).length ≤ 1048578 := Nat.le_trans (List.length_filter_le _ _) hO.few
    have hRes := hS ((inRt f O).filter fun x => near (pev (vv p) x) (jv m) (jv y)) true (fun h => by simp at h) fun _ => ⟨rfl, O, e, hO, rfl⟩
    clear hS hO hIn hch hng hfd hrd hmx hpl hfz
    generalize inRt f O = Is at *
    refine len_fact (v := q6) (n := (Is.map cn).length) qM fun _ => ?_
    refine loop_rule (X := Nat × Value) (fun x => ([(0, v), (6, b1), (8, b3), (24, x.2), (70, q6), (71, .int .i64 ((Is.map cn).length : Nat)), (72, .int .i64 (x.1 : Nat))],
        [ownL 2 J z0 x.2 (((Is.take x.1).filter fun x => near (pev (vv p) x) (jv m) (jv y)).map cn), own1 b3 2 1 (fun _ => J y), own1 b1 2 1 (fun _ => J m)], [(q6, vd Is), (v, V p)]))
      (fun x => x.1 ≤ (Is.map cn).length ∧ isSl x.2) (fun x => (Is.map cn).length - x.1) rfl ?_ ?_
    · refine again (0, .slice none 0 0) ⟨Nat.zero_le _, isSl_nil⟩ trivial qF ?_
      exact Seals.trans (Seals.drop 0 _ _) (Seals.trans (Seals.drop 1 _ _) (Seals.trans (Seals.own_nil _ _ 2 fun i => J (([] : Row).getD i z0)) (Seals.sub qS)))
    rintro ⟨i, ov⟩ ⟨hi, hov⟩
    simp only [List.length_map] at hi ⊢
    simp only at hov ⊢
    have hli : (((Is.take i).filter fun x => near (pev (vv p) x) (jv m) (jv y)).map cn).length ≤ 1048578 := by
      rw [List.length_map]
      refine Nat.le_trans (List.length_filter_le _ _) ?_
      rw [List.length_take]; omega
    refine cmp_split _ rfl (fun hlt => ?_) (fun hlt => ?_)
    · have hiI : i < Is.length := by omega
      have hfs := filter_succ (f := fun x => near (pev (vv p) x) (jv m) (jv y)) hiI
      have hcg := map_cn_get hiI
      have zx := hmem _ (getD_mem 0 hiI)
      refine index_fact (v := q6) qM i rfl (by rw [List.length_map]; exact hiI) fun a1 => ?_
      refine load_fact (d := J ((Is.map cn).getD i z0)) qM (load_J _) fun y11 => ?_
      rw [hcg]
      generalize Is.getD i 0 = X at *
      have hv := fun z => pValueJ v z p (cn X) 1 1 hp (Lim_lims _) zx.len (by omega) (by omega)
      rw [jv_cn] at hv
      have zv : sz (pev (vv p) X) 1073741824 := (ev_sz hP zx).mono (by rw [vv_len]; omega)
      have hw := fun y1 y2 y3 => slzwithin_meets y1 y2 y3 (pev (vv p) X) m y _ zv (by decide) hm (by omega) hy (by omega) (by omega)
      generalize pev (vv p) X = Z at *
      refine alloc_rule (d := I false []) fun bx hbx => ?_
      refine store_box (d := zd X) 0 rfl hbx rfl (by kernel_rfl) (Reads.fact (v := y11) (d := zd X) qM) ?_
      refine draw_rule [0, 1, 3, 4, 2, 5] [0, 1, 2, 3, 4, 5] (by kernel_rfl) (by kernel_rfl) ?_
      refine load_box (d := zd X) 0 rfl hbx rfl (load_I _ _) fun y12 => ?_
      refine load_box (d := J m) 3 rfl h1 rfl (load_J _) fun y13 => ?_
      refine load_box (d := J y) 2 rfl h3 rfl (load_J _) fun y14 => ?_
      refine call_fn (hv y12) (Seals.refl _ _) qS ?_
      rintro y15 _ _ ⟨rfl, rfl⟩
      refine call_fn (hw y15 y13 y14) (Seals.refl _ _) qS ?_
      rintro _ _ _ ⟨rfl, rfl, rfl⟩
      cases hne : near Z (jv m) (jv y) with
      | true =>
        rw [if_pos hne] at hfs
        refine load_box (d := zd X) 0 rfl hbx rfl (load_I _ _) fun y16 => ?_
        refine lit_L (size := 2) J z0 (cn X) (by decide) (Reads.fact (v := y16) (d := zd X) qM) rfl fun l1 => ?_
        refine append_L 1 rfl hov (Knw.fact qM) (by simp only [List.length_cons, List.length_nil]; omega) (by simp only [List.length_cons, List.length_nil]; omega) fun o2 ho2 => ?_
        refine ar rfl qI ?_
        refine again (i + 1, o2) ⟨by simp only [List.length_map]; omega, ho2⟩ (by simp only; omega) qF ?_
        simp only [hfs, List.map_append, List.map_cons, List.map_nil]
        exact Seals.trans (Seals.drop 0 _ _) (Seals.sub qS)
      | false =>
        rw [if_neg (by rw [hne]; simp)] at hfs
        refine ar rfl qI ?_
        refine again (i + 1, ov) ⟨by simp only [List.length_map]; omega, hov⟩ (by simp only; omega) qF ?_
        simp only [hfs]
        exact Seals.trans (Seals.drop 0 _ _) (Seals.sub qS)
    · have hiI : i = Is.length := by omega
      subst hiI
      rw [List.take_length]
      exact fin ⟨rfl, ov, _, true, rfl, hRes, rfl⟩ (Seals.trans (Seals.toldL hov) (Seals.trans (Seals.drop 0 _ _) (Seals.trans (Seals.drop 0 _ _) (Seals.sub qS))))
open Go.RowKit
open Go.RowKit
open Go.RowKit
open Go.RowKit
open Go.RowKit
open Go.RowKit
open Go.RowKit
theorem sngJ_lg {c : Int} {i j k n : Nat} (hc : sz c k) (hi : i < n) (hj : j < n) : Lg (sngJ (cn c) i j) (ww (sngJ (cn c) i j)) k n :=
  ⟨rfl, by simp [sngJ]; omega, fun r hr => by
    unfold sngJ at hr
    rcases List.mem_append.1 hr with hr | hr
    · rw [(List.mem_replicate.1 hr).2]; exact ⟨Nat.zero_le _, fun x hx => by simp at hx⟩
    · rw [List.mem_singleton.1 hr]
      refine ⟨by simp; omega, fun x hx => ?_⟩
      rcases List.mem_append.1 hx with hx | hx
      · rw [(List.mem_replicate.1 hx).2]; exact ⟨z0_lim, Nat.zero_le _⟩
      · rw [List.mem_singleton.1 hx]; exact ⟨Lim_lims _, hc.len⟩⟩
theorem sngJ_lgJ {c : Bool × List Nat} {i j k n : Nat} (hc : Lim c.2 ∧ c.2.length ≤ k) (hi : i < n) (hj : j < n) : Lg (sngJ c i j) (ww (sngJ c i j)) k n :=
  ⟨rfl, by simp [sngJ]; omega, fun r hr => by
    unfold sngJ at hr
    rcases List.mem_append.1 hr with hr | hr
    · rw [(List.mem_replicate.1 hr).2]; exact ⟨Nat.zero_le _, fun x hx => by simp at hx⟩
    · rw [List.mem_singleton.1 hr]
      refine ⟨by simp; omega, fun x hx => ?_⟩
      rcases List.mem_append.1 hx with hx | hx
      · rw [(List.mem_replicate.1 hx).2]; exact ⟨z0_lim, Nat.zero_le _⟩
      · rw [List.mem_singleton.1 hx]; exact hc⟩
theorem gev_sng (c : Bool × List Nat) (i j : Nat) (x y : Int) : gev (ww (sngJ c i j)) x y = jv c * (x ^ i * y ^ j) := by
  rw [gev_map]
  have e : (ww (sngJ c i j)).map (fun r => pev r y) = List.replicate i 0 ++ [jv c * y ^ j] := by
    unfold ww sngJ
    rw [List.map_append, List.map_append, List.map_replicate, List.map_replicate]
    congr 1
    have e2 : vv (List.replicate j z0 ++ [c]) = List.replicate j 0 ++ [jv c] := by
      unfold vv
      rw [List.map_append, List.map_replicate, jv_z0]; rfl
    simp only [List.map_cons, List.map_nil, e2]
    rw [ev_repl]
    simp [pev]; grind
  rw [e, ev_repl]
  simp [pev]; grind
theorem sngJ_gone (c : Int) (i : Nat) : sngJ (cn c) i 0 = toW (gone c i) := by
  show _ = (List.replicate i ([] : List Int) ++ [[c]]).map (fun l => l.map cn)
  unfold sngJ
  rw [List.map_append, List.map_replicate]; rfl
def lesR (p : Row) : Nat → List (List Int)
  | 0 => ww (sngJ (cn (-1)) 0 1)
  | i + 1 => gadd (lesR p i) (ww (sngJ (p.getD i z0) i 0))
theorem ev_app1 (l : List Int) (a x : Int) : pev (l ++ [a]) x = pev l x + x ^ l.length * a := by
  induction l with
  | nil => simp [pev]
  | cons c l ih =>
    rw [List.cons_append, pev, pev, ih, List.length_cons, Int.pow_succ]; grind
theorem lesR_ev (p : Row) (x y : Int) : ∀ i, i ≤ p.length → gev (lesR p i) x y = pev ((vv p).take i) x - y
  | 0, _ => by rw [lesR, gev_sng, jv_cn, Int.pow_one]; simp [pev]
  | i + 1, h => by
    rw [lesR, gev_gadd, gev_sng, lesR_ev p x y i (by omega)]
    have hi : i < (vv p).length := by rw [vv_len]; omega
    rw [List.take_add_one, List.getElem?_eq_getElem hi]
    have e : pev ((vv p).take i ++ [(vv p)[i]]) x = pev ((vv p).take i) x + x ^ i * (vv p)[i] := by
      rw [ev_app1, List.length_take, Nat.min_eq_left (by omega)]
    show _ = pev ((vv p).take i ++ [(vv p)[i]]) x - y
    rw [e]
    have e3 : (vv p)[i] = jv (p.getD i z0) := by
      rw [← vv_get p i (by omega), List.getD_eq_getElem?_getD, List.getElem?_eq_getElem hi]; rfl
    rw [e3]; grind
def lesA (p : Row) : Nat → List Row
  | 0 => sngJ (cn (-1)) 0 1
  | i + 1 => toW (lesR p (i + 1))
theorem lesA_lg {p : Row} {k n : Nat} (hp : Fit k p) (h1 : 1 ≤ k) (hn : p.length + 2 ≤ n) : ∀ i, i ≤ p.length → Lg (lesA p i) (lesR p i) (k + i) n
  | 0, _ => sngJ_lg ((sz_one (-1) (by decide)).mono h1) (by omega) (by omega)
  | i + 1, h => by
    have h1' := lesA_lg hp h1 hn i (by omega)
    have h2 : Lg (sngJ (p.getD i z0) i 0) (ww (sngJ (p.getD i z0) i 0)) (k + i) n := sngJ_lgJ ⟨(hp.get i).1, Nat.le_trans (hp.get i).2 (by omega)⟩ (by omega) (by omega)
    exact h1'.add h2
theorem gmu_same {G H H' : List (List Int)} (h : ∀ x y, gev H x y = gev H' x y) : gmu G H = gmu G H' := (gmu_gn _ _).ev_ext (gmu_gn _ _) fun x y => by rw [gev_gmu, gev_gmu, h]
set_option maxHeartbeats 4000000 in
theorem rMatrix17_meets (v w u z : Value) (p : Row) (m t y : Bool × List Nat) (n : Int) (k a : Nat) (hp : Fit k p) (lp : p.length ≤ 40) (h1k : 1 ≤ k) (hk : k ≤ 10000) (hm : Lim m.2) (hma : m.2.length ≤ a) (ht : Lim t.2) (hta : t.2.length ≤ a) (hy : Lim y.2) (hya : y.2.length ≤ a) (h1a : 1 ≤ a) (ha : a ≤ 10000) (hn : inK .i64 n) (hn3 : n ≤ 3) :
    Meets Tryz.prog 18 [v, w, u, z, .int .i64 n] [(v, V p), (w, J m), (u, J t), (z, J y)] (fun r os fs => os = [] ∧ ∃ q, r = .tuple #[q, .int .i64 (matR (vv p) (jv m) (jv t) (jv y) n).2] ∧ fs = [(q, wd (matR (vv p) (jv m) (jv t) (jv y) n).1)]) := by
  have hsm : ∀ z, Meets Tryz.prog 44 [z] [(z, J m)] (fun r os fs => os = [] ∧ fs = [] ∧ r = .int .i64 (jv m).sign) := fun z => rSign_meets z m.1 m.2 hm (by omega)
  have hst : ∀ z, Meets Tryz.prog 44 [z] [(z, J t)] (fun r os fs => os = [] ∧ fs = [] ∧ r = .int .i64 (jv t).sign) := fun z => rSign_meets z t.1 t.2 ht (by omega)
  have hsy : ∀ z, Meets Tryz.prog 44 [z] [(z, J y)] (fun r os fs => os = [] ∧ fs = [] ∧ r = .int .i64 (jv y).sign) := fun z => rSign_meets z y.1 y.2 hy (by omega)
  have hdl : dg (vv p) ≤ 40 := by have := dg_le_len (vv p); rw [vv_len] at this; omega
  have hdd := rDegreeN v p (hp.mono (by omega))
  have hshp := rShape_meets ((dg (vv p) : Nat) - 1 : Int) n (by simp only [inK]; omega) hn
  by_cases hok : planOk (vv p) (jv m) (jv t) (jv y) n
  case neg =>
    refine meets_of_vc Tryz.func18 (by kernel_rfl) rfl (by kernel_rfl) (Nat.le_of_ble_eq_true rfl) ?_
    refine box_rule (Reads.fact (d := J m) qM) fun b1 h1 => ?_
    refine box_rule (Reads.fact (d := J t) qM) fun b2 h2 => ?_
    refine box_rule (Reads.fact (d := J y) qM) fun b3 h3 => ?_
    refine call_fn hdd (Seals.refl _ _) qS ?_
    rintro _ _ _ ⟨rfl, rfl, rfl⟩
    refine call_fn hshp (Seals.refl _ _) qS ?_
    rintro _ _ _ ⟨rfl, q, rfl, rfl⟩
    refine cmp_split _ rfl (fun g1 => ?_) (fun g1 => ?_)
    ·
      rw [show matR (vv p) (jv m) (jv t) (jv y) n = ([], 1) from if_neg hok]
      exact fin ⟨rfl, .slice none 0 0, rfl, rfl⟩ (Seals.trans (Seals.drop 0 _ _) (Seals.trans (Seals.drop 0 _ _) (Seals.trans (Seals.drop 0 _ _) (Seals.cons (Knw.nil 1 _) (Seals.nil _ _)))))
    refine load_box (d := J m) 2 rfl h1 rfl (load_J _) fun y1 => ?_
    refine call_fn (hsm y1) (Seals.refl _ _) qS ?_
    rintro _ _ _ ⟨rfl, rfl, rfl⟩
    refine cmp_split _ rfl (fun g2 => ?_) (fun g2 => ?_)
    ·
      rw [show matR (vv p) (jv m) (jv t) (jv y) n = ([], 1) from if_neg hok]
      exact fin ⟨rfl, .slice none 0 0, rfl, rfl⟩ (Seals.trans (Seals.drop 0 _ _) (Seals.trans (Seals.drop 0 _ _) (Seals.trans (Seals.drop 0 _ _) (Seals.cons (Knw.nil 1 _) (Seals.nil _ _)))))
    refine load_box (d := J t) 1 rfl h2 rfl (load_J _) fun y2 => ?_
    refine call_fn (hst y2) (Seals.refl _ _) qS ?_
    rintro _ _ _ ⟨rfl, rfl, rfl⟩
    refine cmp_split _ rfl (fun g3 => ?_) (fun g3 => ?_)
    ·
      rw [show matR (vv p) (jv m) (jv t) (jv y) n = ([], 1) from if_neg hok]
      exact fin ⟨rfl, .slice none 0 0, rfl, rfl⟩ (Seals.trans (Seals.drop 0 _ _) (Seals.trans (Seals.drop 0 _ _) (Seals.trans (Seals.drop 0 _ _) (Seals.cons (Knw.nil 1 _) (Seals.nil _ _)))))
    refine load_box (d := J y) 0 rfl h3 rfl (load_J _) fun y3 => ?_
    refine call_fn (hsy y3) (Seals.refl _ _) qS ?_
    rintro _ _ _ ⟨rfl, rfl, rfl⟩
    refine cmp_split _ rfl (fun g4 => ?_) (fun g4 => ?_)
    ·
      rw [show matR (vv p) (jv m) (jv t) (jv y) n = ([], 1) from if_neg hok]
      exact fin ⟨rfl, .slice none 0 0, rfl, rfl⟩ (Seals.trans (Seals.drop 0 _ _) (Seals.trans (Seals.drop 0 _ _) (Seals.trans (Seals.drop 0 _ _) (Seals.cons (Knw.nil 1 _) (Seals.nil _ _)))))
    exact absurd ⟨by omega, Int.not_lt.1 fun h => g2 (sgn_lt1.2 h), Int.not_lt.1 fun h => g3 (sgn_lt.2 h), Int.not_lt.1 fun h => g4 (sgn_lt.2 h)⟩ hok
  have hres : matR (vv p) (jv m) (jv t) (jv y) n = ((shp (dg (vv p) - 1) n.toNat).map fun s => rowV (shp (dg (vv p) - 1) n.toNat) (lst1 (jv t)) (lst1 (jv y)) (matG (vv p) (jv m) n.toNat s), 0) := if_pos hok
  rw [hres]
  clear hres
  obtain ⟨k1, k2, k3, k4⟩ := hok
  obtain ⟨j1, j2, j3, j4, j5, j6⟩ := shpR_ok k1
  obtain ⟨n, rfl⟩ : ∃ k : Nat, n = (k : Int) := ⟨n.toNat, by omega⟩
  rw [Int.toNat_natCast] at *
  rw [show (((dg (vv p) : Nat) - 1 : Int)).toNat = dg (vv p) - 1 by omega] at j5 j6
  rw [k1, j6] at hshp
  have hpd : (nrm (vv p)).length = dg (vv p) := rfl
  obtain ⟨d, hd⟩ : ∃ d, dg (vv p) = d + 1 := ⟨dg (vv p) - 1, by omega⟩
  have hsg : ∀ {s : Int}, 1 ≤ s → ¬ s.sign < 1 := fun h g => by have := sgn_lt1.1 g; omega
  have hsg0 : ∀ {s : Int}, 0 ≤ s → ¬ s.sign < 0 := fun h g => by have := sgn_lt.1 g; omega
  have q2 := hsg k2
  have q3 := hsg0 k3
  have q4 := hsg0 k4
  rw [hd, Nat.add_sub_cancel] at hshp j5 ⊢
  rw [hd] at hdd
  have hne : nrm (vv p) ≠ [] := fun e => by rw [e] at hpd; simp at hpd; omega
  have hbig := shp_big d n
  have hmemS : ∀ s, s ∈ shp d n → s.1 ≤ 23 ∧ s.2 ≤ 3 ∧ s.2 ≤ n := fun s hs => by
    obtain ⟨x, y⟩ := s
    have h1 := shp_mem.1 hs
    have h2 : d * (n - y) ≤ d * n := Nat.mul_le_mul_left _ (by omega)
    simp only; omega
  have hm2 : sz (jv m) a := sz_jv hm hma
  have hles := fun i (hi : i ≤ p.length) => lesA_lg (n := 42) hp h1k (by omega) i hi
  have hlev : ∀ x y', gev (lesR p p.length) x y' = gev (gless (nrm (vv p))) x y' := fun x y' => by
    rw [lesR_ev p x y' _ (Nat.le_refl _), gev_gless hne, ev_nrm, List.take_of_length_le (by rw [vv_len]; exact Nat.le_refl _)]
  have hadd : ∀ i, i < p.length → ∀ x1 x2, Meets Tryz.prog 62 [x1, x2] [(x1, W (lesA p i)), (x2, W (sngJ (p.getD i z0) i 0))] (fun r os fs => os = [] ∧ fs = [(r, W (lesA p (i + 1)))]) := fun i hi x1 x2 => by
    have h2 : Lg (sngJ (p.getD i z0) i 0) (ww (sngJ (p.getD i z0) i 0)) (k + i) 42 := sngJ_lgJ ⟨(hp.get i).1, Nat.le_trans (hp.get i).2 (by omega)⟩ (by omega) (by omega)
    exact rAdd12_meets x1 x2 (hles i (by omega)) h2 (by omega) (by decide)
  have hgl : ∀ s, s ∈ shp d n → ∀ j, j ≤ s.2 → Lg (toW (gpw (gless (nrm (vv p))) (gone (jv m ^ (n - s.2)) s.1) j)) (gpw (gless (nrm (vv p))) (gone (jv m ^ (n - s.2)) s.1) j) (23 * a + 1 + 3 * (k + 1) + 100) 200 := fun s hs j hj => by
    have h1 := hmemS s hs
    have h2 : sz (jv m ^ (n - s.2)) (23 * a + 1) := (sz_pow hm2 (n - s.2)).mono (Nat.succ_le_succ (Nat.mul_le_mul_right a (by omega)))
    have h3 : j * 42 ≤ 3 * 42 := Nat.mul_le_mul_right _ (by omega)
    have h4 : j * (k + 1) ≤ 3 * (k + 1) := Nat.mul_le_mul_right _ (by omega)
    have hl : Lg (toW (gless (nrm (vv p)))) (gless (nrm (vv p))) k 42 := (glJ_lg hp.szR.nrm h1k (by omega) (by decide)).toW
    exact (gpw_lg hl (gone_lg (n := 24) h2 (by omega)) (by decide) j (by omega)).mono (by omega) (by omega)
  have hlN := (hles p.length (Nat.le_refl _)).mono (show k + p.length ≤ 23 * a + 1 + 3 * (k + 1) + 100 by omega) (show 42 ≤ 200 by decide)
  have hmu : ∀ s, s ∈ shp d n → ∀ j, j < s.2 → ∀ x1 x2, Meets Tryz.prog 63 [x1, x2] [(x1, wd (gpw (gless (nrm (vv p))) (gone (jv m ^ (n - s.2)) s.1) j)), (x2, W (lesA p p.length))] (fun r os fs => os = [] ∧ fs = [(r, wd (gpw (gless (nrm (vv p))) (gone (jv m ^ (n - s.2)) s.1) (j + 1)))]) := fun s hs j hj x1 x2 => by
    have := rMul12_meets x1 x2 (hgl s hs j (by omega)) hlN (by omega) (by decide)
    rw [gmu_same hlev] at this
    exact this
  have hat : ∀ s, s ∈ shp d n → ∀ s' x1 x2, Meets Tryz.prog 64 [x1, x2] [(x1, wd (matG (vv p) (jv m) n s)), (x2, spE s')] (fun r os fs => os = [] ∧ fs = [(r, zd (gv (matG (vv p) (jv m) n s) s'.1 s'.2))]) := fun s hs s' x1 x2 =>
    rAt17_meets x1 x2 s' (hgl s hs s.2 (Nat.le_refl _)) (by omega) (by decide)
  have hgz : ∀ s, s ∈ shp d n → ∀ u v, sz (gv (matG (vv p) (jv m) n s) u v) (23 * a + 1 + 3 * (k + 1) + 100) := fun s hs u v => (hgl s hs s.2 (Nat.le_refl _)).gv u v
  have hscl : ∀ s, s ∈ shp d n → sz (sclV (lst1 (jv t)) (lst1 (jv y)) s) (2 * (23 * a + 1)) := fun s hs => by
    have := hmemS s hs
    exact sclV_sz (lst1_sz (sz_jv ht hta) h1a) (lst1_sz (sz_jv hy hya) h1a) ⟨this.1, by omega⟩
  have hsc := fun s (hs : s ∈ shp d n) x1 x2 x3 => rScale_meets x1 x2 x3 t y s a ht hta hy hya (by omega) (by have := hmemS s hs; omega)
  have hmul := fun s (hs : s ∈ shp d n) s' (hs' : s' ∈ shp d n) x1 x2 => rMulZZ' x1 x2 (gv (matG (vv p) (jv m) n s) s'.1 s'.2) (sclV (lst1 (jv t)) (lst1 (jv y)) s') (23 * a + 1 + 3 * (k + 1) + 100 + 2 * (23 * a + 1)) ((hgz s hs _ _).mono (by omega)) ((hscl s' hs').mono (by omega)) (by omega)
  have hpw := fun (i : Nat) (hi : i ≤ n) y1 => rPowerJ y1 m i a hm hma (by have : (i + 1) * (a + 1) ≤ 4 * (a + 1) := Nat.mul_le_mul_right _ (by omega); omega)
  have hsing := fun x1 (i : Nat) (hi : i ≤ 1000) c => rSingle_meets x1 c i 0 hi (by decide)
  have hsing1 := fun x1 => rSingle_meets x1 (cn (-1)) 0 1 (by decide) (by decide)
  have hmG : ∀ s, gpw (gless (nrm (vv p))) (gone (jv m ^ (n - s.2)) s.1) s.2 = matG (vv p) (jv m) n s := fun _ => rfl
  clear hgl hscl hm2 k2 k3 k4 j1 hk hdl hles hlev hlN hgz hbig
  generalize nrm (vv p) = L at *
  generalize hT : lst1 (jv t) = T at *
  generalize hY : lst1 (jv y) = Y at *
  generalize hS : shp d n = S at *
  generalize hGG : matG (vv p) (jv m) n = GG at *
  refine meets_of_vc Tryz.func18 (by kernel_rfl) rfl (by kernel_rfl) (Nat.le_of_ble_eq_true rfl) ?_
  refine box_rule (Reads.fact (d := J m) qM) fun b1 h1 => ?_
  refine box_rule (Reads.fact (d := J t) qM) fun b2 h2 => ?_
  refine box_rule (Reads.fact (d := J y) qM) fun b3 h3 => ?_
  refine call_fn hdd (Seals.refl _ _) qS ?_
  rintro _ _ _ ⟨rfl, rfl, rfl⟩
  refine call_fn hshp (Seals.refl _ _) qS ?_
  rintro _ _ _ ⟨rfl, q, rfl, rfl⟩
  refine cmp_false rfl (fun h => h rfl) ?_
  refine load_box (d := J m) 2 rfl h1 rfl (load_J _) fun y1 => ?_
  refine call_fn (hsm y1) (Seals.refl _ _) qS ?_
  rintro _ _ _ ⟨rfl, rfl, rfl⟩
  refine cmp_false rfl q2 ?_
  refine load_box (d := J t) 1 rfl h2 rfl (load_J _) fun y2 => ?_
  refine call_fn (hst y2) (Seals.refl _ _) qS ?_
  rintro _ _ _ ⟨rfl, rfl, rfl⟩
  refine cmp_false rfl q3 ?_
  refine load_box (d := J y) 0 rfl h3 rfl (load_J _) fun y3 => ?_
  refine call_fn (hsy y3) (Seals.refl _ _) qS ?_
  rintro _ _ _ ⟨rfl, rfl, rfl⟩
  refine cmp_false rfl q4 ?_
  refine call_fn (rOf_meets (-1) (by decide) (by decide)) (Seals.refl _ _) qS ?_
  rintro y4 _ _ ⟨rfl, rfl⟩
  refine call_fn (hsing1 y4) (Seals.refl _ _) qS ?_
  rintro l0 _ _ ⟨rfl, rfl⟩
  refine loop_rule (X := Nat × Value) (fun x => ([(0, v), (4, .int .i64 (n : Nat)), (6, b1), (7, b2), (8, b3), (12, q), (14, x.2), (15, .int .i64 (x.1 : Nat))], [own1 b3 2 1 (fun _ => J y), own1 b2 2 1 (fun _ => J t), own1 b1 2 1 (fun _ => J m)], [(x.2, W (lesA p x.1)), (q, ShD S), (v, V p)]))
    (fun x => x.1 ≤ p.length) (fun x => p.length - x.1) rfl ?_ ?_
  · exact again (0, l0) (Nat.zero_le _) trivial qF (Seals.sub qS)
  rintro ⟨i, lv⟩ hi
  simp only at hi ⊢
  refine len_fact (v := v) (n := p.length) qM fun _ => ?_
  refine cmp_split _ rfl (fun hlt => ?_) (fun hlt => ?_)
  · have hip : i < p.length := by omega
    refine index_fact (v := v) qM i rfl hip fun a1 => ?_
    refine load_fact (d := J (p.getD i z0)) qM (load_J _) fun y5 => ?_
    refine call_fn (hsing y5 i (by omega) (p.getD i z0)) (Seals.refl _ _) qS ?_
    rintro y6 _ _ ⟨rfl, rfl⟩
    refine call_fn (hadd i hip lv y6) (Seals.refl _ _) qS ?_
    rintro y7 _ _ ⟨rfl, rfl⟩
    refine ar rfl qI ?_
    exact again (i + 1, y7) (by simp only; omega) (by simp only; omega) qF (Seals.sub qS)
  have hip : i = p.length := by omega
  subst hip
  refine empty_L (size := 1) (e := 22) vd [] (by decide) fun o0 ho0 => ?_
  refine loop_rule (X := Nat × Value) (fun x => ([(4, .int .i64 (n : Nat)), (6, b1), (7, b2), (8, b3), (12, q), (14, lv), (16, x.2), (17, .int .i64 (x.1 : Nat))], [ownL 1 vd [] x.2 ((S.take x.1).map fun s => rowV S T Y (GG s)), own1 b3 2 1 (fun _ => J y), own1 b2 2 1 (fun _ => J t), own1 b1 2 1 (fun _ => J m)], [(q, ShD S), (lv, W (lesA p p.length))]))
    (fun x => x.1 ≤ S.length ∧ isSl x.2) (fun x => S.length - x.1) rfl ?_ ?_
  · exact again (0, o0) ⟨Nat.zero_le _, ho0⟩ trivial qF (Seals.sub qS)
  rintro ⟨i, xo⟩ ⟨hi, hxo⟩
  simp only at hi hxo ⊢
  refine len_fact (v := q) (n := S.length) qM fun _ => ?_
  refine cmp_split _ rfl (fun hlt => ?_) (fun hlt => ?_)
  · have his : i < S.length := by omega
    have hin : S.getD i (0, 0) ∈ S := getD_mem (0, 0) his
    have hb := hmemS _ hin
    have hmu' := hmu _ hin
    have hat' := hat _ hin
    have hmul' := hmul _ hin
    have hmG' := hmG (S.getD i (0, 0))
    have htk : (S.take (i + 1)).map (fun s => rowV S T Y (GG s)) = (S.take i).map (fun s => rowV S T Y (GG s)) ++ [rowV S T Y (GG (S.getD i (0, 0)))] := by
      rw [List.take_add_one, List.getElem?_eq_getElem his, List.map_append, List.getD_eq_getElem?_getD, List.getElem?_eq_getElem his]; rfl
    have htl : ((S.take i).map fun s => rowV S T Y (GG s)).length = i := by rw [List.length_map, List.length_take]; omega
    generalize hgs : GG (S.getD i (0, 0)) = gs at *
    refine draw_rule [0, 1, 2, 3, 4, 5, 6, 7, 9, 10, 11, 12, 13, 8, 14, 15] [0, 1, 2, 3, 4, 5, 6, 7, 8, 9, 10, 11, 12, 13, 14, 15] (by kernel_rfl) (by kernel_rfl) ?_
    refine load_box (d := J m) 3 rfl h1 rfl (load_J _) fun y5 => ?_
    refine index_fact (v := q) qM i rfl his fun a1 => ?_
    refine index_pa (v := a1) (d := spE (S.getD i (0, 0))) qM 1 rfl (by decide) (Part.right (Part.refl _)) fun a2 => ?_
    refine load_one (p := a2) qM ?_
    refine ar (n := ((n - (S.getD i (0, 0)).2 : Nat) : Int)) (by simp only [arZ, Option.some.injEq]; omega) qI ?_
    refine index_fact (v := q) qM i rfl his fun a3 => ?_
    refine index_pa (v := a3) (d := spE (S.getD i (0, 0))) qM 0 rfl (by decide) (Part.left (Part.refl _)) fun a4 => ?_
    refine load_one (p := a4) qM ?_
    refine call_fn (hpw (n - (S.getD i (0, 0)).2) (by omega) y5) (Seals.refl _ _) qS ?_
    rintro y6 _ _ ⟨rfl, rfl⟩
    refine call_fn (hsing y6 (S.getD i (0, 0)).1 (by omega) (cn (jv m ^ (n - (S.getD i (0, 0)).2)))) (Seals.refl _ _) qS ?_
    rintro y7 _ _ ⟨rfl, rfl⟩
    rw [sngJ_gone]
    refine loop_rule (X := Nat × Value) (fun x => ([(4, .int .i64 (n : Nat)), (6, b1), (7, b2), (8, b3), (12, q), (14, lv), (16, xo), (17, .int .i64 (i : Nat)), (18, x.2), (19, .int .i64 (x.1 : Nat))], [ownL 1 vd [] xo ((S.take i).map fun s => rowV S T Y (GG s)), own1 b3 2 1 (fun _ => J y), own1 b2 2 1 (fun _ => J t), own1 b1 2 1 (fun _ => J m)],
        [(x.2, wd (gpw (gless L) (gone (jv m ^ (n - (S.getD i (0, 0)).2)) (S.getD i (0, 0)).1) x.1)), (q, ShD S), (lv, W (lesA p p.length))]))
      (fun x => x.1 ≤ (S.getD i (0, 0)).2) (fun x => (S.getD i (0, 0)).2 - x.1) rfl ?_ ?_
    · exact again (0, y7) (Nat.zero_le _) trivial qF (Seals.sub qS)
    rintro ⟨j, gx⟩ hj
    simp only at hj ⊢
    refine index_fact (v := q) qM i rfl his fun a5 => ?_
    refine index_pa (v := a5) (d := spE (S.getD i (0, 0))) qM 1 rfl (by decide) (Part.right (Part.refl _)) fun a6 => ?_
    refine load_one (p := a6) qM ?_
    refine cmp_split _ rfl (fun hlt2 => ?_) (fun hlt2 => ?_)
    ·
      refine call_fn (hmu' j (by omega) gx lv) (Seals.refl _ _) qS ?_
      rintro y8 _ _ ⟨rfl, rfl⟩
      refine ar rfl qI ?_
      exact again (j + 1, y8) (by simp only; omega) (by simp only; omega) qF (Seals.sub qS)
    have hjp : j = (S.getD i (0, 0)).2 := by omega
    subst hjp
    rw [hmG']
    refine empty_L (size := 2) (e := 26) J z0 (by decide) fun r0 hr0 => ?_
    refine loop_rule (X := Nat × Value) (fun x => ([(4, .int .i64 (n : Nat)), (6, b1), (7, b2), (8, b3), (12, q), (14, lv), (16, xo), (17, .int .i64 (i : Nat)), (18, gx), (20, x.2), (21, .int .i64 (x.1 : Nat))],
        [ownL 2 J z0 x.2 (((S.take x.1).map fun s => gv gs s.1 s.2 * sclV T Y s).map cn), ownL 1 vd [] xo ((S.take i).map fun s => rowV S T Y (GG s)), own1 b3 2 1 (fun _ => J y), own1 b2 2 1 (fun _ => J t), own1 b1 2 1 (fun _ => J m)], [(gx, wd gs), (q, ShD S), (lv, W (lesA p p.length))]))
      (fun x => x.1 ≤ S.length ∧ isSl x.2) (fun x => S.length - x.1) rfl ?_ ?_
    · exact again (0, r0) ⟨Nat.zero_le _, hr0⟩ trivial qF (Seals.sub qS)
    rintro ⟨e, rv'⟩ ⟨he, hrv⟩
    simp only at he hrv ⊢
    refine len_fact (v := q) (n := S.length) qM fun _ => ?_
    refine cmp_split _ rfl (fun hlt3 => ?_) (fun hlt3 => ?_)
    · have heS : e < S.length := by omega
      have hin2 : S.getD e (0, 0) ∈ S := getD_mem (0, 0) heS
      have htk2 : (S.take (e + 1)).map (fun s => gv gs s.1 s.2 * sclV T Y s) = (S.take e).map (fun s => gv gs s.1 s.2 * sclV T Y s) ++ [gv gs (S.getD e (0, 0)).1 (S.getD e (0, 0)).2 * sclV T Y (S.getD e (0, 0))] := by
        rw [List.take_add_one, List.getElem?_eq_getElem heS, List.map_append, List.getD_eq_getElem?_getD, List.getElem?_eq_getElem heS]; rfl
      have htl2 : (((S.take e).map fun s => gv gs s.1 s.2 * sclV T Y s).map cn).length = e := by rw [List.length_map, List.length_map, List.length_take]; omega
      refine draw_rule [0, 1, 2, 3, 4, 5, 7, 8, 9, 10, 11, 12, 6, 13, 14, 15, 16, 17] [0, 1, 2, 3, 4, 5, 6, 7, 8, 9, 10, 11, 12, 13, 14, 15, 16, 17] (by kernel_rfl) (by kernel_rfl) ?_
      refine index_fact (v := q) qM e rfl heS fun a7 => ?_
      refine load_fact (d := spE (S.getD e (0, 0))) qM (load_sp _) fun y8 => ?_
      refine load_box (d := J t) 3 rfl h2 rfl (load_J _) fun y9 => ?_
      refine load_box (d := J y) 2 rfl h3 rfl (load_J _) fun y10 => ?_
      refine index_fact (v := q) qM e rfl heS fun a8 => ?_
      refine load_fact (d := spE (S.getD e (0, 0))) qM (load_sp _) fun y11 => ?_
      refine call_fn (hat' (S.getD e (0, 0)) gx y8) (Seals.refl _ _) qS ?_
      rintro y12 _ _ ⟨rfl, rfl⟩
      refine call_fn (hsc _ hin2 y9 y10 y11) (Seals.refl _ _) qS ?_
      rintro y13 _ _ ⟨rfl, rfl⟩
      refine call_fn (hmul' _ hin2 y12 y13) (Seals.refl _ _) qS ?_
      rintro y14 _ _ ⟨rfl, rfl⟩
      refine lit_L (size := 2) J z0 (cn (gv gs (S.getD e (0, 0)).1 (S.getD e (0, 0)).2 * sclV T Y (S.getD e (0, 0)))) (by decide) (Reads.fact (v := y14) (d := zd (gv gs (S.getD e (0, 0)).1 (S.getD e (0, 0)).2 * sclV T Y (S.getD e (0, 0)))) qM) rfl fun l1 => ?_
      refine append_L 0 rfl hrv (Knw.fact qM) (by rw [htl2]; simp only [List.length_cons, List.length_nil]; omega) (by rw [htl2]; simp only [List.length_cons, List.length_nil]; omega) fun r2 hr2 => ?_
      refine ar rfl qI ?_
      refine again (e + 1, r2) ⟨by simp only; omega, hr2⟩ (by simp only; omega) qF ?_
      simp only [htk2, List.map_append, List.map_cons, List.map_nil]
      exact Seals.sub qS
    have heS : e = S.length := by omega
    subst heS
    have hrow : (S.take S.length).map (fun s => gv gs s.1 s.2 * sclV T Y s) = rowV S T Y gs := by rw [List.take_length]; rfl
    rw [hrow]
    refine BuildSliceK.pre (Seals.toldL hrv) ?_
    refine lit_L (size := 1) (e := 22) vd [] (rowV S T Y gs) (by decide) (Reads.fact (v := rv') (d := vd (rowV S T Y gs)) qM) rfl fun l3 => ?_
    refine append_L (size := 1) (e := 22) (f := vd) (z := []) (l := (S.take i).map fun s => rowV S T Y (GG s)) (m := [rowV S T Y gs]) 0 rfl hxo (Knw.fact qM) (by rw [htl]; simp only [List.length_cons, List.length_nil]; omega) (by rw [htl]; simp only [List.length_cons, List.length_nil]; omega) fun xo2 hxo2 => ?_
    refine ar rfl qI ?_
    refine again (i + 1, xo2) ⟨by simp only; omega, hxo2⟩ (by simp only; omega) qF ?_
    simp only
    rw [htk]
    exact Seals.sub qS
  · have his : i = S.length := by omega
    subst his
    rw [List.take_length]
    refine fin ⟨rfl, xo, rfl, rfl⟩ (Seals.trans (Seals.L (f := vd) (z := []) 0 rfl hxo) (Seals.trans (Seals.drop 0 _ _) (Seals.trans (Seals.drop 0 _ _) (Seals.trans (Seals.drop 0 _ _) ?_))))
    exact Seals.cons (Knw.cast (Knw.fact (List.Mem.head _)) (LD_wd _)) (Seals.nil _ _)
open Go.RowKit
open Go.RowKit
theorem of7_meets (v : Value) (l : List Int) (hl : l.length ≤ 1000) (hz : ∀ x, x ∈ l → -9223372036854775808 ≤ x ∧ x < 9223372036854775808) :
    Meets Tryz.prog 48 [v] [(v, IL l)] (fun r os fs => os = [] ∧ fs = [(r, vd l)]) := by
  have hfin : lst l.length (fun i => l.getD i 0) = l := by
    have := lst_map l fun x => x
    rw [List.map_id'] at this
    exact this
  have hg : ∀ i, i < l.length → -9223372036854775808 ≤ l.getD i 0 ∧ l.getD i 0 < 9223372036854775808 := fun i hi => hz _ (getD_mem 0 hi)
  refine meets_of_vc Tryz.func48 (by kernel_rfl) rfl (by kernel_rfl) (Nat.le_of_ble_eq_true rfl) ?_
  refine empty_L (size := 2) (e := 26) J z0 (by decide) fun v0 hv0 => ?_
  refine loop_rule (X := Value × Nat) (fun x => ([(0, v), (3, x.1), (4, .int .i64 (x.2 : Nat))], [ownL 2 J z0 x.1 ((lst x.2 fun i => l.getD i 0).map cn)], [(v, IL l)])) (fun x => isSl x.1 ∧ x.2 ≤ l.length) (fun x => l.length - x.2) rfl ?_ ?_
  · exact again (v0, 0) ⟨hv0, Nat.zero_le _⟩ trivial qF (Seals.sub qS)
  · rintro ⟨vo, i⟩ ⟨hvo, h2⟩
    simp only at hvo h2 ⊢
    refine len_fact qM fun _ => ?_
    refine cmp_split _ rfl (fun hlt => ?_) (fun hlt => ?_)
    · have hin : i < l.length := by omega
      have hll : (lst i fun i => l.getD i 0).length = i := lst_len _ _
      refine index_fact qM i rfl hin fun a1 => ?_
      refine load_one qM ?_
      refine call_fn (rOf_meets (l.getD i 0) (hg i hin).1 (hg i hin).2) (Seals.refl _ _) qS ?_
      rintro y _ _ ⟨rfl, rfl⟩
      refine lit_L (size := 2) (f := J) (z := z0) (e := 26) (cn (l.getD i 0)) (by decide) (Reads.fact qM) rfl fun y4 => ?_
      refine append_L (size := 2) (e := 26) (f := J) (z := z0) (l := (lst i fun i => l.getD i 0).map cn) (m := [cn (l.getD i 0)]) 0 rfl hvo (Knw.fact qM) (by simp only [List.length_map, hll, List.length_cons, List.length_nil]; omega) (by simp only [List.length_map, hll, List.length_cons, List.length_nil]; omega) fun vn hvn => ?_
      refine ar rfl qI ?_
      refine again (vn, i + 1) ⟨hvn, by simp only; omega⟩ (by simp only; omega) qF ?_
      rw [show (lst i fun i => l.getD i 0).map cn ++ [cn (l.getD i 0)] = (lst (i + 1) fun i => l.getD i 0).map cn by rw [lst_snoc, List.map_append]; rfl]
      exact Seals.sub qS
    · have hii : i = l.length := by omega
      subst hii
      refine fin ⟨rfl, rfl⟩ (Seals.trans (Seals.toldL hvo) ?_)
      rw [hfin]
      exact Seals.sub qS
theorem num7_meets (x : Int) (h1 : -9223372036854775808 ≤ x) (h2 : x < 9223372036854775808) :
    Meets Tryz.prog 23 [.int .i64 x] [] (fun r os fs => os = [] ∧ fs = [(r, zd x)]) := by
  refine meets_of_vc Tryz.func23 (by kernel_rfl) rfl (by kernel_rfl) (Nat.le_of_ble_eq_true rfl) ?_
  refine alloc_rule (d := I false []) fun o ho => ?_
  refine call_fn (rOf_meets x h1 h2) (Seals.refl _ _) qS ?_
  rintro y _ _ ⟨rfl, rfl⟩
  refine store_box (d := zd x) 0 rfl ho rfl (by kernel_rfl) (Reads.fact (v := y) qM) ?_
  refine load_box (d := zd x) 0 rfl ho rfl (load_I _ _) fun r => ?_
  exact fin ⟨rfl, rfl⟩ (Seals.trans (Seals.drop 0 _ _) (Seals.sub qS))
def askD (p : Row) (m t y : Bool × List Nat) (n : Int) : Dat := .cat (V p) (.cat (J m) (.cat (J t) (.cat (J y) (.one (.int .i64 n)))))
theorem info_ask : (Tryz.prog.info? 28).map (fun i => (i.zero, i.size, i.bytes)) = some (some (.agg #[.slice none 0 0, .bool false, .slice none 0 0, .bool false, .slice none 0 0, .bool false, .slice none 0 0, .int .i64 0]), 8, 128) := by kernel_rfl
instance iCYo1 : TAgg Tryz.prog 28 8 := ⟨⟨_, Tryz.underlying28, rfl⟩, by kernel_rfl⟩
instance iCYo2 : TFld Tryz.prog 28 0 0 := ⟨_, _, Tryz.underlying28, rfl, rfl, 0, by kernel_rfl⟩
instance iCYo3 : TFld Tryz.prog 28 1 1 := ⟨_, _, Tryz.underlying28, rfl, rfl, 1, by kernel_rfl⟩
instance iCYo4 : TFld Tryz.prog 28 2 3 := ⟨_, _, Tryz.underlying28, rfl, rfl, 1, by kernel_rfl⟩
instance iCYo5 : TFld Tryz.prog 28 3 5 := ⟨_, _, Tryz.underlying28, rfl, rfl, 1, by kernel_rfl⟩
instance iCYo6 : TFld Tryz.prog 28 4 7 := ⟨_, _, Tryz.underlying28, rfl, rfl, 0, by kernel_rfl⟩
def askZ : Dat := askD [] z0 z0 z0 0
theorem askZ_rd (S : Nat → Prop) (w : World) : RdC S w askZ [.slice none 0 0, .bool false, .slice none 0 0, .bool false, .slice none 0 0, .bool false, .slice none 0 0, .int .i64 0] :=
  ⟨[_], [.bool false, .slice none 0 0, .bool false, .slice none 0 0, .bool false, .slice none 0 0, .int .i64 0], rfl, rd_nil S w 2 _, [.bool false, .slice none 0 0], [.bool false, .slice none 0 0, .bool false, .slice none 0 0, .int .i64 0], rfl, ⟨[.bool false], [.slice none 0 0], rfl, rd_false S w, rd_nil S w 1 _⟩,
    [.bool false, .slice none 0 0], [.bool false, .slice none 0 0, .int .i64 0], rfl, ⟨[.bool false], [.slice none 0 0], rfl, rd_false S w, rd_nil S w 1 _⟩, [.bool false, .slice none 0 0], [.int .i64 0], rfl, ⟨[.bool false], [.slice none 0 0], rfl, rd_false S w, rd_nil S w 1 _⟩, ⟨rfl, rfl⟩⟩
instance tzAsk : TZero Tryz.prog 28 askZ := tzero info_ask fun S w => askZ_rd S w
theorem load_ask (p : Row) (m t y : Bool × List Nat) (n : Int) : LoadAs Tryz.prog 28 (askD p m t y n) := (inferInstance : TAgg Tryz.prog 28 8)
class TAsk (P : Program) (t : TypeId) : Prop where
  und : ∃ fs f0 f1 f2 f3 f4, P.underlying t = some (.struct fs) ∧ fs = #[f0, f1, f2, f3, f4] ∧ f0.offset = 0 ∧ f1.offset = 1 ∧ f2.offset = 3 ∧ f3.offset = 5 ∧ f4.offset = 7 ∧ (P.info? f0.type).map (·.size) = some 1 ∧ (P.info? f1.type).map (·.size) = some 2 ∧ (P.info? f2.type).map (·.size) = some 2 ∧ (P.info? f3.type).map (·.size) = some 2 ∧ (P.info? f4.type).map (·.size) = some 1
  zero : ∃ i, P.info? t = some i ∧ i.zero = some (.agg #[.slice none 0 0, .bool false, .slice none 0 0, .bool false, .slice none 0 0, .bool false, .slice none 0 0, .int .i64 0])
instance iCYo7 : TAsk Tryz.prog 28 := ⟨⟨_, _, _, _, _, _, Tryz.underlying28, rfl, rfl, rfl, rfl, rfl, rfl, by kernel_rfl, by kernel_rfl, by kernel_rfl, by kernel_rfl, by kernel_rfl⟩, by
  obtain ⟨i, h1, _, _, h4⟩ := info_of info_ask
  exact ⟨i, h1, h4⟩⟩
theorem run_ask {P : Program} {t : TypeId} (ht : TAsk P t) {v a b c d e f : Value} {n : Int} (hv : v.cells = #[v]) (w : World) :
    (Instr.build t #[(0, v), (1, .agg #[a, b]), (2, .agg #[c, d]), (3, .agg #[e, f]), (4, .int .i64 n)]).run P w = .ok (.agg #[v, a, b, c, d, e, f, .int .i64 n]) w := by
  obtain ⟨_, f0, f1, f2, f3, f4, h1, rfl, h3, h4, h5, h6, h7, h8, h9, h10, h11, h12⟩ := ht.und
  obtain ⟨i, k1, k2⟩ := ht.zero
  have e1 : ∀ l, (Value.agg l).cells = l := fun _ => rfl
  have e2 : ∀ k x, (Value.int k x).cells = #[Value.int k x] := fun _ _ => rfl
  simp [Instr.build, zeroValue, typeInfo, k1, k2, run_underlying h1, run_sizeOf h8, run_sizeOf h9, run_sizeOf h10, run_sizeOf h11, run_sizeOf h12, h3, h4, h5, h6, h7, Instr.fill, e1, e2, hv, Array.zipIdx]
theorem build_ask {P : Program} {t : TypeId} [ht : TAsk P t] {v a b c : Value} {p : Row} {m t' y : Bool × List Nat} {n : Int} {os : List Own} {fs : List Fact} {K : Cont} (hv : (v, V p) ∈ fs) (ha : (a, J m) ∈ fs) (hb : (b, J t') ∈ fs) (hc : (c, J y) ∈ fs)
    (k : ∀ u, K u os ((u, askD p m t' y n) :: fs)) : BuildK P t [(0, v), (1, a), (2, b), (3, c), (4, .int .i64 n)] os fs K := by
  refine ⟨fun G w hw => ?_⟩
  have h0 := flat_up rfl (hw.facts _ hv)
  obtain ⟨c1, a1, e1⟩ := hw.facts _ ha
  obtain ⟨c2, a2, e2⟩ := hw.facts _ hb
  obtain ⟨c3, a3, e3⟩ := hw.facts _ hc
  obtain ⟨x1, x2, rfl⟩ := RdC.two' a1 rfl
  obtain ⟨x3, x4, rfl⟩ := RdC.two' a2 rfl
  obtain ⟨x5, x6, rfl⟩ := RdC.two' a3 rfl
  obtain rfl : a = .agg #[x1, x2] := e1
  obtain rfl : b = .agg #[x3, x4] := e2
  obtain rfl : c = .agg #[x5, x6] := e3
  obtain ⟨aa, cc, rfl⟩ := one_slice (hw.facts _ hv)
  exact ⟨_, _, fun w' _ => val_run (run_ask ht rfl w'), k _, hw.put ⟨[_, x1, x2, x3, x4, x5, x6, .int .i64 n], ⟨[_], [x1, x2, x3, x4, x5, x6, .int .i64 n], rfl, h0, [x1, x2], [x3, x4, x5, x6, .int .i64 n], rfl, a1, [x3, x4], [x5, x6, .int .i64 n], rfl, a2, [x5, x6], [.int .i64 n], rfl, a3, ⟨rfl, rfl⟩⟩, rfl⟩⟩
theorem pt_p (p : Row) (m t y : Bool × List Nat) (n : Int) : Part 0 (askD p m t y n) (V p) := Part.left (Part.refl _)
theorem pt_m (p : Row) (m t y : Bool × List Nat) (n : Int) : Part 1 (askD p m t y n) (J m) := Part.right (Part.left (Part.refl _))
theorem pt_t (p : Row) (m t y : Bool × List Nat) (n : Int) : Part 3 (askD p m t y n) (J t) := Part.right (Part.right (Part.left (Part.refl _)))
theorem pt_y (p : Row) (m t y : Bool × List Nat) (n : Int) : Part 5 (askD p m t y n) (J y) := Part.right (Part.right (Part.right (Part.left (Part.refl _))))
theorem pt_n (p : Row) (m t y : Bool × List Nat) (n : Int) : Part 7 (askD p m t y n) (.one (.int .i64 n)) := Part.right (Part.right (Part.right (Part.right (Part.refl _))))
theorem fits7_meets (v : Value) (p : Row) (m t y : Bool × List Nat) (n : Int) :
    Meets Tryz.prog 11 [v] [(v, askD p m t y n)] (fun r os fs => os = [] ∧ fs = [] ∧ ∃ b, r = .bool b ∧ (b = true → smallR 4 2 p ∧ m.2.length ≤ 2 ∧ t.2.length ≤ 2 ∧ y.2.length ≤ 2)) := by
  refine meets_of_vc Tryz.func11 (by kernel_rfl) rfl (by kernel_rfl) (Nat.le_of_ble_eq_true rfl) ?_
  refine box_fact (Reads.fact (d := askD p m t y n) qM) fun bq => ?_
  refine field_fact (p := bq) (d := askD p m t y n) qM (pt_p p m t y n) fun a1 => ?_
  refine load_fact (p := a1) (d := V p) qM (load_P _) fun y1 => ?_
  refine call_fn (rFits_meets y1 p 4 2) (Seals.refl _ _) qS ?_
  rintro _ _ _ ⟨rfl, rfl, rfl⟩
  by_cases hs : p.length ≤ 4 ∧ ∀ x, x ∈ p → x.2.length ≤ 2
  case neg =>
    rw [decide_eq_false hs]
    exact fin ⟨rfl, rfl, false, rfl, fun h => by simp at h⟩ (Seals.nil _ _)
  rw [decide_eq_true hs]
  refine field_fact (p := bq) (d := askD p m t y n) qM (pt_m p m t y n) fun a1 => ?_
  refine field_fact (p := a1) (off := 1) (d := J m) (d' := U (m).2) qM (Part.right (Part.refl _)) fun a2 => ?_
  refine load_fact (p := a2) (d := U (m).2) qM (load_L _) fun u1 => ?_
  refine len_fact (v := u1) (n := (m).2.length) qM fun _ => ?_
  refine cmp_split _ rfl (fun h1 => ?_) (fun h1 => ?_)
  case refine_2 =>
    exact fin ⟨rfl, rfl, false, rfl, fun h => by simp at h⟩ (Seals.nil _ _)
  refine field_fact (p := bq) (d := askD p m t y n) qM (pt_t p m t y n) fun a1 => ?_
  refine field_fact (p := a1) (off := 1) (d := J t) (d' := U (t).2) qM (Part.right (Part.refl _)) fun a2 => ?_
  refine load_fact (p := a2) (d := U (t).2) qM (load_L _) fun u1 => ?_
  refine len_fact (v := u1) (n := (t).2.length) qM fun _ => ?_
  refine cmp_split _ rfl (fun h2 => ?_) (fun h2 => ?_)
  case refine_2 =>
    exact fin ⟨rfl, rfl, false, rfl, fun h => by simp at h⟩ (Seals.nil _ _)
  refine field_fact (p := bq) (d := askD p m t y n) qM (pt_y p m t y n) fun a1 => ?_
  refine field_fact (p := a1) (off := 1) (d := J y) (d' := U (y).2) qM (Part.right (Part.refl _)) fun a2 => ?_
  refine load_fact (p := a2) (d := U (y).2) qM (load_L _) fun u1 => ?_
  refine len_fact (v := u1) (n := (y).2.length) qM fun _ => ?_
  refine cmp_split _ rfl (fun h3 => ?_) (fun h3 => ?_)
  case refine_2 =>
    exact fin ⟨rfl, rfl, false, rfl, fun h => by simp at h⟩ (Seals.nil _ _)
  exact fin ⟨rfl, rfl, true, rfl, fun _ => ⟨hs, by omega, by omega, by omega⟩⟩ (Seals.nil _ _)
theorem rOwnT (v : Value) (a : Row) (ll : a.length ≤ 274877906944) (hk : ∀ x, x ∈ a → x.2.length ≤ 1099511627776) :
    Meets Tryz.prog 50 [v] [(v, V a)] (fun r os fs => os = [] ∧ fs = [(r, V a)]) :=
  (rOwn_meets v a ll hk).closed fun r os fs ⟨h1, h2, h3⟩ => ⟨_, _, ⟨rfl, rfl⟩, by
    subst h1 h3
    exact Seals.L (f := J) (z := z0) 0 rfl h2⟩
theorem own7_meets (v : Value) (p : Row) (m t y : Bool × List Nat) (n : Int) (hp : smallR 4 2 p) (hm : m.2.length ≤ 2) (ht : t.2.length ≤ 2) (hy : y.2.length ≤ 2) :
    Meets Tryz.prog 12 [v] [(v, askD p m t y n)] (fun r os fs => os = [] ∧ fs = [(r, askD p m t y n)]) := by
  have h1 := fun z => rOwnT z [m, t, y] (by simp) (fun x hx => by
    simp only [List.mem_cons, List.not_mem_nil, or_false] at hx
    rcases hx with rfl | rfl | rfl <;> omega)
  have h2 := fun z => rOwnT z p (by have := hp.1; omega) (fun x hx => by have := hp.2 x hx; omega)
  refine meets_of_vc Tryz.func12 (by kernel_rfl) rfl (by kernel_rfl) (Nat.le_of_ble_eq_true rfl) ?_
  refine box_fact (Reads.fact (d := askD p m t y n) qM) fun bq => ?_
  refine alloc_rule (d := askZ) fun o ho => ?_
  refine field_fact (p := bq) (d := askD p m t y n) qM (pt_m p m t y n) fun a1 => ?_
  refine load_fact (p := a1) (d := J m) qM (load_J _) fun y1 => ?_
  refine field_fact (p := bq) (d := askD p m t y n) qM (pt_t p m t y n) fun a1 => ?_
  refine load_fact (p := a1) (d := J t) qM (load_J _) fun y2 => ?_
  refine field_fact (p := bq) (d := askD p m t y n) qM (pt_y p m t y n) fun a1 => ?_
  refine load_fact (p := a1) (d := J y) qM (load_J _) fun y3 => ?_
  refine buildSlice_fact (size := 2) (n := 3) [y1, y2, y3] [J m, J t, J y] rfl rfl (by decide) (by decide) ⟨Reads.fact qM, rfl, Reads.fact qM, rfl, Reads.fact qM, rfl, trivial⟩ fun l1 => ?_
  refine CallK.pre (Seals.cons (v := l1) (d := V [m, t, y]) (Knw.cast (Knw.sl_cong (e' := fun i => J ([m, t, y].getD i z0)) (Knw.fact (List.Mem.head _)) fun i hi => ?_) rfl) (Seals.sub fun _ hF => .tail _ hF)) ?_
  · match i, hi with
    | 0, _ => rfl
    | 1, _ => rfl
    | 2, _ => rfl
  refine call_fn (h1 l1) (Seals.refl _ _) qS ?_
  rintro l2 _ _ ⟨rfl, rfl⟩
  refine draw_rule [0, 1, 3, 4, 5, 6, 7, 8, 9, 10, 11, 12, 13, 2, 14, 15] [0, 1, 2, 3, 4, 5, 6, 7, 8, 9, 10, 11, 12, 13, 14, 15] (by kernel_rfl) (by kernel_rfl) ?_
  refine field_fact (p := bq) (d := askD p m t y n) qM (pt_p p m t y n) fun a1 => ?_
  refine load_fact (p := a1) (d := V p) qM (load_P _) fun y4 => ?_
  refine index_fact (v := l2) qM 0 rfl (by simp) fun a3 => ?_
  refine load_fact (p := a3) (d := J m) qM (load_J _) fun y5 => ?_
  refine index_fact (v := l2) qM 1 rfl (by simp) fun a4 => ?_
  refine load_fact (p := a4) (d := J t) qM (load_J _) fun y6 => ?_
  refine index_fact (v := l2) qM 2 rfl (by simp) fun a5 => ?_
  refine load_fact (p := a5) (d := J y) qM (load_J _) fun y7 => ?_
  refine field_fact (p := bq) (d := askD p m t y n) qM (pt_n p m t y n) fun a1 => ?_
  refine load_one (p := a1) qM ?_
  refine call_fn (h2 y4) (Seals.refl _ _) qS ?_
  rintro y8 _ _ ⟨rfl, rfl⟩
  refine build_ask (v := y8) (a := y5) (b := y6) (c := y7) qM qM qM qM fun u => ?_
  refine store_box (d := askD p m t y n) 0 rfl ho rfl (by kernel_rfl) (Reads.fact (v := u) qM) ?_
  refine load_box (d := askD p m t y n) 0 rfl ho rfl (load_ask _ _ _ _ _) fun r => ?_
  exact fin ⟨rfl, rfl⟩ (Seals.trans (Seals.drop 0 _ _) (Seals.sub qS))
theorem kept7_meets (v w : Value) (p : Row) (m t y : Bool × List Nat) (n : Int) :
    Meets Tryz.prog 21 [v, w] [(v, askD p m t y n), (w, askD p m t y n)] (fun r os fs => os = [] ∧ fs = [] ∧ r = .bool true) := by
  have he : ∀ x z1 z2, Meets Tryz.prog 47 [z1, z2] [(z1, J x), (z2, J x)] (fun r os fs => os = [] ∧ fs = [] ∧ r = .bool true) := fun x z1 z2 => by
    have := exact_meets z1 z2 x x
    rw [decide_eq_true rfl] at this
    exact this
  have ha : ∀ z1 z2, Meets Tryz.prog 26 [z1, z2] [(z1, V p), (z2, V p)] (fun r os fs => os = [] ∧ fs = [] ∧ r = .bool true) := fun z1 z2 => by
    have := exactAll_meets z1 z2 p p
    rw [decide_eq_true rfl] at this
    exact this
  refine meets_of_vc Tryz.func21 (by kernel_rfl) rfl (by kernel_rfl) (Nat.le_of_ble_eq_true rfl) ?_
  refine box_fact (Reads.fact (v := v) (d := askD p m t y n) qM) fun bq => ?_
  refine box_fact (Reads.fact (v := w) (d := askD p m t y n) qM) fun bw => ?_
  refine field_fact (p := bq) (d := askD p m t y n) qM (pt_p p m t y n) fun a1 => ?_
  refine load_fact (p := a1) (d := V p) qM (load_P _) fun y1 => ?_
  refine field_fact (p := bw) (d := askD p m t y n) qM (pt_p p m t y n) fun a1 => ?_
  refine load_fact (p := a1) (d := V p) qM (load_P _) fun y2 => ?_
  refine call_fn (ha y1 y2) (Seals.refl _ _) qS ?_
  rintro _ _ _ ⟨rfl, rfl, rfl⟩
  refine field_fact (p := bq) (d := askD p m t y n) qM (pt_m p m t y n) fun a1 => ?_
  refine load_fact (p := a1) (d := J m) qM (load_J _) fun y3 => ?_
  refine field_fact (p := bw) (d := askD p m t y n) qM (pt_m p m t y n) fun a1 => ?_
  refine load_fact (p := a1) (d := J m) qM (load_J _) fun y4 => ?_
  refine call_fn (he m y3 y4) (Seals.refl _ _) qS ?_
  rintro _ _ _ ⟨rfl, rfl, rfl⟩
  refine field_fact (p := bq) (d := askD p m t y n) qM (pt_t p m t y n) fun a1 => ?_
  refine load_fact (p := a1) (d := J t) qM (load_J _) fun y5 => ?_
  refine field_fact (p := bw) (d := askD p m t y n) qM (pt_t p m t y n) fun a1 => ?_
  refine load_fact (p := a1) (d := J t) qM (load_J _) fun y6 => ?_
  refine call_fn (he t y5 y6) (Seals.refl _ _) qS ?_
  rintro _ _ _ ⟨rfl, rfl, rfl⟩
  refine field_fact (p := bq) (d := askD p m t y n) qM (pt_y p m t y n) fun a1 => ?_
  refine load_fact (p := a1) (d := J y) qM (load_J _) fun y7 => ?_
  refine field_fact (p := bw) (d := askD p m t y n) qM (pt_y p m t y n) fun a1 => ?_
  refine load_fact (p := a1) (d := J y) qM (load_J _) fun y8 => ?_
  refine call_fn (he y y7 y8) (Seals.refl _ _) qS ?_
  rintro _ _ _ ⟨rfl, rfl, rfl⟩
  exact fin ⟨rfl, rfl, rfl⟩ (Seals.nil _ _)
end Go.Proofs.YtjebljkoiaojaaaGreat
namespace Go.Proofs.YtjebljkoiaojaaaGreat
open Go.RowKit Go.ChangeShapes Go.WideShapes Go.ChangeAt Go.Deep
section
variable {H : Type} {enc : TypeId × Value → H} {w : World} {base : Nat} {spare : Nat → Bool} {held : Bool}
theorem rd_ask5 {P : Program} {t tp ti tn : TypeId} {f0 f1 f2 f3 f4 : Field} (ht : P.underlying t = some (.struct #[f0, f1, f2, f3, f4])) (e0 : f0.type = tp ∧ f0.offset = 0) (e1 : f1.type = ti ∧ f1.offset = 1) (e2 : f2.type = ti ∧ f2.offset = 3) (e3 : f3.type = ti ∧ f3.offset = 5) (e4 : f4.type = tn ∧ f4.offset = 7)
    (cp : P.cellsOf tp = 1) (ci : P.cellsOf ti = 2) (cn' : P.cellsOf tn = 1) (hn : P.underlying tn = some (.int .i64))
    (ep : ∀ (n : Nat) (cs : List Value) (x : DataW H × List MemPlace), DataW.trod enc P w base spare held n tp cs = some x → ∃ r : Row, limR r ∧ RdC (fun b => b < w.heap.size) w (V r) cs)
    (ei : ∀ (n : Nat) (cs : List Value) (x : DataW H × List MemPlace), cs.length = 2 → DataW.trod enc P w base spare held n ti cs = some x → ∃ y : Bool × List Nat, Lim y.2 ∧ RdC (fun b => b < w.heap.size) w (J y) cs)
    {fuel : Nat} {cs : List Value} {x : DataW H × List MemPlace} (hl : cs.length = 8) (h : DataW.trod enc P w base spare held fuel t cs = some x) :
    ∃ (p : Row) (m u y : Bool × List Nat) (n : Int), (limR p ∧ Lim m.2 ∧ Lim u.2 ∧ Lim y.2 ∧ inK .i64 n) ∧ RdC (fun b => b < w.heap.size) w (askD p m u y n) cs := by
  obtain ⟨xs, n, _, rfl, _, hlen, hf⟩ := DataW.trod_struct ht h
  match xs, hlen with
  | [y0, y1, y2, y3, y4], _ =>
    have h0 := hf 0 f0 rfl
    have h1 := hf 1 f1 rfl
    have h2 := hf 2 f2 rfl
    have h3 := hf 3 f3 rfl
    have h4 := hf 4 f4 rfl
    rw [e0.1, e0.2, cp] at h0
    rw [e1.1, e1.2, ci] at h1
    rw [e2.1, e2.2, ci] at h2
    rw [e3.1, e3.2, ci] at h3
    rw [e4.1, e4.2, cn'] at h4
    match cs, hl with
    | [c0, c1, c2, c3, c4, c5, c6, c7], _ =>
      obtain ⟨p, a1, a2⟩ := ep _ _ _ h0
      obtain ⟨m, b1, b2⟩ := ei _ _ _ rfl h1
      obtain ⟨u, d1, d2⟩ := ei _ _ _ rfl h2
      obtain ⟨y, g1, g2⟩ := ei _ _ _ rfl h3
      obtain ⟨k, k1, _, k2⟩ := DataW.trod_int hn h4
      obtain rfl : c7 = .int .i64 k := by simpa using k1
      refine ⟨p, m, u, y, k, ⟨a1, b1, d1, g1, ?_⟩, ?_⟩
      · have := i64_of k2
        simp only [inK]; omega
      · exact ⟨[c0], _, rfl, a2, [c1, c2], _, rfl, b2, [c3, c4], _, rfl, d2, [c5, c6], [.int .i64 k], rfl, g2, ⟨rfl, rfl⟩⟩
end
theorem rd_askV {P : Program} {t : TypeId} {fs : Array Field} {H : Type} {enc : TypeId × Value → H} {w : World} {r : Reach} {base base' : Nat} {spare : Nat → Bool} {held : Bool} {v : Value} {d : DataW H} {p : List MemPlace} (ht : P.underlying t = some (.struct fs)) (hc : P.cellsOf t = 8)
    (el : ∀ (n : Nat) (cs : List Value) (x : DataW H × List MemPlace), cs.length = 8 → DataW.trod enc P w base spare held n t cs = some x → ∃ (p : Row) (m u y : Bool × List Nat) (n : Int), (limR p ∧ Lim m.2 ∧ Lim u.2 ∧ Lim y.2 ∧ inK .i64 n) ∧ RdC (fun b => b < w.heap.size) w (askD p m u y n) cs)
    (hv : Value.okWide P w r base' t v) (h : DataW.Trod enc P w base spare held t v d p) : ∃ (p : Row) (m u y : Bool × List Nat) (n : Int), (limR p ∧ Lim m.2 ∧ Lim u.2 ∧ Lim y.2 ∧ inK .i64 n) ∧ Rd (fun b => b < w.heap.size) w v (askD p m u y n) := by
  obtain ⟨cs, rfl, hsz⟩ := okWide_struct ht hv
  obtain ⟨fuel, hf⟩ := h
  have hcs : (Value.agg cs).cells.toList = cs.toList := by simp [Value.cells]
  rw [hcs] at hf
  obtain ⟨p, m, u, y, n, h1, h2⟩ := el _ _ _ (by simpa using hsz.trans hc) hf
  exact ⟨p, m, u, y, n, h1, cs.toList, h2, by unfold askD pack; simp⟩
set_option maxRecDepth 100000 in
theorem rd_ask {H : Type} {enc : TypeId × Value → H} {w : World} {r : Reach} {base base' : Nat} {spare : Nat → Bool} {held : Bool} {v : Value} {d : DataW H} {p : List MemPlace} (hv : Value.okWide Tryz.prog w r base' 28 v)
    (h : DataW.Trod enc Tryz.prog w base spare held 28 v d p) : ∃ (p : Row) (m u y : Bool × List Nat) (n : Int), (limR p ∧ Lim m.2 ∧ Lim u.2 ∧ Lim y.2 ∧ inK .i64 n) ∧ Rd (fun b => b < w.heap.size) w v (askD p m u y n) :=
  have hc : Tryz.prog.cellsOf 28 = 8 := by kernel_rfl
  have el : ∀ (n : Nat) (cs : List Value) (x : DataW H × List MemPlace), cs.length = 8 → DataW.trod enc Tryz.prog w base spare held n 28 cs = some x → ∃ (p : Row) (m u y : Bool × List Nat) (n : Int), (limR p ∧ Lim m.2 ∧ Lim u.2 ∧ Lim y.2 ∧ inK .i64 n) ∧ RdC (fun b => b < w.heap.size) w (askD p m u y n) cs := fun _ _ _ hl h =>
    rd_ask5 (tp := 23) (ti := 26) (tn := 3) Tryz.underlying28 ⟨rfl, rfl⟩ ⟨rfl, rfl⟩ ⟨rfl, rfl⟩ ⟨rfl, rfl⟩ ⟨rfl, rfl⟩ (by kernel_rfl) (by kernel_rfl) (by kernel_rfl) Tryz.underlying3 (fun _ _ _ h => rd_poly h) (fun _ _ _ hl h => rd_int hl h) hl h
  rd_askV (P := Tryz.prog) (t := 28) (v := v) (r := r) (base := base) (base' := base') Tryz.underlying28 hc el hv h
theorem i8_of {n : Int} (h : (Lit.int .i8 n).wf = true) : -128 ≤ n ∧ n < 128 := by
  simp [Lit.wf, IntKind.min, IntKind.max, IntKind.signed, IntKind.bits] at h
  omega
open Go.RowKit
theorem fit7 {l : List Int} (h : ∀ x, x ∈ l → x.natAbs < 18446744073709551616) : Fit 1 (l.map cn) := Fit_cn fun x hx => by
  have := h x hx
  unfold sz; simpa using this
theorem sm7 (x : Int) (h : x.natAbs < 18446744073709551616) : sz x 1 := by unfold sz; simpa using h
theorem shapeT (v w : Value) (a b : List (Nat × Nat)) (h : a = b) : Meets Tryz.prog 19 [v, w] [(v, ShD a), (w, ShD b)] (fun r os fs => os = [] ∧ fs = [] ∧ r = .bool true) := by
  have := rSameShape_meets v w a b
  rw [decide_eq_true h] at this
  exact this
theorem rowsT (v w : Value) (a b : List (List Int)) (h : a = b) : Meets Tryz.prog 20 [v, w] [(v, wd a), (w, wd b)] (fun r os fs => os = [] ∧ fs = [] ∧ r = .bool true) := by
  subst h
  have := rowsExact_meets v w (a.map (·.map cn)) (a.map (·.map cn))
  rw [decide_eq_true rfl] at this
  exact this
theorem sh7_shape : Meets Tryz.prog 15 [.int .i64 2, .int .i64 1] [] (fun r os fs => os = [] ∧ ∃ q, r = .tuple #[q, .int .i64 0] ∧ fs = [(q, ShD [(0, 0), (1, 0), (2, 0), (0, 1)])]) := by
  have h := slzShape_meets 2 1 (by simp only [inK]; omega) (by simp only [inK]; omega)
  rw [show shpR 2 1 = ([(0, 0), (1, 0), (2, 0), (0, 1)], 0) by decide] at h
  exact h
theorem sh7_mat (v w u z : Value) : Meets Tryz.prog 17 [v, w, u, z, .int .i64 1] [(v, vd [3, 5]), (w, zd 100), (u, zd 4), (z, zd 2)] (fun r os fs => os = [] ∧ ∃ q, r = .tuple #[q, .int .i64 0] ∧ fs = [(q, wd [[100, 0, 0], [0, 400, 0], [3, 20, -2]])]) := by
  have h := slzMatrix_meets v w u z (([3, 5] : List Int).map cn) (cn 100) (cn 4) (cn 2) 1 1 1 (fit7 (by decide)) (by decide) (by decide) (by decide) (Lim_lims _) (sm7 100 (by decide)).len (Lim_lims _) (sm7 4 (by decide)).len (Lim_lims _) (sm7 2 (by decide)).len (by decide) (by decide) (by simp only [inK]; omega)
  rw [vv_cn, jv_cn, jv_cn, jv_cn, show matR [3, 5] 100 4 2 1 = ([[100, 0, 0], [0, 400, 0], [3, 20, -2]], 0) by decide +kernel] at h
  exact h
theorem sh7_all (v w u z : Value) : Meets Tryz.prog 24 [v, w, u, z] [(v, vd [3, 5]), (w, zd 100), (u, zd 25), (z, zd 2)] (fun r os fs => os = [] ∧ ∃ q, r = .tuple #[q, .int .i64 0] ∧ fs = [(q, vd [-21, -1, 19])]) := by
  have h := slzAll_meets v w u z (([3, 5] : List Int).map cn) (cn 100) (cn 25) (cn 2) 1 1 (fit7 (by decide)) (by decide) (by decide) (Lim_lims _) (sm7 100 (by decide)).len (Lim_lims _) (sm7 25 (by decide)).len (Lim_lims _) (sm7 2 (by decide)).len (by decide)
  rw [vv_cn, jv_cn, jv_cn, jv_cn, show allR [3, 5] 100 25 2 = ([-21, -1, 19], 0) by decide +kernel] at h
  exact h
theorem sh7_with (v w u z : Value) : Meets Tryz.prog 13 [v, w, u, z] [(v, vd [3, 5]), (w, zd 100), (u, zd 2), (z, zd 19)] (fun r os fs => os = [] ∧ fs = [] ∧ r = .tuple #[.bool true, .int .i64 0]) := by
  have h := slzWithin_meets v w u z (([3, 5] : List Int).map cn) (cn 100) (cn 2) (cn 19) 1 1 (fit7 (by decide)) (by decide) (by decide) (Lim_lims _) (sm7 100 (by decide)).len (Lim_lims _) (sm7 2 (by decide)).len (Lim_lims _) (sm7 19 (by decide)).len (by decide)
  rw [vv_cn, jv_cn, jv_cn, jv_cn, show withinR [3, 5] 100 2 19 = (true, 0) by decide +kernel] at h
  exact h
theorem sh7_lil : Lil [222, 389] 1000 5 1 1 1 := ⟨by decide, by decide, by decide, by decide, by decide, by decide, fun x hx => sm7 x (by revert x; decide), by decide, sm7 _ (by decide), sm7 _ (by decide), sm7 _ (by decide)⟩
theorem sh7_R : lR [222, 389] 1000 5 1 1 1 = [[4, -10, 18], [-82, 205, 131], [882, 295, -31]] := by
  have h1 := sh7_lil.red
  have h2 := lred_cn (M := lA [222, 389] 1000 5 1 1 1) (f := 40) (R1 := [[4, -10, 18], [-82, 205, 131], [882, 295, -31]]) (R2 := [[4, 7, -18], [29, 51, -131], [-6, -12, 31]]) (by decide +kernel) (by decide +kernel) (by decide +kernel)
  rw [h1] at h2
  exact congrArg (·.1) h2
theorem sh7_F : lF [222, 389] 1000 5 1 1 1 = ([-2000, 1000], true) := by
  unfold lF
  rw [sh7_R]
  decide +kernel
theorem rise_one {a : Int} : ∀ {l : List Int}, Rise l → (∀ t, t ∈ l ↔ t = a) → l = [a]
  | [], _, h => absurd ((h a).2 rfl) (by simp)
  | [b], _, h => by rw [(h b).1 (by simp)]
  | b :: c :: l, hr, h => by
    have h1 := (h b).1 (by simp)
    have h2 := (h c).1 (by simp)
    have h3 := hr.1 c (by simp)
    omega
theorem sh7_L {L : List Int} {dec : Bool} (h : SolveOk [222, 389] 1000 5 1 1 1 L dec) : dec = true ∧ L = [2] := by
  have h0 := h.ok
  rw [sh7_F] at h0
  obtain ⟨h1, O, e, h2, rfl⟩ := h0 rfl
  obtain ⟨h3, h4, _⟩ := in_all h2 (by decide) (by decide)
  refine ⟨h1, rise_one (h3.filter _) fun t => ?_⟩
  rw [List.mem_filter, h4]
  constructor
  · rintro ⟨⟨g1, g2, g3⟩, _⟩
    have : t = -5 ∨ t = -4 ∨ t = -3 ∨ t = -2 ∨ t = -1 ∨ t = 0 ∨ t = 1 ∨ t = 2 ∨ t = 3 ∨ t = 4 ∨ t = 5 := by omega
    rcases this with rfl | rfl | rfl | rfl | rfl | rfl | rfl | rfl | rfl | rfl | rfl <;> first | rfl | exact absurd g3 (by decide)
  · rintro rfl
    exact ⟨⟨by decide, by decide, by decide⟩, by decide +kernel⟩
theorem sh7_solve (v w u z : Value) : Meets Tryz.prog 28 [v, w, u, z, .int .i64 1] [(v, vd [222, 389]), (w, zd 1000), (u, zd 5), (z, zd 1)] (fun r os fs => os = [] ∧ ∃ q, r = .tuple #[q, .bool true, .int .i64 0] ∧ fs = [(q, vd [2])]) := by
  have h := slzSolve_ok v w u z (([222, 389] : List Int).map cn) (cn 1000) (cn 5) (cn 1) 1 1 (fit7 (by decide)) (Lim_lims _) (sm7 1000 (by decide)).len (Lim_lims _) (sm7 5 (by decide)).len (Lim_lims _) (sm7 1 (by decide)).len (by rw [vv_cn, jv_cn, jv_cn, jv_cn]; exact sh7_lil)
  rw [vv_cn, jv_cn, jv_cn, jv_cn] at h
  refine h.mono ?_
  rintro r os fs ⟨h1, q, L, dec, h2, h3, h4⟩
  obtain ⟨rfl, rfl⟩ := sh7_L h3
  exact ⟨h1, q, h2, h4⟩
theorem shown7_meets : Meets Tryz.prog 10 [] [] (fun r os fs => os = [] ∧ fs = [] ∧ r = .bool true) := by
  refine meets_of_vc Tryz.func10 (by kernel_rfl) rfl (by kernel_rfl) (Nat.le_of_ble_eq_true rfl) ?_
  refine lit_IL [3, 5] rfl rfl (by decide) fun s1 => ?_
  refine call_fn (of7_meets s1 [3, 5] (by decide) (by decide)) (Seals.refl _ _) qS ?_
  rintro p _ _ ⟨rfl, rfl⟩
  refine call_fn (sh7_shape) (Seals.refl _ _) qS ?_
  rintro _ _ _ ⟨rfl, sh, rfl, rfl⟩
  refine call_fn (num7_meets 100 (by decide) (by decide)) (Seals.refl _ _) qS ?_
  rintro n1 _ _ ⟨rfl, rfl⟩
  refine call_fn (num7_meets 4 (by decide) (by decide)) (Seals.refl _ _) qS ?_
  rintro n2 _ _ ⟨rfl, rfl⟩
  refine call_fn (num7_meets 2 (by decide) (by decide)) (Seals.refl _ _) qS ?_
  rintro n3 _ _ ⟨rfl, rfl⟩
  refine call_fn (sh7_mat p n1 n2 n3) (Seals.refl _ _) qS ?_
  rintro _ _ _ ⟨rfl, mt, rfl, rfl⟩
  refine call_fn (num7_meets 100 (by decide) (by decide)) (Seals.refl _ _) qS ?_
  rintro n4 _ _ ⟨rfl, rfl⟩
  refine call_fn (num7_meets 25 (by decide) (by decide)) (Seals.refl _ _) qS ?_
  rintro n5 _ _ ⟨rfl, rfl⟩
  refine call_fn (num7_meets 2 (by decide) (by decide)) (Seals.refl _ _) qS ?_
  rintro n6 _ _ ⟨rfl, rfl⟩
  refine call_fn (sh7_all p n4 n5 n6) (Seals.refl _ _) qS ?_
  rintro _ _ _ ⟨rfl, al, rfl, rfl⟩
  refine call_fn (num7_meets 100 (by decide) (by decide)) (Seals.refl _ _) qS ?_
  rintro n7 _ _ ⟨rfl, rfl⟩
  refine call_fn (num7_meets 2 (by decide) (by decide)) (Seals.refl _ _) qS ?_
  rintro n8 _ _ ⟨rfl, rfl⟩
  refine call_fn (num7_meets 19 (by decide) (by decide)) (Seals.refl _ _) qS ?_
  rintro n9 _ _ ⟨rfl, rfl⟩
  refine call_fn (sh7_with p n7 n8 n9) (Seals.refl _ _) qS ?_
  rintro _ _ _ ⟨rfl, rfl, rfl⟩
  refine lit_IL [222, 389] rfl rfl (by decide) fun s2 => ?_
  refine call_fn (of7_meets s2 [222, 389] (by decide) (by decide)) (Seals.refl _ _) qS ?_
  rintro p2 _ _ ⟨rfl, rfl⟩
  refine call_fn (num7_meets 1000 (by decide) (by decide)) (Seals.refl _ _) qS ?_
  rintro n10 _ _ ⟨rfl, rfl⟩
  refine call_fn (num7_meets 5 (by decide) (by decide)) (Seals.refl _ _) qS ?_
  rintro n11 _ _ ⟨rfl, rfl⟩
  refine call_fn (num7_meets 1 (by decide) (by decide)) (Seals.refl _ _) qS ?_
  rintro n12 _ _ ⟨rfl, rfl⟩
  refine call_fn (sh7_solve p2 n10 n11 n12) (Seals.refl _ _) qS ?_
  rintro _ _ _ ⟨rfl, so, rfl, rfl⟩
  refine build_arr ?_
  refine build_arr ?_
  refine build_arr ?_
  refine build_arr ?_
  refine buildSlice_fact (size := 2) (n := 4) [spot 0 0, spot 1 0, spot 2 0, spot 0 1] [spE (0, 0), spE (1, 0), spE (2, 0), spE (0, 1)] rfl rfl (by decide) (by decide) ⟨Reads.spot _ _, rfl, Reads.spot _ _, rfl, Reads.spot _ _, rfl, Reads.spot _ _, rfl, trivial⟩ fun l1 => ?_
  refine CallK.pre (Seals.cons (v := l1) (d := ShD [(0, 0), (1, 0), (2, 0), (0, 1)]) (Knw.cast (Knw.sl_cong (e' := fun i => spE (([(0, 0), (1, 0), (2, 0), (0, 1)] : List (Nat × Nat)).getD i (0, 0))) (Knw.fact (List.Mem.head _)) fun i hi => ?_) rfl) (Seals.sub fun _ hF => .tail _ hF)) ?_
  · match i, hi with
    | 0, _ => rfl
    | 1, _ => rfl
    | 2, _ => rfl
    | 3, _ => rfl
  refine call_fn (shapeT sh l1 _ _ rfl) (Seals.refl _ _) qS ?_
  rintro _ _ _ ⟨rfl, rfl, rfl⟩
  refine lit_IL [100, 0, 0] rfl rfl (by decide) fun s3 => ?_
  refine call_fn (of7_meets s3 [100, 0, 0] (by decide) (by decide)) (Seals.refl _ _) qS ?_
  rintro r1 _ _ ⟨rfl, rfl⟩
  refine lit_IL [0, 400, 0] rfl rfl (by decide) fun s4 => ?_
  refine call_fn (of7_meets s4 [0, 400, 0] (by decide) (by decide)) (Seals.refl _ _) qS ?_
  rintro r2 _ _ ⟨rfl, rfl⟩
  refine lit_IL [3, 20, -2] rfl rfl (by decide) fun s5 => ?_
  refine call_fn (of7_meets s5 [3, 20, -2] (by decide) (by decide)) (Seals.refl _ _) qS ?_
  rintro r3 _ _ ⟨rfl, rfl⟩
  refine buildSlice_fact (size := 1) (n := 3) [r1, r2, r3] [vd [100, 0, 0], vd [0, 400, 0], vd [3, 20, -2]] rfl rfl (by decide) (by decide) ⟨Reads.fact qM, rfl, Reads.fact qM, rfl, Reads.fact qM, rfl, trivial⟩ fun l2 => ?_
  refine CallK.pre (Seals.cons (v := l2) (d := wd [[100, 0, 0], [0, 400, 0], [3, 20, -2]]) (Knw.cast (Knw.sl_cong (e' := fun i => V (([[100, 0, 0], [0, 400, 0], [3, 20, -2]] : List (List Int)).map (·.map cn) |>.getD i [])) (Knw.fact (List.Mem.head _)) fun i hi => ?_) rfl) (Seals.sub fun _ hF => .tail _ hF)) ?_
  · match i, hi with
    | 0, _ => rfl
    | 1, _ => rfl
    | 2, _ => rfl
  refine call_fn (rowsT mt l2 _ _ rfl) (Seals.refl _ _) qS ?_
  rintro _ _ _ ⟨rfl, rfl, rfl⟩
  refine lit_IL [-21, -1, 19] rfl rfl (by decide) fun s6 => ?_
  refine call_fn (of7_meets s6 [-21, -1, 19] (by decide) (by decide)) (Seals.refl _ _) qS ?_
  rintro r4 _ _ ⟨rfl, rfl⟩
  refine call_fn (exallT al r4 _ _ rfl) (Seals.refl _ _) qS ?_
  rintro _ _ _ ⟨rfl, rfl, rfl⟩
  refine lit_IL [2] rfl rfl (by decide) fun s7 => ?_
  refine call_fn (of7_meets s7 [2] (by decide) (by decide)) (Seals.refl _ _) qS ?_
  rintro r5 _ _ ⟨rfl, rfl⟩
  refine call_fn (exallT so r5 _ _ rfl) (Seals.refl _ _) qS ?_
  rintro _ _ _ ⟨rfl, rfl, rfl⟩
  refine cmp_true rfl rfl ?_
  refine cmp_true rfl rfl ?_
  refine cmp_true rfl rfl ?_
  refine cmp_true rfl rfl ?_
  refine cmp_true rfl rfl ?_
  exact fin ⟨rfl, rfl, rfl⟩ (Seals.nil _ _)
open Go.RowKit
theorem eq_bool {P : Program} {t : TypeId} [ht : TBool P t] {x y : Operand} {a b : Bool} {os : List Own} {fs : List Fact} {K : Cont} (h : a = b) (k : K (.bool true) os fs) : BinK P .eql t x y (.bool a) (.bool b) os fs K :=
  beq_split (fun _ => k) (fun g => absurd h g)
theorem store_seal {P : Program} {ty : TypeId} {x v : Value} {d : Dat} {size : Nat} {e : Nat → Dat} {os : List Own} {fs : List Fact} {K : Cont} (hb : isBox v)
    (hd : d.cells = size) (ht : (P.info? ty).map (·.size) = some size) (hx : Reads (own1 v size 1 e :: os) fs x d)
    (k' : K undef os ((v, .ptr d) :: fs)) : StoreK P ty v x (own1 v size 1 e :: os) fs K :=
  ⟨fun G w hw => ((store_box (K := fun u os' fs' => ∃ os'' fs'', Seals os' fs' os'' fs'' ∧ K u os'' fs'') 0 rfl hb hd ht hx ⟨_, _, Seals.box (os := own1 v size 1 (upd e 0 d) :: os) 0 rfl hb rfl, k'⟩).out G w hw).mono fun _ _ ⟨_, _, ⟨o2, f2, hs, hk⟩, hh⟩ => ⟨o2, f2, hk, hs _ _ hh⟩⟩
theorem tells7_meets (v w : Value) (c : Int) (p : Row) (m t y : Bool × List Nat) (n : Int) (x : Bool × List Nat) (hp : limR p) (hm : Lim m.2) (ht : Lim t.2) (hy : Lim y.2) (hn : inK .i64 n) (hx : Lim x.2) (hc : -128 ≤ c ∧ c < 128) :
    Meets Tryz.prog 3 [v, w, .int .i8 c] [(v, askD p m t y n), (w, J x)] (fun r os fs => os = [] ∧ fs = [] ∧ r = .bool true) := by
  refine meets_of_vc Tryz.func3 (by kernel_rfl) rfl (by kernel_rfl) (Nat.le_of_ble_eq_true rfl) ?_
  refine box_fact (Reads.fact (v := v) (d := askD p m t y n) qM) fun bq => ?_
  refine box_fact (Reads.fact (v := w) (d := J x) qM) fun bx => ?_
  refine call_fn (shown7_meets) (Seals.refl _ _) qS ?_
  rintro _ _ _ ⟨rfl, rfl, rfl⟩
  refine load_fact (p := bq) (d := askD p m t y n) qM (load_ask _ _ _ _ _) fun yf => ?_
  refine call_fn (fits7_meets yf p m t y n) (Seals.refl _ _) qS ?_
  rintro _ _ _ ⟨rfl, rfl, b, rfl, hb⟩
  cases b
  ·
    exact fin ⟨rfl, rfl, rfl⟩ (Seals.nil _ _)
  ·
    obtain ⟨h4, hm2, ht2, hy2⟩ := hb rfl
    have hf := h4.fit hp
    have lp := h4.1
    refine field_fact (p := bx) (off := 1) (d := J x) (d' := U x.2) qM (Part.right (Part.refl _)) fun a2 => ?_
    refine load_fact (p := a2) (d := U x.2) qM (load_L _) fun u1 => ?_
    refine len_fact (v := u1) (n := x.2.length) qM fun _ => ?_
    refine cmp_split _ rfl (fun hx2 => ?_) (fun hx2 => ?_)
    ·
      exact fin ⟨rfl, rfl, rfl⟩ (Seals.nil _ _)
    refine field_fact (p := bq) (d := askD p m t y n) qM (pt_n p m t y n) fun a1 => ?_
    refine load_one (p := a1) qM ?_
    refine cmp_split _ rfl (fun hn3 => ?_) (fun hn3 => ?_)
    ·
      exact fin ⟨rfl, rfl, rfl⟩ (Seals.nil _ _)
    have hci : inK .i64 c := by simp only [inK]; omega
    have e1 := fun z1 z2 z3 z4 => slzWithin_meets z1 z2 z3 z4 p m y x 2 2 hf (by omega) (by decide) hm hm2 hy hy2 hx (by omega) (by decide)
    have e2 := fun z1 z2 z3 z4 => rWithin17_meets z1 z2 z3 z4 p m y x 2 2 hf (by omega) (by decide) hm hm2 hy hy2 hx (by omega) (by decide)
    have e3 := slzShape_meets c n hci hn
    have e4 := rShape_meets c n hci hn
    have e5 := fun z1 z2 z3 z4 => slzMatrix_meets z1 z2 z3 z4 p m t y n 2 2 hf (by omega) (by decide) (by decide) hm hm2 ht ht2 hy hy2 (by decide) (by decide) hn
    have e6 := fun z1 z2 z3 z4 => rMatrix17_meets z1 z2 z3 z4 p m t y n 2 2 hf (by omega) (by decide) (by decide) hm hm2 ht ht2 hy hy2 (by decide) (by decide) hn (by omega)
    generalize withinR (vv p) (jv m) (jv y) (jv x) = W1 at *
    generalize shpR c n = S1 at *
    generalize matR (vv p) (jv m) (jv t) (jv y) n = M1 at *
    refine load_fact (p := bq) (d := askD p m t y n) qM (load_ask _ _ _ _ _) fun ya => ?_
    refine call_fn (own7_meets ya p m t y n h4 (by omega) (by omega) (by omega)) (Seals.refl _ _) qS ?_
    rintro yo _ _ ⟨rfl, rfl⟩
    refine alloc_rule (d := askZ) fun bo ho => ?_
    refine store_seal (d := askD p m t y n) ho rfl (by kernel_rfl) (Reads.fact (v := yo) qM) ?_
    refine field_fact (p := bo) (d := askD p m t y n) qM (pt_p p m t y n) fun a1 => ?_
    refine load_fact (p := a1) (d := V p) qM (load_P _) fun y1 => ?_
    refine field_fact (p := bo) (d := askD p m t y n) qM (pt_m p m t y n) fun a1 => ?_
    refine load_fact (p := a1) (d := J m) qM (load_J _) fun y2 => ?_
    refine field_fact (p := bo) (d := askD p m t y n) qM (pt_y p m t y n) fun a1 => ?_
    refine load_fact (p := a1) (d := J y) qM (load_J _) fun y3 => ?_
    refine load_fact (p := bx) (d := J x) qM (load_J _) fun y4 => ?_
    refine call_fn (e1 y1 y2 y3 y4) (Seals.refl _ _) qS ?_
    rintro _ _ _ ⟨rfl, rfl, rfl⟩
    refine field_fact (p := bq) (d := askD p m t y n) qM (pt_p p m t y n) fun a1 => ?_
    refine load_fact (p := a1) (d := V p) qM (load_P _) fun y5 => ?_
    refine field_fact (p := bq) (d := askD p m t y n) qM (pt_m p m t y n) fun a1 => ?_
    refine load_fact (p := a1) (d := J m) qM (load_J _) fun y6 => ?_
    refine field_fact (p := bq) (d := askD p m t y n) qM (pt_y p m t y n) fun a1 => ?_
    refine load_fact (p := a1) (d := J y) qM (load_J _) fun y7 => ?_
    refine load_fact (p := bx) (d := J x) qM (load_J _) fun y8 => ?_
    refine call_fn (e2 y5 y6 y7 y8) (Seals.refl _ _) qS ?_
    rintro _ _ _ ⟨rfl, rfl, rfl⟩
    refine conv_int ⟨_, Tryz.underlying29⟩ Tryz.underlying3 c (wrap_in hci) ?_
    refine field_fact (p := bq) (d := askD p m t y n) qM (pt_n p m t y n) fun a1 => ?_
    refine load_one (p := a1) qM ?_
    refine call_fn (e3) (Seals.refl _ _) qS ?_
    rintro _ _ _ ⟨rfl, s1, rfl, rfl⟩
    refine conv_int ⟨_, Tryz.underlying29⟩ Tryz.underlying3 c (wrap_in hci) ?_
    refine field_fact (p := bq) (d := askD p m t y n) qM (pt_n p m t y n) fun a1 => ?_
    refine load_one (p := a1) qM ?_
    refine call_fn (e4) (Seals.refl _ _) qS ?_
    rintro _ _ _ ⟨rfl, s2, rfl, rfl⟩
    refine field_fact (p := bo) (d := askD p m t y n) qM (pt_p p m t y n) fun a1 => ?_
    refine load_fact (p := a1) (d := V p) qM (load_P _) fun y9 => ?_
    refine field_fact (p := bo) (d := askD p m t y n) qM (pt_m p m t y n) fun a1 => ?_
    refine load_fact (p := a1) (d := J m) qM (load_J _) fun y10 => ?_
    refine field_fact (p := bo) (d := askD p m t y n) qM (pt_t p m t y n) fun a1 => ?_
    refine load_fact (p := a1) (d := J t) qM (load_J _) fun y11 => ?_
    refine field_fact (p := bo) (d := askD p m t y n) qM (pt_y p m t y n) fun a1 => ?_
    refine load_fact (p := a1) (d := J y) qM (load_J _) fun y12 => ?_
    refine field_fact (p := bo) (d := askD p m t y n) qM (pt_n p m t y n) fun a1 => ?_
    refine load_one (p := a1) qM ?_
    refine call_fn (e5 y9 y10 y11 y12) (Seals.refl _ _) qS ?_
    rintro _ _ _ ⟨rfl, m1, rfl, rfl⟩
    refine field_fact (p := bq) (d := askD p m t y n) qM (pt_p p m t y n) fun a1 => ?_
    refine load_fact (p := a1) (d := V p) qM (load_P _) fun y13 => ?_
    refine field_fact (p := bq) (d := askD p m t y n) qM (pt_m p m t y n) fun a1 => ?_
    refine load_fact (p := a1) (d := J m) qM (load_J _) fun y14 => ?_
    refine field_fact (p := bq) (d := askD p m t y n) qM (pt_t p m t y n) fun a1 => ?_
    refine load_fact (p := a1) (d := J t) qM (load_J _) fun y15 => ?_
    refine field_fact (p := bq) (d := askD p m t y n) qM (pt_y p m t y n) fun a1 => ?_
    refine load_fact (p := a1) (d := J y) qM (load_J _) fun y16 => ?_
    refine field_fact (p := bq) (d := askD p m t y n) qM (pt_n p m t y n) fun a1 => ?_
    refine load_one (p := a1) qM ?_
    refine call_fn (e6 y13 y14 y15 y16) (Seals.refl _ _) qS ?_
    rintro _ _ _ ⟨rfl, m2, rfl, rfl⟩
    refine eq_bool rfl ?_
    refine cmp_true rfl rfl ?_
    refine call_fn (shapeT s1 s2 _ _ rfl) (Seals.refl _ _) qS ?_
    rintro _ _ _ ⟨rfl, rfl, rfl⟩
    refine cmp_true rfl rfl ?_
    refine call_fn (rowsT m1 m2 _ _ rfl) (Seals.refl _ _) qS ?_
    rintro _ _ _ ⟨rfl, rfl, rfl⟩
    refine cmp_true rfl rfl ?_
    refine load_fact (p := bq) (d := askD p m t y n) qM (load_ask _ _ _ _ _) fun y17 => ?_
    refine load_fact (p := bo) (d := askD p m t y n) qM (load_ask _ _ _ _ _) fun y18 => ?_
    refine call_fn (kept7_meets y17 y18 p m t y n) (Seals.refl _ _) qS ?_
    rintro _ _ _ ⟨rfl, rfl, rfl⟩
    exact fin ⟨rfl, rfl, rfl⟩ (Seals.nil _ _)
end Go.Proofs.YtjebljkoiaojaaaGreat
namespace Go.Proofs.YtjebljkoiaojaaaGreat
open Go.ChangeShapes Go.WideShapes Go.ChangeAt Go.RowKit
open Go.Joins (open_agg2)
set_option maxRecDepth 100000 in
theorem slzTells_lifted (os : Os) (started : os.Started) (H : Type) (enc : TypeId × Value → H) :
    ReturnsInHanded {} Tryz.checked os 3 .any (Rows.slzTellsSpec.pre6 enc Tryz.prog Tryz.f3 Rows.slzTellsRow.domain false) (Rows.slzTellsSpec.post enc Tryz.prog Tryz.f3 false true false false) := by
  refine returnsInHanded_of_change (C := Tryz.checked) own0 started (by kernel_rfl) Tryz.func3
    (ChangeSpec.witness6 (enc := enc) (C := Tryz.checked) false ⟨#[], #[.agg #[.slice none 0 0, .bool false, .slice none 0 0, .bool false, .slice none 0 0, .bool false, .slice none 0 0, .int .i64 0], .agg #[.bool false, .slice none 0 0], .int .i8 0], []⟩ 8 (by kernel_rfl) (by kernel_rfl) (by kernel_rfl) (by kernel_rfl)) ?_
  intro Wd base args ds gs before hval0 hW hcnd _
  have hval : ∀ (j : Nat) t v, Tryz.f3.params[j]? = some t → args[j]? = some v → Value.okWide Tryz.prog Wd .any base t v := hval0
  have hW' := hW
  obtain ⟨p, q, hA0, hV, rfl, hfz, hnd⟩ := hW
  have hA : DataW.TrodAll enc Tryz.prog Wd 0 (fun _ => true) true Tryz.f3.params.toList args.toList ds p := hA0
  rw [Tryz.params3] at hA hval
  obtain ⟨v0, vs0, d0, ds0, p0, q0, hargs, rfl, rfl, h0, r0⟩ := trodAll_cons hA
  obtain ⟨v1, vs1, d1, ds1, p1, q1, rfl, rfl, rfl, h1, r1⟩ := trodAll_cons r0
  obtain ⟨v2, vs2, d2, ds2, p2, q2, rfl, rfl, rfl, h2, r2⟩ := trodAll_cons r1
  obtain ⟨rfl, rfl, rfl⟩ := trodAll_nil r2
  obtain rfl : args = #[v0, v1, v2] := by cases args; simp_all
  obtain ⟨rfl, rfl⟩ := trodVars_none hV
  have k0 := h0
  have lt0 : ∀ x ∈ p0, x.block < Wd.heap.size := by obtain ⟨m, hm⟩ := k0; exact DataW.trod_lt m _ _ _ hm
  obtain ⟨aP0, aM0, aT0, aY0, aN0, ⟨lP0, lM0, lT0, lY0, lN0⟩, rd0⟩ := rd_ask (hval 0 28 v0 rfl rfl) h0
  have k1 := h1
  have lt1 : ∀ x ∈ p1, x.block < Wd.heap.size := by obtain ⟨m, hm⟩ := k1; exact DataW.trod_lt m _ _ _ hm
  obtain ⟨m1, lm1, rd1⟩ : ∃ m : Bool × List Nat, Lim m.2 ∧ Rd (fun b => b < Wd.heap.size) Wd v1 (J m) := rd_arg (hval 1 26 v1 rfl rfl) h1
  obtain ⟨x2, rfl, rfl, rfl, w2⟩ := open_int Tryz.underlying29 (hval 2 29 v2 rfl rfl) h2
  clear hA0 hval0
  refine (calls_of_meets (w := Wd) (tells7_meets v0 v1 x2 aP0 aM0 aT0 aY0 aN0 m1 lP0 lM0 lT0 lY0 lN0 lm1 (i8_of w2)) ?_).mono fun e W2 ⟨he, bel⟩ => ?_
  · intro F hF
    simp only [List.mem_cons, List.not_mem_nil, or_false] at hF
    rcases hF with rfl | rfl
    · exact rd0
    · exact rd1
  subst he
  exact ⟨_, rfl, _, _, _, [], _, [], hW', trodAll_mk1 (shut_bool Tryz.underlying4 _), (trodAll_cons_mk (Below.trod laid0 (by kernel_rfl) (of_decide_eq_true (by kernel_rfl)) k0 bel lt0) (trodAll_cons_mk (Below.trod laid0 (by kernel_rfl) (of_decide_eq_true (by kernel_rfl)) k1 bel lt1) (trodAll_cons_mk (shut_int Tryz.underlying29 w2) trodAll_mk0))), rfl, bel.frame _, fun h => by cases h⟩
theorem slzTells_holds : Rows.SlzTellsSaid :=
  OpenClaim.holds_of_wide 3 Tryz.f3 rfl rfl rfl rfl rfl rfl rfl ⟨rfl, rfl, rfl, rfl, rfl⟩ rfl rfl rfl rfl rfl (by kernel_rfl) Tryz.func3 (by kernel_rfl)
    (of_decide_eq_true (by kernel_rfl)) (by unfold Func.isWrapper; first | (rw [if_pos (by decide +kernel)]; kernel_rfl) | (rw [if_neg (by decide +kernel)]; exact ⟨rfl, rfl⟩))
    (fun os started H enc _ => slzTells_lifted os started H enc)
#print axioms slzTells_holds
end Go.Proofs.YtjebljkoiaojaaaGreat
