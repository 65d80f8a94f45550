/- The law GridEliminates is true of each input, and changes none. No condition. -/
import Derived.Test.YtfkeohlpcjpkbaaM4
import Derived.Test.YtfkeohlpcjpkbaaRows
import Derived.OpenShut
import Derived.Below
import Derived.Lib.SmallJoins
set_option linter.unusedVariables false
set_option linter.unusedSimpArgs false

namespace Go.Proofs.Ytfkeohlpcjpkbaa
open Go.RowKit
theorem gExact_meets (v w : Value) (a b : List Row) :
    Meets Try.prog 49 [v, w] [(v, W a), (w, W b)] (fun r os fs => os = [] ∧ fs = [] ∧ r = .bool (decide (a = b))) := by
  refine meets_of_vc Try.func49 (by kernel_rfl) rfl (by kernel_rfl) (Nat.le_of_ble_eq_true rfl) ?_
  refine len_fact (by repeat (first | exact List.Mem.head _ | apply List.Mem.tail)) fun _ => ?_
  refine len_fact (by repeat (first | exact List.Mem.head _ | apply List.Mem.tail)) fun _ => ?_
  refine cmp_split _ rfl (fun hl => ?_) (fun hl => ?_)
  · exact fin ⟨rfl, rfl, congrArg Value.bool (decide_eq_false (fun e => hl (by rw [e]))).symm⟩ (Seals.nil _ _)
  · have hl' : a.length = b.length := by omega
    refine loop_rule (X := Nat) (fun i => ([(0, v), (1, w), (5, .int .i64 (i : Nat))], [], [(v, W a), (w, W b)]))
      (fun i => i ≤ a.length ∧ ∀ k, k < i → a.getD k [] = b.getD k []) (fun i => a.length - i) rfl ?_ ?_
    · exact again 0 ⟨Nat.zero_le _, fun k hk => absurd hk (Nat.not_lt_zero _)⟩ trivial (by repeat (first | exact trivial | refine ⟨rfl, ?_⟩ | refine ⟨i64_eq (by first | omega | (simp only; omega)), ?_⟩ | refine ⟨u64_eq (by first | omega | (simp only; omega)), ?_⟩)) (Seals.sub (by repeat (first | exact Sub.nil _ | refine Sub.cons (by repeat (first | exact List.Mem.head _ | apply List.Mem.tail)) ?_)))
    · rintro i ⟨h1, h2⟩
      refine len_fact (by repeat (first | exact List.Mem.head _ | apply List.Mem.tail)) fun _ => ?_
      refine cmp_split _ rfl (fun hi => ?_) (fun hi => ?_)
      · refine draw_rule [0, 1, 2, 3, 4, 5, 6, 7, 8, 9] [0, 1, 2, 3, 4, 5, 6, 7, 8, 9] (by kernel_rfl) (by kernel_rfl) ?_
        refine index_fact (by repeat (first | exact List.Mem.head _ | apply List.Mem.tail)) i rfl (by omega) fun a1 => ?_
        refine load_fact (d := V (a.getD i [])) (by repeat (first | exact List.Mem.head _ | apply List.Mem.tail)) (load_V _) fun x1 => ?_
        refine index_fact (by repeat (first | exact List.Mem.head _ | apply List.Mem.tail)) i rfl (by omega) fun a2 => ?_
        refine load_fact (d := V (b.getD i [])) (by repeat (first | exact List.Mem.head _ | apply List.Mem.tail)) (load_V _) fun x2 => ?_
        refine call_fn (exactAll_meets x1 x2 (a.getD i []) (b.getD i [])) (Seals.refl _ _) (by repeat (first | exact Sub.nil _ | refine Sub.cons (by repeat (first | exact List.Mem.head _ | apply List.Mem.tail)) ?_)) ?_
        rintro _ _ _ ⟨rfl, rfl, rfl⟩
        by_cases he : a.getD i [] = b.getD i []
        · rw [decide_eq_true he]
          refine ar rfl (by first | exact ⟨by omega, by omega⟩ | (simp only [inK]; omega)) ?_
          refine again (i + 1) ⟨by omega, fun k hk => ?_⟩ (by simp only; omega) (by repeat (first | exact trivial | refine ⟨rfl, ?_⟩ | refine ⟨i64_eq (by first | omega | (simp only; omega)), ?_⟩ | refine ⟨u64_eq (by first | omega | (simp only; omega)), ?_⟩)) (Seals.sub (by repeat (first | exact Sub.nil _ | refine Sub.cons (by repeat (first | exact List.Mem.head _ | apply List.Mem.tail)) ?_)))
          by_cases hki : k = i
          · subst hki; exact he
          · exact h2 k (by omega)
        · rw [decide_eq_false he]
          exact fin ⟨rfl, rfl, congrArg Value.bool (decide_eq_false (fun e => he (by rw [e]))).symm⟩ (Seals.nil _ _)
      · exact fin ⟨rfl, rfl, congrArg Value.bool (decide_eq_true (row_eq_of_getD [] hl' fun k hk => h2 k (by omega))).symm⟩ (Seals.nil _ _)
theorem gFits_meets (v : Value) (m : List Row) (n k c : Nat) :
    Meets Try.prog 10 [v, .int .i64 (n : Int), .int .i64 (k : Int), .int .i64 (c : Int)] [(v, W m)] (fun r os fs => os = [] ∧ fs = [] ∧ r = .bool (decide (small n k c m))) := by
  refine meets_of_vc Try.func10 (by kernel_rfl) rfl (by kernel_rfl) (Nat.le_of_ble_eq_true rfl) ?_
  refine len_fact (by repeat (first | exact List.Mem.head _ | apply List.Mem.tail)) fun _ => ?_
  refine cmp_split _ rfl (fun hl => ?_) (fun hl => ?_)
  · exact fin ⟨rfl, rfl, congrArg Value.bool (decide_eq_false (fun e => by have := e.1; omega)).symm⟩ (Seals.nil _ _)
  · refine loop_rule (X := Nat) (fun i => ([(0, v), (2, .int .i64 (k : Nat)), (3, .int .i64 (c : Nat)), (9, .int .i64 (i : Nat))], [], [(v, W m)]))
      (fun i => i ≤ m.length ∧ ∀ j, j < i → (m.getD j []).length ≤ k ∧ ∀ x, x ∈ m.getD j [] → x.2.length ≤ c) (fun i => m.length - i) rfl ?_ ?_
    · exact again 0 ⟨Nat.zero_le _, fun k hk => absurd hk (Nat.not_lt_zero _)⟩ trivial (by repeat (first | exact trivial | refine ⟨rfl, ?_⟩ | refine ⟨i64_eq (by first | omega | (simp only; omega)), ?_⟩ | refine ⟨u64_eq (by first | omega | (simp only; omega)), ?_⟩)) (Seals.sub (by repeat (first | exact Sub.nil _ | refine Sub.cons (by repeat (first | exact List.Mem.head _ | apply List.Mem.tail)) ?_)))
    · rintro i ⟨h1, h2⟩
      refine len_fact (by repeat (first | exact List.Mem.head _ | apply List.Mem.tail)) fun _ => ?_
      refine cmp_split _ rfl (fun hi => ?_) (fun hi => ?_)
      · have hlt : i < m.length := by omega
        refine index_fact (by repeat (first | exact List.Mem.head _ | apply List.Mem.tail)) i rfl hlt fun a1 => ?_
        refine load_fact (d := V (m.getD i [])) (by repeat (first | exact List.Mem.head _ | apply List.Mem.tail)) (load_V _) fun x1 => ?_
        refine call_fn (rFits_meets x1 (m.getD i []) k c) (Seals.refl _ _) (by repeat (first | exact Sub.nil _ | refine Sub.cons (by repeat (first | exact List.Mem.head _ | apply List.Mem.tail)) ?_)) ?_
        rintro _ _ _ ⟨rfl, rfl, rfl⟩
        by_cases he : (m.getD i []).length ≤ k ∧ ∀ x, x ∈ m.getD i [] → x.2.length ≤ c
        · rw [decide_eq_true he]
          refine ar rfl (by first | exact ⟨by omega, by omega⟩ | (simp only [inK]; omega)) ?_
          refine again (i + 1) ⟨by omega, fun j hj => ?_⟩ (by simp only; omega) (by repeat (first | exact trivial | refine ⟨rfl, ?_⟩ | refine ⟨i64_eq (by first | omega | (simp only; omega)), ?_⟩ | refine ⟨u64_eq (by first | omega | (simp only; omega)), ?_⟩)) (Seals.sub (by repeat (first | exact Sub.nil _ | refine Sub.cons (by repeat (first | exact List.Mem.head _ | apply List.Mem.tail)) ?_)))
          by_cases hji : j = i
          · subst hji; exact he
          · exact h2 j (by omega)
        · rw [decide_eq_false he]
          exact fin ⟨rfl, rfl, congrArg Value.bool (decide_eq_false (fun e => he (e.2 _ (getD_mem [] hlt)))).symm⟩ (Seals.nil _ _)
      · exact fin ⟨rfl, rfl, congrArg Value.bool (decide_eq_true (⟨by omega, fun r hr => by obtain ⟨j, hj, rfl⟩ := mem_getD [] hr; exact h2 j (by omega)⟩ : small n k c m)).symm⟩ (Seals.nil _ _)
theorem gOwn_meets (v : Value) (m : List Row) (ll : m.length ≤ 274877906944) (hk : ∀ r, r ∈ m → r.length ≤ 274877906944 ∧ ∀ x, x ∈ r → x.2.length ≤ 1099511627776) :
    Meets Try.prog 11 [v] [(v, W m)] (fun r os fs => os = [] ∧ fs = [(r, W m)]) := by
  refine meets_of_vc Try.func11 (by kernel_rfl) rfl (by kernel_rfl) (Nat.le_of_ble_eq_true rfl) ?_
  refine empty_L V [] (by decide) fun w hw => ?_
  refine loop_rule (X := Nat × Value) (fun x => ([(0, v), (3, x.2), (4, .int .i64 (x.1 : Nat))], [ownL 1 V [] x.2 (m.take x.1)], [(v, W m)])) (fun x => x.1 ≤ m.length ∧ isSl x.2) (fun x => m.length - x.1) rfl ?_ ?_
  · exact again (0, w) ⟨Nat.zero_le _, hw⟩ trivial (by repeat (first | exact trivial | refine ⟨rfl, ?_⟩ | refine ⟨i64_eq (by first | omega | (simp only; omega)), ?_⟩ | refine ⟨u64_eq (by first | omega | (simp only; omega)), ?_⟩)) (by simp only [List.take_zero]; exact Seals.sub (by repeat (first | exact Sub.nil _ | refine Sub.cons (by repeat (first | exact List.Mem.head _ | apply List.Mem.tail)) ?_)))
  · rintro ⟨i, w⟩ ⟨h1, hw⟩
    simp only at h1 hw ⊢
    refine len_fact (by repeat (first | exact List.Mem.head _ | apply List.Mem.tail)) fun _ => ?_
    refine cmp_split _ rfl (fun hi => ?_) (fun hi => ?_)
    · have hlt : i < m.length := by omega
      have hr := hk _ (getD_mem [] hlt)
      refine index_fact (by repeat (first | exact List.Mem.head _ | apply List.Mem.tail)) i rfl hlt fun a1 => ?_
      refine load_fact (d := V (m.getD i [])) (by repeat (first | exact List.Mem.head _ | apply List.Mem.tail)) (load_V _) fun x1 => ?_
      refine call_fn (rOwn_meets x1 (m.getD i []) hr.1 hr.2) (Seals.refl _ _) (by repeat (first | exact Sub.nil _ | refine Sub.cons (by repeat (first | exact List.Mem.head _ | apply List.Mem.tail)) ?_)) ?_
      rintro x2 _ _ ⟨rfl, hx2, rfl⟩
      refine BuildSliceK.pre (Seals.L 0 rfl hx2) ?_
      refine lit_L (size := 1) V [] (m.getD i []) (by decide) (Reads.fact (d := V (m.getD i [])) (by repeat (first | exact List.Mem.head _ | apply List.Mem.tail))) rfl fun l1 => ?_
      refine append_L 0 rfl hw (Knw.fact (by repeat (first | exact List.Mem.head _ | apply List.Mem.tail))) (by simp; omega) (by simp; omega) fun w2 hw2 => ?_
      refine ar rfl (by first | exact ⟨by omega, by omega⟩ | (simp only [inK]; omega)) ?_
      refine again (i + 1, w2) ⟨by simp only; omega, hw2⟩ (by simp only; omega) (by repeat (first | exact trivial | refine ⟨rfl, ?_⟩ | refine ⟨i64_eq (by first | omega | (simp only; omega)), ?_⟩ | refine ⟨u64_eq (by first | omega | (simp only; omega)), ?_⟩)) ?_
      simp only [take_snoc' [] hlt]
      exact Seals.sub (by repeat (first | exact Sub.nil _ | refine Sub.cons (by repeat (first | exact List.Mem.head _ | apply List.Mem.tail)) ?_))
    · have hia : i = m.length := by omega
      refine fin ⟨rfl, rfl⟩ (Seals.trans (Seals.L 0 rfl hw) ?_)
      rw [hia, List.take_length]
      exact Seals.sub (by repeat (first | exact Sub.nil _ | refine Sub.cons (by repeat (first | exact List.Mem.head _ | apply List.Mem.tail)) ?_))
theorem grow12_meets (v : Value) (l : List Int) (hl : l.length ≤ 1000) (hz : ∀ x, x ∈ l → -9223372036854775808 ≤ x ∧ x < 9223372036854775808) :
    Meets Try.prog 33 [v] [(v, IL l)] (fun r os fs => os = [] ∧ fs = [(r, vd l)]) := by
  have hfin : lst l.length (fun i => l.getD i 0) = l := by
    have := lst_map l fun x => x
    rw [List.map_id'] at this
    exact this
  have hg : ∀ i, i < l.length → -9223372036854775808 ≤ l.getD i 0 ∧ l.getD i 0 < 9223372036854775808 := fun i hi => hz _ (getD_mem 0 hi)
  refine meets_of_vc Try.func33 (by kernel_rfl) rfl (by kernel_rfl) (Nat.le_of_ble_eq_true rfl) ?_
  refine empty_L (size := 2) (e := 39) J z0 (by decide) fun v0 hv0 => ?_
  refine loop_rule (X := Value × Nat) (fun x => ([(0, v), (3, x.1), (4, .int .i64 (x.2 : Nat))], [ownL 2 J z0 x.1 ((lst x.2 fun i => l.getD i 0).map cn)], [(v, IL l)])) (fun x => isSl x.1 ∧ x.2 ≤ l.length) (fun x => l.length - x.2) rfl ?_ ?_
  · exact again (v0, 0) ⟨hv0, Nat.zero_le _⟩ trivial (by repeat (first | exact trivial | refine ⟨rfl, ?_⟩ | refine ⟨i64_eq (by first | omega | (simp only; omega)), ?_⟩ | refine ⟨u64_eq (by first | omega | (simp only; omega)), ?_⟩)) (Seals.sub (by repeat (first | exact Sub.nil _ | refine Sub.cons (by repeat (first | exact List.Mem.head _ | apply List.Mem.tail)) ?_)))
  · rintro ⟨vo, i⟩ ⟨hvo, h2⟩
    simp only at hvo h2 ⊢
    refine len_fact (by repeat (first | exact List.Mem.head _ | apply List.Mem.tail)) fun _ => ?_
    refine cmp_split _ rfl (fun hlt => ?_) (fun hlt => ?_)
    · have hin : i < l.length := by omega
      have hll : (lst i fun i => l.getD i 0).length = i := lst_len _ _
      refine index_fact (by repeat (first | exact List.Mem.head _ | apply List.Mem.tail)) i rfl hin fun a1 => ?_
      refine load_one (by repeat (first | exact List.Mem.head _ | apply List.Mem.tail)) ?_
      refine call_fn (rOf_meets (l.getD i 0) (hg i hin).1 (hg i hin).2) (Seals.refl _ _) (by repeat (first | exact Sub.nil _ | refine Sub.cons (by repeat (first | exact List.Mem.head _ | apply List.Mem.tail)) ?_)) ?_
      rintro y _ _ ⟨rfl, rfl⟩
      refine lit_L (size := 2) (f := J) (z := z0) (e := 39) (cn (l.getD i 0)) (by decide) (Reads.fact (by repeat (first | exact List.Mem.head _ | apply List.Mem.tail))) rfl fun y4 => ?_
      refine append_L (size := 2) (e := 39) (f := J) (z := z0) (l := (lst i fun i => l.getD i 0).map cn) (m := [cn (l.getD i 0)]) 0 rfl hvo (Knw.fact (by repeat (first | exact List.Mem.head _ | apply List.Mem.tail))) (by simp only [List.length_map, hll, List.length_cons, List.length_nil]; omega) (by simp only [List.length_map, hll, List.length_cons, List.length_nil]; omega) fun vn hvn => ?_
      refine ar rfl (by first | exact ⟨by omega, by omega⟩ | (simp only [inK]; omega)) ?_
      refine again (vn, i + 1) ⟨hvn, by simp only; omega⟩ (by simp only; omega) (by repeat (first | exact trivial | refine ⟨rfl, ?_⟩ | refine ⟨i64_eq (by first | omega | (simp only; omega)), ?_⟩ | refine ⟨u64_eq (by first | omega | (simp only; omega)), ?_⟩)) ?_
      rw [show (lst i fun i => l.getD i 0).map cn ++ [cn (l.getD i 0)] = (lst (i + 1) fun i => l.getD i 0).map cn by rw [lst_snoc, List.map_append]; rfl]
      exact Seals.sub (by repeat (first | exact Sub.nil _ | refine Sub.cons (by repeat (first | exact List.Mem.head _ | apply List.Mem.tail)) ?_))
    · have hii : i = l.length := by omega
      subst hii
      refine fin ⟨rfl, rfl⟩ (Seals.trans (Seals.toldL hvo) ?_)
      rw [hfin]
      exact Seals.sub (by repeat (first | exact Sub.nil _ | refine Sub.cons (by repeat (first | exact List.Mem.head _ | apply List.Mem.tail)) ?_))
theorem gsame_meets (v w : Value) (a b : List Row) :
    Meets Try.prog 15 [v, w] [(v, W a), (w, W b)] (fun r os fs => os = [] ∧ fs = [] ∧ r = .bool (decide (a = b))) := by
  refine meets_of_vc Try.func15 (by kernel_rfl) rfl (by kernel_rfl) (Nat.le_of_ble_eq_true rfl) ?_
  refine call_fn (gExact_meets v w a b) (Seals.refl _ _) (by repeat (first | exact Sub.nil _ | refine Sub.cons (by repeat (first | exact List.Mem.head _ | apply List.Mem.tail)) ?_)) ?_
  rintro _ _ _ ⟨rfl, rfl, rfl⟩
  exact fin ⟨rfl, rfl, rfl⟩ (Seals.nil _ _)
/-- Two told grids that are the same. -/
theorem gsameT (v w : Value) (x y : List (List Int)) (h : x = y) :
    Meets Try.prog 15 [v, w] [(v, wd x), (w, wd y)] (fun r os fs => os = [] ∧ fs = [] ∧ r = .bool true) := by
  have := gsame_meets v w (x.map (·.map cn)) (y.map (·.map cn))
  rw [decide_eq_true (by rw [h])] at this
  exact this
theorem gsameV (v w : Value) (x : List Row) :
    Meets Try.prog 15 [v, w] [(v, W x), (w, W x)] (fun r os fs => os = [] ∧ fs = [] ∧ r = .bool true) := by
  have := gsame_meets v w x x
  rw [decide_eq_true rfl] at this
  exact this
end Go.Proofs.Ytfkeohlpcjpkbaa

namespace Go.Proofs.Ytfkeohlpcjpkbaa
open Go.RowKit
abbrev toW (G : List (List Int)) : List Row := G.map (·.map cn)
theorem ww_toW (G : List (List Int)) : ww (toW G) = G := by
  unfold ww
  rw [List.map_map]
  conv => rhs; rw [← List.map_id G]
  exact List.map_congr_left fun r _ => vv_cn r
theorem gmuE_gn (g h : List Row) : Gn (gmuE g h) := by
  unfold gmuE; split
  · exact ⟨rfl, fun r hr => by simp at hr⟩
  · exact gof_gn _ _ _
/-- The product. -/
def gmu (G H : List (List Int)) : List (List Int) := gmuE (toW G) (toW H)
theorem gmu_gn (G H : List (List Int)) : Gn (gmu G H) := gmuE_gn _ _
theorem gev_gmu (G H : List (List Int)) (x y : Int) : gev (gmu G H) x y = gev G x y * gev H x y := by
  rw [gmu, gev_gmuE, ww_toW, ww_toW]
theorem gmuE_eq (g h : List Row) : gmuE g h = gmu (ww g) (ww h) := (gmuE_gn _ _).ev_ext (gmu_gn _ _) fun x y => by rw [gev_gmuE, gev_gmu]
/-- A grid's rows, what they stand for, limbs and lengths. -/
structure Lg (A : List Row) (G : List (List Int)) (k n : Nat) : Prop where
  val : ww A = G
  len : A.length ≤ n
  row : ∀ r, r ∈ A → r.length ≤ n ∧ Fit k r
theorem Lg.raw {n k : Nat} {m : List Row} (h : small n n k m) (hl : limM m) : Lg m (ww m) k n := ⟨rfl, h.1, fun r hr => ⟨(h.2 r hr).1, fun x hx => ⟨hl r hr x hx, (h.2 r hr).2 x hx⟩⟩⟩
theorem Lg.told {G : List (List Int)} {k n : Nat} (h : G.length ≤ n) (hr : ∀ r, r ∈ G → r.length ≤ n ∧ szR k r) : Lg (toW G) G k n :=
  ⟨ww_toW G, by rw [List.length_map]; exact h, fun r hr' => by
    obtain ⟨l, hl, rfl⟩ := List.mem_map.1 hr'
    exact ⟨by rw [List.length_map]; exact (hr l hl).1, (hr l hl).2.fit⟩⟩
section
variable {A B : List Row} {G H : List (List Int)} {k j n n' : Nat}
theorem Lg.mono (h : Lg A G k n) (hk : k ≤ j) (hn : n ≤ n') : Lg A G j n' := ⟨h.val, Nat.le_trans h.len hn, fun r hr => ⟨Nat.le_trans (h.row r hr).1 hn, (h.row r hr).2.mono hk⟩⟩
theorem Lg.gf (h : Lg A G k n) (hk : k ≤ j) (hn : n ≤ 1048576) : Gf j A := ⟨Nat.le_trans h.len hn, fun r hr => ⟨Nat.le_trans (h.row r hr).1 hn, (h.row r hr).2.mono hk⟩⟩
theorem Lg.gs (h : Lg A G k n) (hn : n ≤ 1024) : Gs k A := ⟨Nat.le_trans h.len hn, fun r hr => ⟨Nat.le_trans (h.row r hr).1 hn, (h.row r hr).2⟩⟩
theorem Lg.ll (h : Lg A G k n) : G.length ≤ n := by rw [← h.val, ww_len]; exact h.len
theorem Lg.g (h : Lg A G k n) (i : Nat) : szR k (G.getD i []) ∧ (G.getD i []).length ≤ n := by
  rw [← h.val, ww_get]
  by_cases hi : i < A.length
  · have := h.row _ (getD_mem [] hi)
    exact ⟨this.2.szR, by rw [vv_len]; exact this.1⟩
  · rw [getD_end (l := A) (by omega)]
    exact ⟨fun x hx => by simp [vv] at hx, Nat.zero_le _⟩
theorem Lg.gv (h : Lg A G k n) (i j : Nat) : sz (Go.Proofs.Ytfkeohlpcjpkbaa.gv G i j) k := (h.g i).1.get j
theorem Lg.dx (h : Lg A G k n) : gdx G ≤ n := Nat.le_trans (gdxN_le _ _) h.ll
theorem Lg.dy (h : Lg A G k n) : gdy G ≤ n := gdyN_le (fun i => Nat.le_trans (dg_le_len _) (h.g i).2) _
theorem Lg.of_gtr {E : List (List Int)} (h : E.length ≤ n) (hr : ∀ r, r ∈ E → r.length ≤ n ∧ szR k r) : Lg (toW (gtr E)) (gtr E) k n :=
  Lg.told (Nat.le_trans (gtr_len _) h) fun r hr' => hr r (gtr_mem hr')
theorem Lg.gof {F : Nat → Nat → Int} {a c : Nat} (hF : ∀ i j, sz (F i j) k) (ha : a ≤ n) (hc : c ≤ n) : Lg (toW (gof F a c)) (Go.Proofs.Ytfkeohlpcjpkbaa.gof F a c) k n :=
  Lg.of_gtr (by simpa using ha) fun r hr => by
    obtain ⟨i, _, rfl⟩ := List.mem_map.1 hr
    exact ⟨Nat.le_trans (nrm_length_le _) (by rw [lst_len]; exact hc), szR.nrm (szR.lst fun j _ => hF i j)⟩
theorem Lg.gn (h : Lg A G k n) : Lg (toW (gn G)) (Go.Proofs.Ytfkeohlpcjpkbaa.gn G) k n := Lg.of_gtr (by rw [List.length_map]; exact h.ll) fun r hr => by
  obtain ⟨p, hp, rfl⟩ := List.mem_map.1 hr
  obtain ⟨i, hi, rfl⟩ := mem_getD [] hp
  exact ⟨Nat.le_trans (nrm_length_le _) (h.g i).2, (h.g i).1.nrm⟩
theorem Lg.zr {f : List Int → List Int → List Int} (h : Lg A G k n) (h' : Lg B H k n) (hf : ∀ l m, szR k l → szR k m → l.length ≤ n → m.length ≤ n → szR j (f l m) ∧ (f l m).length ≤ n) :
    Lg (toW (Go.Proofs.Ytfkeohlpcjpkbaa.gn (zrow f G H (max G.length H.length)))) (Go.Proofs.Ytfkeohlpcjpkbaa.gn (zrow f G H (max G.length H.length))) j n := Lg.of_gtr (by rw [List.length_map, zrow_len]; exact Nat.max_le.2 ⟨h.ll, h'.ll⟩) fun r hr => by
  obtain ⟨p, hp, rfl⟩ := List.mem_map.1 hr
  obtain ⟨i, _, rfl⟩ := List.mem_map.1 hp
  have := hf _ _ (h.g i).1 (h'.g i).1 (h.g i).2 (h'.g i).2
  exact ⟨Nat.le_trans (nrm_length_le _) this.2, this.1.nrm⟩
theorem Lg.add (h : Lg A G k n) (h' : Lg B H k n) : Lg (toW (gadd G H)) (gadd G H) (k + 1) n := h.zr h' fun _ _ a b c d => ⟨a.padd b, Nat.le_trans (padd_len _ _) (Nat.max_le.2 ⟨c, d⟩)⟩
theorem Lg.sub (h : Lg A G k n) (h' : Lg B H k n) : Lg (toW (gsub G H)) (gsub G H) (k + 1) n := h.zr h' fun _ _ a b c d => ⟨a.psub b, Nat.le_trans (psub_len _ _) (Nat.max_le.2 ⟨c, d⟩)⟩
theorem Lg.tu (h : Lg A G k n) : Lg (toW (gtu G)) (gtu G) k n := Lg.gof (fun i j => h.gv j i) h.dy h.dx
theorem Lg.toW (h : Lg A G k n) : Lg (Go.Proofs.Ytfkeohlpcjpkbaa.toW G) G k n := Lg.told h.ll fun r hr => by
  obtain ⟨i, hi, rfl⟩ := mem_getD [] hr
  exact ⟨(h.g i).2, (h.g i).1⟩
theorem Lg.mul (h : Lg A G k n) (h' : Lg B H j n') (hn : n ≤ 1024) (hn' : n' ≤ 1024) : Lg (Go.Proofs.Ytfkeohlpcjpkbaa.toW (gmu G H)) (gmu G H) (k + j + 1) (n + n') := by
  have g1 := h.toW.gs hn
  have g2 := h'.toW.gs hn'
  unfold gmu gmuE
  rw [ww_toW, ww_toW]
  split
  · exact Lg.told (Nat.zero_le _) fun r hr => by simp at hr
  · refine Lg.gof (fun i j' => ?_) (by have := h.dx; have := h'.dx; omega) (by have := h.dy; have := h'.dy; omega)
    have e : pairs (tg (Go.Proofs.Ytfkeohlpcjpkbaa.toW G) (Go.Proofs.Ytfkeohlpcjpkbaa.toW G).length) (tg (Go.Proofs.Ytfkeohlpcjpkbaa.toW H) (Go.Proofs.Ytfkeohlpcjpkbaa.toW H).length) i j' + some2 (0, 0, z0) [] i j' = pairs (tg (Go.Proofs.Ytfkeohlpcjpkbaa.toW G) (Go.Proofs.Ytfkeohlpcjpkbaa.toW G).length) (tg (Go.Proofs.Ytfkeohlpcjpkbaa.toW H) (Go.Proofs.Ytfkeohlpcjpkbaa.toW H).length) i j' := by simp [some2, esum]
    rw [← e]
    exact sum_sz (fun t ht => sz_jv (g1.tin t ht).2.2.1 (g1.tin t ht).2.2.2) (by rw [jv_z0]; exact sz_zero _) (fun t ht => sz_jv (g2.tin t ht).2.2.1 (g2.tin t ht).2.2.2) (fun t ht => by simp at ht) g1.tlen g2.tlen (Nat.zero_le _) i j'
theorem Lg.py {y : Int} (h : Lg A G k n) (hy : sz y j) : Lk ((gpy G y).map cn) (gpy G y) (k + n * (j + 1)) n := Lk.told (szR.nrm fun x hx => by
    obtain ⟨r, hr, rfl⟩ := List.mem_map.1 hx
    obtain ⟨i, hi, rfl⟩ := mem_getD [] hr
    exact (ev_sz (h.g i).1 hy).mono (Nat.add_le_add_left (Nat.mul_le_mul_right _ (h.g i).2) _)) (Nat.le_trans (gpy_len _ _) h.ll)
theorem Lg.ev {x y : Int} (h : Lg A G k n) (hx : sz x j) (hy : sz y j) : sz (gev G x y) (k + n * (j + 1) + n * (j + 1)) := ev_szn (h.py hy) hx
theorem xgDegrees (v : Value) (h : Lg A G k n) (hk : k ≤ 137438953472 := by decide) (hn : n ≤ 1024 := by decide) :
    Meets Try.prog 18 [v] [(v, W A)] (fun r os fs => os = [] ∧ fs = [] ∧ r = .tuple #[.int .i64 ((gdx G : Nat) - 1 : Int), .int .i64 ((gdy G : Nat) - 1 : Int)]) := by
  have hf := h.gf hk (Nat.le_trans hn (by decide))
  have := gDegrees_meets v A (fun r hr => (hf.row r hr).2) hf.len (fun r hr => (hf.row r hr).1)
  rw [h.val] at this; exact this
theorem xgMul (v w : Value) (h : Lg A G k n) (h' : Lg B H j n') (hk : k + j + 1 ≤ 1073741824 := by decide) (hn : n ≤ 1024 := by decide) (hn' : n' ≤ 1024 := by decide) :
    Meets Try.prog 16 [v, w] [(v, W A), (w, W B)] (fun r os fs => os = [] ∧ fs = [(r, wd (gmu G H))]) := by
  have := gMul_meets v w A B k j (h.gs hn) (h'.gs hn') hk
  rw [gmuE_eq, h.val, h'.val] at this; exact this
theorem xgPutX (v w : Value) {x : Bool × List Nat} (h : Lg A G k n) (hx : Lim x.2) (ha : x.2.length ≤ j) (hk : k + 1048577 * (j + 1) ≤ 137438953472 := by decide) (hn : n ≤ 1024 := by decide) :
    Meets Try.prog 26 [v, w] [(v, W A), (w, J x)] (fun r os fs => os = [] ∧ fs = [(r, vd (gax G (jv x)))]) := by
  have := gPutXJ v w A x k j (h.gf (Nat.le_refl _) (by omega)) hx ha hk
  rw [h.val] at this; exact this
theorem Lg.pb (h : Lg A G k n) (h' : Lg B H k n) (hn : 2 * n * n + 1 ≤ 268435456) (hb : pdB k n (2 * n) ≤ 137438953472) :
    PB k n (2 * n) (syX (gtu (ww A)) (gtu (ww B)) (Go.Proofs.Ytfkeohlpcjpkbaa.dy (ww A)) (Go.Proofs.Ytfkeohlpcjpkbaa.dy (ww B))) := by
  have key := fun i j => syX_b (F := gtu (ww A)) (E := gtu (ww B)) (k := k) (l := n) (fun i => by rw [h.val]; exact h.tu.g i) (fun i => by rw [h'.val]; exact h'.tu.g i) (Go.Proofs.Ytfkeohlpcjpkbaa.dy (ww A)) (Go.Proofs.Ytfkeohlpcjpkbaa.dy (ww B)) i j
  exact ⟨fun i j => (key i j).1, fun i j => (key i j).2, hn, hb⟩
theorem Lg.dy' (h : Lg A G k n) : Go.Proofs.Ytfkeohlpcjpkbaa.dy G ≤ n := by
  unfold Go.Proofs.Ytfkeohlpcjpkbaa.dy; rw [gtu_len]; have := h.dy; omega
theorem xgElim (v w : Value) (h : Lg A G k n) (h' : Lg B H k n) (hk : k ≤ 137438953472 := by decide) (hn0 : 0 < n := by decide) (hn : n ≤ 1024 := by decide) (hn2 : 2 * n * n + 1 ≤ 268435456 := by decide) (hb : pdB k n (2 * n) ≤ 137438953472 := by decide) :
    Meets Try.prog 13 [v, w] [(v, W A), (w, W B)] (fun r os fs => os = [] ∧ fs = [(r, vd (gel G H))]) := by
  have d1 : Go.Proofs.Ytfkeohlpcjpkbaa.dy (ww A) ≤ n := by rw [h.val]; exact h.dy'
  have d2 : Go.Proofs.Ytfkeohlpcjpkbaa.dy (ww B) ≤ n := by rw [h'.val]; exact h'.dy'
  have := gEliminate_core v w A B k n (2 * n) (h.gf (Nat.le_refl _) (by omega)) (h'.gf (Nat.le_refl _) (by omega)) hk (h.pb h' hn2 hb) (by omega) (by omega)
  rw [h.val, h'.val] at this; exact this
end
end Go.Proofs.Ytfkeohlpcjpkbaa

namespace Go.Proofs.Ytfkeohlpcjpkbaa
open Go.RowKit
instance (l : List Int) : Decidable (Nm l) := inferInstanceAs (Decidable (_ = _))
theorem sz_small (x : Int) (h : x.natAbs < 18446744073709551616) : sz x 1 := by
  unfold sz; simpa using h
theorem small_szR {l : List Int} (h : ∀ x, x ∈ l → x.natAbs < 18446744073709551616) : szR 1 l := fun x hx => by
  have := h x hx
  unfold sz; simpa using this
end Go.Proofs.Ytfkeohlpcjpkbaa

namespace Go.Proofs.Ytfkeohlpcjpkbaa
open Go.RowKit
theorem lit3_L {α : Type} {P : Program} {t e : TypeId} {size bytes : Nat} {os : List Own} {fs : List Fact} {K : Cont} [ht : TSl P t e size] [he : TEl P e size bytes] {x y z' : Value} (f : α → Dat) (z : α) (a b c : α) (hsz : size ≤ 16) (hx : Reads os fs x (f a)) (hy : Reads os fs y (f b)) (hz : Reads os fs z' (f c)) (hc : (f a).cells = size) (hc' : (f b).cells = size) (hc'' : (f c).cells = size)
    (k : ∀ v, K v os ((v, LD size f z [a, b, c]) :: fs)) : BuildSliceK P t 3 [(0, x), (1, y), (2, z')] os fs K := by
  have h1 := buildSlice_fact (P := P) (t := t) (os := os) (fs := fs) (K := fun u os' fs' => ∃ os'' fs'', Seals os' fs' os'' fs'' ∧ K u os'' fs'') (n := 3) [x, y, z'] [f a, f b, f c] rfl rfl (by decide) hsz ⟨hx, hc, hy, hc', hz, hc'', trivial⟩
  refine ⟨Grw.sealed (h1 fun v => ⟨_, _, ?_, k v⟩).out⟩
  exact Seals.knw_cong rfl fun i hi => by
    have : i = 0 ∨ i = 1 ∨ i = 2 := by omega
    rcases this with rfl | rfl | rfl <;> rfl
theorem Lg.lit (G : List (List Int)) {n : Nat} (h : G.length ≤ n) (hr : ∀ r, r ∈ G → r.length ≤ n ∧ ∀ x, x ∈ r → x.natAbs < 18446744073709551616) : Lg (Go.Proofs.Ytfkeohlpcjpkbaa.toW G) G 1 n :=
  Lg.told h fun r hr' => ⟨(hr r hr').1, small_szR (hr r hr').2⟩
theorem gev_lit (G : List (List Int)) (x y : Int) : gev G x y = pev (G.map fun r => pev r y) x := ev_nrm _ _
instance (G : List (List Int)) : Decidable (Gn G) := inferInstanceAs (Decidable (_ ∧ _))
theorem shown_mu : gmu [[0, 1], [1]] [[0, -1], [1]] = [[0, 0, -1], [], [1]] :=
  (gmu_gn _ _).ev_ext (by decide) fun x y => by
    rw [gev_gmu, gev_lit, gev_lit, gev_lit]; simp only [List.map, pev]; grind
theorem shown_el1 : gel [[0, 0, 1], [-1]] [[-2, 1]] = [4, -1] := by decide +kernel
theorem shown_el2 : gel [[0, 1], [1]] [[0, -1], [1]] = [0, 2] := by decide +kernel
theorem shown_ax : gax [[0, 0, -1], [], [1]] 3 = [9, 0, -1] := by decide +kernel
theorem shown_dx : gdx [[0, 0, -1], [], [1]] = 3 := by decide +kernel
theorem shown_dy : gdy [[0, 0, -1], [], [1]] = 3 := by decide +kernel
theorem exactT (v w : Value) (x y : List Int) (h : x = y) :
    Meets Try.prog 14 [v, w] [(v, vd x), (w, vd y)] (fun r os fs => os = [] ∧ fs = [] ∧ r = .bool true) := by
  have := exactAll_meets v w (x.map cn) (y.map cn)
  rw [decide_eq_true (by rw [h])] at this
  exact this
theorem shownG_meets : Meets Try.prog 9 [] [] (fun r os fs => os = [] ∧ fs = [] ∧ r = .bool true) := by
  have k1 := Lg.lit [[0, 1], [1]] (n := 4) (by decide) (by decide)
  have k2 := Lg.lit [[0, -1], [1]] (n := 4) (by decide) (by decide)
  have k3 := Lg.lit [[0, 0, 1], [-1]] (n := 4) (by decide) (by decide)
  have k4 := Lg.lit [[-2, 1]] (n := 4) (by decide) (by decide)
  have k5 := Lg.lit [[0, 0, -1], [], [1]] (n := 4) (by decide) (by decide)
  have c1 := fun v w => xgMul v w k1 k2
  have c2 := fun v w => xgElim v w k3 k4
  have c3 := fun v w => xgElim v w k1 k2
  have c4 := fun v => xgDegrees v k5
  have c5 := fun v w => xgPutX (j := 1) v w (x := cn 3) k5 (Lim_lims _) (sz_small 3 (by decide)).len
  rw [shown_mu] at c1
  rw [shown_el1] at c2
  rw [shown_el2] at c3
  rw [shown_dx, shown_dy] at c4
  rw [show jv (cn 3) = 3 from jv_cn 3, shown_ax] at c5
  refine meets_of_vc Try.func9 (by kernel_rfl) rfl (by kernel_rfl) (Nat.le_of_ble_eq_true rfl) ?_
  refine lit_IL [0, 1] rfl rfl (by decide) fun s1 => ?_
  refine call_fn (grow12_meets s1 [0, 1] (by decide) (by decide)) (Seals.refl _ _) (by repeat (first | exact Sub.nil _ | refine Sub.cons (by repeat (first | exact List.Mem.head _ | apply List.Mem.tail)) ?_)) ?_
  rintro y1 _ _ ⟨rfl, rfl⟩
  refine lit_IL [1] rfl rfl (by decide) fun s2 => ?_
  refine call_fn (grow12_meets s2 [1] (by decide) (by decide)) (Seals.refl _ _) (by repeat (first | exact Sub.nil _ | refine Sub.cons (by repeat (first | exact List.Mem.head _ | apply List.Mem.tail)) ?_)) ?_
  rintro y2 _ _ ⟨rfl, rfl⟩
  refine lit2_L (size := 1) (e := 27) V [] (([0, 1] : List Int).map cn) (([1] : List Int).map cn) (by decide) (Reads.fact (d := vd [0, 1]) (by repeat (first | exact List.Mem.head _ | apply List.Mem.tail))) (Reads.fact (d := vd [1]) (by repeat (first | exact List.Mem.head _ | apply List.Mem.tail))) rfl rfl fun g1 => ?_
  refine lit_IL [0, -1] rfl rfl (by decide) fun s3 => ?_
  refine call_fn (grow12_meets s3 [0, -1] (by decide) (by decide)) (Seals.refl _ _) (by repeat (first | exact Sub.nil _ | refine Sub.cons (by repeat (first | exact List.Mem.head _ | apply List.Mem.tail)) ?_)) ?_
  rintro y3 _ _ ⟨rfl, rfl⟩
  refine lit_IL [1] rfl rfl (by decide) fun s4 => ?_
  refine call_fn (grow12_meets s4 [1] (by decide) (by decide)) (Seals.refl _ _) (by repeat (first | exact Sub.nil _ | refine Sub.cons (by repeat (first | exact List.Mem.head _ | apply List.Mem.tail)) ?_)) ?_
  rintro y4 _ _ ⟨rfl, rfl⟩
  refine lit2_L (size := 1) (e := 27) V [] (([0, -1] : List Int).map cn) (([1] : List Int).map cn) (by decide) (Reads.fact (d := vd [0, -1]) (by repeat (first | exact List.Mem.head _ | apply List.Mem.tail))) (Reads.fact (d := vd [1]) (by repeat (first | exact List.Mem.head _ | apply List.Mem.tail))) rfl rfl fun g2 => ?_
  refine call_fn (c1 g1 g2) (Seals.refl _ _) (by repeat (first | exact Sub.nil _ | refine Sub.cons (by repeat (first | exact List.Mem.head _ | apply List.Mem.tail)) ?_)) ?_
  rintro m _ _ ⟨rfl, rfl⟩
  refine lit_IL [0, 0, 1] rfl rfl (by decide) fun s5 => ?_
  refine call_fn (grow12_meets s5 [0, 0, 1] (by decide) (by decide)) (Seals.refl _ _) (by repeat (first | exact Sub.nil _ | refine Sub.cons (by repeat (first | exact List.Mem.head _ | apply List.Mem.tail)) ?_)) ?_
  rintro y5 _ _ ⟨rfl, rfl⟩
  refine lit_IL [-1] rfl rfl (by decide) fun s6 => ?_
  refine call_fn (grow12_meets s6 [-1] (by decide) (by decide)) (Seals.refl _ _) (by repeat (first | exact Sub.nil _ | refine Sub.cons (by repeat (first | exact List.Mem.head _ | apply List.Mem.tail)) ?_)) ?_
  rintro y6 _ _ ⟨rfl, rfl⟩
  refine lit2_L (size := 1) (e := 27) V [] (([0, 0, 1] : List Int).map cn) (([-1] : List Int).map cn) (by decide) (Reads.fact (d := vd [0, 0, 1]) (by repeat (first | exact List.Mem.head _ | apply List.Mem.tail))) (Reads.fact (d := vd [-1]) (by repeat (first | exact List.Mem.head _ | apply List.Mem.tail))) rfl rfl fun g3 => ?_
  refine lit_IL [-2, 1] rfl rfl (by decide) fun s7 => ?_
  refine call_fn (grow12_meets s7 [-2, 1] (by decide) (by decide)) (Seals.refl _ _) (by repeat (first | exact Sub.nil _ | refine Sub.cons (by repeat (first | exact List.Mem.head _ | apply List.Mem.tail)) ?_)) ?_
  rintro y7 _ _ ⟨rfl, rfl⟩
  refine lit_L (size := 1) (e := 27) V [] (([-2, 1] : List Int).map cn) (by decide) (Reads.fact (d := vd [-2, 1]) (by repeat (first | exact List.Mem.head _ | apply List.Mem.tail))) rfl fun g4 => ?_
  refine call_fn (c2 g3 g4) (Seals.refl _ _) (by repeat (first | exact Sub.nil _ | refine Sub.cons (by repeat (first | exact List.Mem.head _ | apply List.Mem.tail)) ?_)) ?_
  rintro p _ _ ⟨rfl, rfl⟩
  refine call_fn (c4 m) (Seals.refl _ _) (by repeat (first | exact Sub.nil _ | refine Sub.cons (by repeat (first | exact List.Mem.head _ | apply List.Mem.tail)) ?_)) ?_
  rintro _ _ _ ⟨rfl, rfl, rfl⟩
  refine lit_IL [0, 0, -1] rfl rfl (by decide) fun s8 => ?_
  refine call_fn (grow12_meets s8 [0, 0, -1] (by decide) (by decide)) (Seals.refl _ _) (by repeat (first | exact Sub.nil _ | refine Sub.cons (by repeat (first | exact List.Mem.head _ | apply List.Mem.tail)) ?_)) ?_
  rintro y8 _ _ ⟨rfl, rfl⟩
  refine call_fn (grow12_meets (.slice none 0 0) [] (by decide) (by decide)) (Seals.cons (Knw.nil 1 _) (Seals.refl _ _)) (by repeat (first | exact Sub.nil _ | refine Sub.cons (by repeat (first | exact List.Mem.head _ | apply List.Mem.tail)) ?_)) ?_
  rintro y9 _ _ ⟨rfl, rfl⟩
  refine lit_IL [1] rfl rfl (by decide) fun s10 => ?_
  refine call_fn (grow12_meets s10 [1] (by decide) (by decide)) (Seals.refl _ _) (by repeat (first | exact Sub.nil _ | refine Sub.cons (by repeat (first | exact List.Mem.head _ | apply List.Mem.tail)) ?_)) ?_
  rintro y10 _ _ ⟨rfl, rfl⟩
  refine lit3_L (size := 1) (e := 27) V [] (([0, 0, -1] : List Int).map cn) (([] : List Int).map cn) (([1] : List Int).map cn) (by decide) (Reads.fact (d := vd [0, 0, -1]) (by repeat (first | exact List.Mem.head _ | apply List.Mem.tail))) (Reads.fact (d := vd []) (by repeat (first | exact List.Mem.head _ | apply List.Mem.tail))) (Reads.fact (d := vd [1]) (by repeat (first | exact List.Mem.head _ | apply List.Mem.tail))) rfl rfl rfl fun g5 => ?_
  refine call_fn (gsameT m g5 _ _ rfl) (Seals.refl _ _) (by repeat (first | exact Sub.nil _ | refine Sub.cons (by repeat (first | exact List.Mem.head _ | apply List.Mem.tail)) ?_)) ?_
  rintro _ _ _ ⟨rfl, rfl, rfl⟩
  refine cmp_true rfl (by decide) ?_
  refine cmp_true rfl (by decide) ?_
  refine call_fn (rOf_meets 3 (by decide) (by decide)) (Seals.refl _ _) (by repeat (first | exact Sub.nil _ | refine Sub.cons (by repeat (first | exact List.Mem.head _ | apply List.Mem.tail)) ?_)) ?_
  rintro y11 _ _ ⟨rfl, rfl⟩
  refine call_fn (c5 m y11) (Seals.refl _ _) (by repeat (first | exact Sub.nil _ | refine Sub.cons (by repeat (first | exact List.Mem.head _ | apply List.Mem.tail)) ?_)) ?_
  rintro y12 _ _ ⟨rfl, rfl⟩
  refine lit_IL [9, 0, -1] rfl rfl (by decide) fun s13 => ?_
  refine call_fn (grow12_meets s13 [9, 0, -1] (by decide) (by decide)) (Seals.refl _ _) (by repeat (first | exact Sub.nil _ | refine Sub.cons (by repeat (first | exact List.Mem.head _ | apply List.Mem.tail)) ?_)) ?_
  rintro y13 _ _ ⟨rfl, rfl⟩
  refine call_fn (exactT y12 y13 _ _ rfl) (Seals.refl _ _) (by repeat (first | exact Sub.nil _ | refine Sub.cons (by repeat (first | exact List.Mem.head _ | apply List.Mem.tail)) ?_)) ?_
  rintro _ _ _ ⟨rfl, rfl, rfl⟩
  refine call_fn (c3 g1 g2) (Seals.refl _ _) (by repeat (first | exact Sub.nil _ | refine Sub.cons (by repeat (first | exact List.Mem.head _ | apply List.Mem.tail)) ?_)) ?_
  rintro y14 _ _ ⟨rfl, rfl⟩
  refine lit_IL [0, 2] rfl rfl (by decide) fun s15 => ?_
  refine call_fn (grow12_meets s15 [0, 2] (by decide) (by decide)) (Seals.refl _ _) (by repeat (first | exact Sub.nil _ | refine Sub.cons (by repeat (first | exact List.Mem.head _ | apply List.Mem.tail)) ?_)) ?_
  rintro y15 _ _ ⟨rfl, rfl⟩
  refine call_fn (exactT y14 y15 _ _ rfl) (Seals.refl _ _) (by repeat (first | exact Sub.nil _ | refine Sub.cons (by repeat (first | exact List.Mem.head _ | apply List.Mem.tail)) ?_)) ?_
  rintro _ _ _ ⟨rfl, rfl, rfl⟩
  refine lit_IL [4, -1] rfl rfl (by decide) fun s16 => ?_
  refine call_fn (grow12_meets s16 [4, -1] (by decide) (by decide)) (Seals.refl _ _) (by repeat (first | exact Sub.nil _ | refine Sub.cons (by repeat (first | exact List.Mem.head _ | apply List.Mem.tail)) ?_)) ?_
  rintro y16 _ _ ⟨rfl, rfl⟩
  refine call_fn (exactT p y16 _ _ rfl) (Seals.refl _ _) (by repeat (first | exact Sub.nil _ | refine Sub.cons (by repeat (first | exact List.Mem.head _ | apply List.Mem.tail)) ?_)) ?_
  rintro _ _ _ ⟨rfl, rfl, rfl⟩
  exact fin ⟨rfl, rfl, rfl⟩ (Seals.nil _ _)
end Go.Proofs.Ytfkeohlpcjpkbaa

namespace Go.Proofs.Ytfkeohlpcjpkbaa
open Go.ChangeShapes Go.WideShapes Go.ChangeAt Go.RowKit
section
variable {H : Type} {enc : TypeId × Value → H} {w : World} {base : Nat} {spare : Nat → Bool} {held : Bool}
theorem rd_grid {fuel : Nat} {cs : List Value} {x : DataW H × List MemPlace} (h : DataW.trod enc Try.prog w base spare held fuel 23 cs = some x) : ∃ m : List Row, limM m ∧ RdC (fun b => b < w.heap.size) w (W m) cs := by
  obtain ⟨l, h1, h2⟩ := rd_slice (size := 1) V [] (fun r => ∀ y, y ∈ r → Lim y.2) Try.underlying23 (by kernel_rfl) (by decide) (fun n cs x _ h => rd_row h) h
  exact ⟨l, h1, h2⟩
end
end Go.Proofs.Ytfkeohlpcjpkbaa

namespace Go.Proofs.Ytfkeohlpcjpkbaa
open Go.RowKit
end Go.Proofs.Ytfkeohlpcjpkbaa

namespace Go.Proofs.Ytfkeohlpcjpkbaa
open Go.RowKit
end Go.Proofs.Ytfkeohlpcjpkbaa

namespace Go.Proofs.Ytfkeohlpcjpkbaa
open Go.RowKit
theorem rDegreeT (v : Value) (l : List Int) {k : Nat} (hl : szR k l) (hk : k ≤ 1099511627776) :
    Meets Try.prog 68 [v] [(v, vd l)] (fun r os fs => os = [] ∧ fs = [] ∧ r = .int .i64 ((dg l : Nat) - 1 : Int)) := by
  have := rDegreeN v (l.map cn) (hl.mono hk).fit
  rw [vv_cn] at this; exact this
/-- What parts tells. -/
structure PartSpec (p q T R : List Int) (ok : Bool) : Prop where
  yes : ok = true → Nm T ∧ Nm R ∧ dg R < dg q ∧ ∀ x, pev p x = pev q x * pev T x + pev R x
  no : ok = false → T = [] ∧ R = [] ∧ ¬ ∃ T' R' : List Int, dg R' < dg q ∧ ∀ x, pev p x = pev q x * pev T' x + pev R' x
end Go.Proofs.Ytfkeohlpcjpkbaa

namespace Go.Proofs.Ytfkeohlpcjpkbaa
open Go.RowKit
end Go.Proofs.Ytfkeohlpcjpkbaa

namespace Go.Proofs.Ytfkeohlpcjpkbaa
open Go.RowKit
theorem empty_F {α : Type} {P : Program} {t e : TypeId} {size bytes : Nat} {os : List Own} {fs : List Fact} {K : Cont} [ht : TSl P t e size] [he : TEl P e size bytes] (f : α → Dat) (z : α) (hsz : size ≤ 16)
    (k : ∀ v, K v os ((v, LD size f z []) :: fs)) : BuildSliceK P t 0 [] os fs K := by
  have h1 := buildSlice_fact (P := P) (t := t) (os := os) (fs := fs) (K := fun u os' fs' => ∃ os'' fs'', Seals os' fs' os'' fs'' ∧ K u os'' fs'') (n := 0) [] [] rfl rfl (by decide) hsz trivial
  refine ⟨Grw.sealed (h1 fun v => ⟨_, _, ?_, k v⟩).out⟩
  exact Seals.knw_cong rfl fun i hi => by omega
theorem rDegrees12_meets (v : Value) (g : List Row) (hk : ∀ r, r ∈ g → Fit 137438953472 r) (lg : g.length ≤ 1048576) (hl : ∀ r, r ∈ g → r.length ≤ 1048576) :
    Meets Try.prog 65 [v] [(v, W g)] (fun r os fs => os = [] ∧ fs = [] ∧ r = .tuple #[.int .i64 ((gdx (ww g) : Nat) - 1 : Int), .int .i64 ((gdy (ww g) : Nat) - 1 : Int)]) := by
  have hdy : ∀ n, gdyN (ww g) n ≤ 1048576 := gdyN_le fun i => by
    rw [ww_get]
    refine Nat.le_trans (dg_le_len _) ?_
    rw [vv_len]
    by_cases hi : i < g.length
    · exact hl _ (getD_mem [] hi)
    · rw [getD_end (l := g) (by omega)]; exact Nat.zero_le _
  refine meets_of_vc Try.func65 (by kernel_rfl) rfl (by kernel_rfl) (Nat.le_of_ble_eq_true rfl) ?_
  refine loop_rule (X := Nat) (fun i => ([(0, v), (4, .int .i64 ((gdxN (ww g) i : Nat) - 1 : Int)), (5, .int .i64 ((gdyN (ww g) i : Nat) - 1 : Int)), (6, .int .i64 (i : Nat))], [], [(v, W g)])) (fun i => i ≤ g.length) (fun i => g.length - i) rfl ?_ ?_
  · exact again 0 (Nat.zero_le _) trivial (by repeat (first | exact trivial | refine ⟨rfl, ?_⟩ | refine ⟨i64_eq (by first | omega | (simp only; omega)), ?_⟩ | refine ⟨u64_eq (by first | omega | (simp only; omega)), ?_⟩)) (Seals.sub (by repeat (first | exact Sub.nil _ | refine Sub.cons (by repeat (first | exact List.Mem.head _ | apply List.Mem.tail)) ?_)))
  · rintro i hi
    refine len_fact (by repeat (first | exact List.Mem.head _ | apply List.Mem.tail)) fun _ => ?_
    refine cmp_split _ rfl (fun hlt => ?_) (fun hlt => ?_)
    · have hin : i < g.length := by omega
      have hx := gdxN_le (ww g) i
      have hy := hdy i
      have hx1 : gdxN (ww g) (i + 1) = if dg ((ww g).getD i []) = 0 then gdxN (ww g) i else i + 1 := rfl
      have hy1 : gdyN (ww g) (i + 1) = max (gdyN (ww g) i) (dg ((ww g).getD i [])) := rfl
      have hrm := getD_mem (l := g) [] hin
      have c1 := fun u => rDegreeN u (g.getD i []) ((hk _ hrm).mono (by decide))
      rw [ww_get] at hx1 hy1
      have hd : dg (vv (g.getD i [])) ≤ 1048576 := Nat.le_trans (dg_le_len _) (by rw [vv_len]; exact hl _ hrm)
      generalize dg (vv (g.getD i [])) = d at *
      refine index_fact (by repeat (first | exact List.Mem.head _ | apply List.Mem.tail)) i rfl hin fun b1 => ?_
      refine load_fact (d := V (g.getD i [])) (by repeat (first | exact List.Mem.head _ | apply List.Mem.tail)) (show TOne Try.prog 27 from inferInstance) fun u => ?_
      refine call_fn (c1 u) (Seals.refl _ _) (by repeat (first | exact Sub.nil _ | refine Sub.cons (by repeat (first | exact List.Mem.head _ | apply List.Mem.tail)) ?_)) ?_
      rintro _ _ _ ⟨rfl, rfl, rfl⟩
      refine cmp_split _ rfl (fun h0 => ?_) (fun h0 => ?_)
      · refine max2_rule ?_
        refine ar rfl (by first | exact ⟨by omega, by omega⟩ | (simp only [inK]; omega)) ?_
        refine again (i + 1) (by omega) (by simp only; omega) (by
          refine ⟨rfl, i64_eq ?_, i64_eq ?_, i64_eq (by omega), trivial⟩
          · rw [hx1, if_neg (by omega)]; omega
          · rw [hy1]; omega) (Seals.sub (by repeat (first | exact Sub.nil _ | refine Sub.cons (by repeat (first | exact List.Mem.head _ | apply List.Mem.tail)) ?_)))
      · refine max2_rule ?_
        refine ar rfl (by first | exact ⟨by omega, by omega⟩ | (simp only [inK]; omega)) ?_
        refine again (i + 1) (by omega) (by simp only; omega) (by
          refine ⟨rfl, i64_eq ?_, i64_eq ?_, i64_eq (by omega), trivial⟩
          · rw [hx1, if_pos (by omega)]
          · rw [hy1]; omega) (Seals.sub (by repeat (first | exact Sub.nil _ | refine Sub.cons (by repeat (first | exact List.Mem.head _ | apply List.Mem.tail)) ?_)))
    · have hip : i = g.length := by omega
      subst hip
      refine fin ⟨rfl, rfl, ?_⟩ (Seals.nil _ _)
      unfold gdx gdy
      rw [ww_len]
      rfl
theorem gtu_eq (G : List (List Int)) : gtu G = (List.range (gdy G)).map fun j => nrm (lst (gdx G) fun i => gv G i j) := by
  refine row_eq_of_getD [] (by rw [gtu_len]; simp) fun i hi => ?_
  rw [gtu_len] at hi
  unfold gtu gof
  rw [gtr_getD]
theorem rTurn12_meets (v : Value) (g : List Row) (h : Gf 137438953472 g) :
    Meets Try.prog 40 [v] [(v, W g)] (fun r os fs => os = [] ∧ fs = [(r, wd (gtu (ww g)))]) := by
  have c1 := rDegrees12_meets v g (fun r hr => (h.row r hr).2) h.len (fun r hr => (h.row r hr).1)
  have hdx := h.dx
  have hdy := h.dy
  have hgx : gdx (ww g) ≤ g.length := Nat.le_trans (gdxN_le _ _) (by rw [ww_len]; exact Nat.le_refl _)
  have hgv := fun i j => gv_ww g i j
  have hval : ∀ i j, (vv (g.getD i [])).getD j 0 = gv (ww g) i j := fun i j => by
    show _ = ((ww g).getD i []).getD j 0
    rw [ww_get]
  have hsz := fun i j => h.gv i j
  rw [gtu_eq]
  have hat := fun u i j => rAtN u (g.getD i []) ((h.get i).2.mono (by decide)) j
  simp only [hval] at hat
  generalize gv (ww g) = F at *
  generalize gdx (ww g) = a at *
  generalize gdy (ww g) = b at *
  refine meets_of_vc Try.func40 (by kernel_rfl) rfl (by kernel_rfl) (Nat.le_of_ble_eq_true rfl) ?_
  refine call_fn c1 (Seals.refl _ _) (by repeat (first | exact Sub.nil _ | refine Sub.cons (by repeat (first | exact List.Mem.head _ | apply List.Mem.tail)) ?_)) ?_
  rintro _ _ _ ⟨rfl, rfl, rfl⟩
  refine empty_L (size := 1) (e := 27) V [] (by decide) fun w hw => ?_
  refine loop_rule (X := Nat × Value) (fun x => ([(0, v), (3, .int .i64 ((a : Nat) - 1 : Int)), (4, .int .i64 ((b : Nat) - 1 : Int)), (5, x.2), (6, .int .i64 (x.1 : Nat))], [ownL 1 V [] x.2 (toW ((List.range x.1).map fun j => nrm (lst a fun i => F i j)))], [(v, W g)])) (fun x => x.1 ≤ b ∧ isSl x.2) (fun x => b - x.1) rfl ?_ ?_
  · exact again (0, w) ⟨Nat.zero_le _, hw⟩ trivial (by repeat (first | exact trivial | refine ⟨rfl, ?_⟩ | refine ⟨i64_eq (by first | omega | (simp only; omega)), ?_⟩ | refine ⟨u64_eq (by first | omega | (simp only; omega)), ?_⟩)) (Seals.sub (by repeat (first | exact Sub.nil _ | refine Sub.cons (by repeat (first | exact List.Mem.head _ | apply List.Mem.tail)) ?_)))
  · rintro ⟨j, w⟩ ⟨h1, hw⟩
    simp only at h1 hw ⊢
    refine cmp_split _ rfl (fun hj => ?_) (fun hj => ?_)
    · have hjb : j < b := by omega
      refine empty_L (size := 2) (e := 39) J z0 (by decide) fun w0 hw0 => ?_
      refine loop_rule (X := Nat × Value) (fun x => ([(0, v), (3, .int .i64 ((a : Nat) - 1 : Int)), (4, .int .i64 ((b : Nat) - 1 : Int)), (5, w), (6, .int .i64 (j : Nat)), (7, x.2), (8, .int .i64 (x.1 : Nat))], [ownL 2 J z0 x.2 ((lst x.1 fun i => F i j).map cn), ownL 1 V [] w (toW ((List.range j).map fun j => nrm (lst a fun i => F i j)))], [(v, W g)])) (fun x => x.1 ≤ a ∧ isSl x.2) (fun x => a - x.1) rfl ?_ ?_
      · exact again (0, w0) ⟨Nat.zero_le _, hw0⟩ trivial (by repeat (first | exact trivial | refine ⟨rfl, ?_⟩ | refine ⟨i64_eq (by first | omega | (simp only; omega)), ?_⟩ | refine ⟨u64_eq (by first | omega | (simp only; omega)), ?_⟩)) (Seals.sub (by repeat (first | exact Sub.nil _ | refine Sub.cons (by repeat (first | exact List.Mem.head _ | apply List.Mem.tail)) ?_)))
      · rintro ⟨i, w1⟩ ⟨h2, hw1⟩
        simp only at h2 hw1 ⊢
        refine cmp_split _ rfl (fun hi => ?_) (fun hi => ?_)
        · have hia : i < a := by omega
          have hll : (lst i fun i => F i j).length = i := lst_len _ _
          refine index_fact (by repeat (first | exact List.Mem.head _ | apply List.Mem.tail)) i rfl (by omega) fun b1 => ?_
          refine load_fact (d := V (g.getD i [])) (by repeat (first | exact List.Mem.head _ | apply List.Mem.tail)) (show TOne Try.prog 27 from inferInstance) fun u => ?_
          refine call_fn (hat u i j) (Seals.refl _ _) (by repeat (first | exact Sub.nil _ | refine Sub.cons (by repeat (first | exact List.Mem.head _ | apply List.Mem.tail)) ?_)) ?_
          rintro y _ _ ⟨rfl, rfl⟩
          refine lit_L (size := 2) (f := J) (z := z0) (e := 39) (cn (F i j)) (by decide) (Reads.fact (by repeat (first | exact List.Mem.head _ | apply List.Mem.tail))) rfl fun y4 => ?_
          refine append_L (size := 2) (e := 39) (f := J) (z := z0) (l := (lst i fun i => F i j).map cn) (m := [cn (F i j)]) 0 rfl hw1 (Knw.fact (by repeat (first | exact List.Mem.head _ | apply List.Mem.tail))) (by simp only [List.length_map, hll, List.length_cons, List.length_nil]; omega) (by simp only [List.length_map, hll, List.length_cons, List.length_nil]; omega) fun vn hvn => ?_
          refine ar rfl (by first | exact ⟨by omega, by omega⟩ | (simp only [inK]; omega)) ?_
          refine again (i + 1, vn) ⟨by simp only; omega, hvn⟩ (by simp only; omega) (by repeat (first | exact trivial | refine ⟨rfl, ?_⟩ | refine ⟨i64_eq (by first | omega | (simp only; omega)), ?_⟩ | refine ⟨u64_eq (by first | omega | (simp only; omega)), ?_⟩)) ?_
          rw [show (lst i fun i => F i j).map cn ++ [cn (F i j)] = (lst (i + 1) fun i => F i j).map cn by rw [lst_snoc, List.map_append]; rfl]
          exact Seals.sub (by repeat (first | exact Sub.nil _ | refine Sub.cons (by repeat (first | exact List.Mem.head _ | apply List.Mem.tail)) ?_))
        · have hia : i = a := by omega
          subst hia
          refine call_fn (rNormT w1 (lst i fun i => F i j) (szR.lst fun i _ => hsz i j) (by rw [lst_len]; omega)) (Seals.toldL hw1) (by repeat (first | exact Sub.nil _ | refine Sub.cons (by repeat (first | exact List.Mem.head _ | apply List.Mem.tail)) ?_)) ?_
          rintro r _ _ ⟨rfl, rfl⟩
          refine lit_L (size := 1) (e := 27) V [] ((nrm (lst i fun i => F i j)).map cn) (by decide) (Reads.fact (by repeat (first | exact List.Mem.head _ | apply List.Mem.tail))) rfl fun l1 => ?_
          refine append_L (size := 1) (e := 27) 0 rfl hw (Knw.fact (by repeat (first | exact List.Mem.head _ | apply List.Mem.tail))) (by simp; omega) (by simp; omega) fun w2 hw2 => ?_
          refine ar rfl (by first | exact ⟨by omega, by omega⟩ | (simp only [inK]; omega)) ?_
          refine again (j + 1, w2) ⟨by simp only; omega, hw2⟩ (by simp only; omega) (by repeat (first | exact trivial | refine ⟨rfl, ?_⟩ | refine ⟨i64_eq (by first | omega | (simp only; omega)), ?_⟩ | refine ⟨u64_eq (by first | omega | (simp only; omega)), ?_⟩)) ?_
          rw [show toW ((List.range (j + 1)).map fun j => nrm (lst i fun i => F i j)) = toW ((List.range j).map fun j => nrm (lst i fun i => F i j)) ++ [(nrm (lst i fun i => F i j)).map cn] by simp [List.range_succ]]
          exact Seals.sub (by repeat (first | exact Sub.nil _ | refine Sub.cons (by repeat (first | exact List.Mem.head _ | apply List.Mem.tail)) ?_))
    · have hjb : j = b := by omega
      subst hjb
      exact fin ⟨rfl, rfl⟩ (Seals.trans (Seals.L 0 rfl hw) (Seals.sub (by repeat (first | exact Sub.nil _ | refine Sub.cons (by repeat (first | exact List.Mem.head _ | apply List.Mem.tail)) ?_))))
/-- A row of polynomials; rows of them. -/
def PR (r : List (List Int)) : Dat := LD 1 vd [] r
def PM (M : List (List (List Int))) : Dat := LD 1 PR [] M
def syL (F : List (List Int)) (d i wide : Nat) : List (List Int) := (List.range wide).map fun k => syRow F d i k
def syM (F : List (List Int)) (d many wide : Nat) : List (List (List Int)) := (List.range many).map fun i => syL F d i wide
theorem rRows12_meets (v : Value) (F : List (List Int)) (d many wide : Nat) (hF : F.length = d + 1) (hd : d ≤ 1048576) (hm : many ≤ 1048576) (hw : wide ≤ 1048576) :
    Meets Try.prog 41 [v, .int .i64 (many : Nat), .int .i64 (wide : Nat)] [(v, wd F)] (fun r os fs => isSl r ∧ os = [ownL 1 PR [] r (syM F d many wide)] ∧ fs = []) := by
  refine meets_of_vc Try.func41 (by kernel_rfl) rfl (by kernel_rfl) (Nat.le_of_ble_eq_true rfl) ?_
  refine empty_L (size := 1) (e := 62) PR [] (by decide) fun w0 hw0 => ?_
  refine len_wd (by repeat (first | exact List.Mem.head _ | apply List.Mem.tail)) ?_
  refine ar (n := ((d : Nat) : Int)) (by simp only [arZ, Option.some.injEq]; omega) (by first | exact ⟨by omega, by omega⟩ | (simp only [inK]; omega)) ?_
  refine loop_rule (X := Nat × Value) (fun x => ([(0, v), (1, .int .i64 (many : Nat)), (2, .int .i64 (wide : Nat)), (7, x.2), (8, .int .i64 (d : Nat)), (9, .int .i64 (x.1 : Nat))], [ownL 1 PR [] x.2 (syM F d x.1 wide)], [(v, wd F)])) (fun x => x.1 ≤ many ∧ isSl x.2) (fun x => many - x.1) rfl ?_ ?_
  · exact again (0, w0) ⟨Nat.zero_le _, hw0⟩ trivial (by repeat (first | exact trivial | refine ⟨rfl, ?_⟩ | refine ⟨i64_eq (by first | omega | (simp only; omega)), ?_⟩ | refine ⟨u64_eq (by first | omega | (simp only; omega)), ?_⟩)) (Seals.sub (by repeat (first | exact Sub.nil _ | refine Sub.cons (by repeat (first | exact List.Mem.head _ | apply List.Mem.tail)) ?_)))
  · rintro ⟨i, w⟩ ⟨h1, hw'⟩
    simp only at h1 hw' ⊢
    refine cmp_split _ rfl (fun hi => ?_) (fun hi => ?_)
    · have him : i < many := by omega
      have hml : (syM F d i wide).length = i := by simp [syM]
      refine empty_L (size := 1) (e := 28) vd [] (by decide) fun v0 hv0 => ?_
      refine loop_rule (X := Nat × Value) (fun x => ([(0, v), (1, .int .i64 (many : Nat)), (2, .int .i64 (wide : Nat)), (7, w), (8, .int .i64 (d : Nat)), (9, .int .i64 (i : Nat)), (10, x.2), (11, .int .i64 (x.1 : Nat))], [ownL 1 vd [] x.2 (syL F d i x.1), ownL 1 PR [] w (syM F d i wide)], [(v, wd F)])) (fun x => x.1 ≤ wide ∧ isSl x.2) (fun x => wide - x.1) rfl ?_ ?_
      · exact again (0, v0) ⟨Nat.zero_le _, hv0⟩ trivial (by repeat (first | exact trivial | refine ⟨rfl, ?_⟩ | refine ⟨i64_eq (by first | omega | (simp only; omega)), ?_⟩ | refine ⟨u64_eq (by first | omega | (simp only; omega)), ?_⟩)) (Seals.sub (by repeat (first | exact Sub.nil _ | refine Sub.cons (by repeat (first | exact List.Mem.head _ | apply List.Mem.tail)) ?_)))
      · rintro ⟨k, w1⟩ ⟨h2, hw1⟩
        simp only at h2 hw1 ⊢
        refine cmp_split _ rfl (fun hk => ?_) (fun hk => ?_)
        · have hkw : k < wide := by omega
          have hsl : (syL F d i k).length = k := by simp [syL]
          have hrow : syRow F d i k = if i ≤ k ∧ k < i + (d + 1) then F.getD (d - (k - i)) [] else [] := rfl
          refine empty_F (size := 2) (e := 39) J z0 (by decide) fun e0 => ?_
          refine cmp_split _ rfl (fun hki => ?_) (fun hki => ?_)
          · refine ar rfl (by first | exact ⟨by omega, by omega⟩ | (simp only [inK]; omega)) ?_
            refine cmp_split _ rfl (fun hkd => ?_) (fun hkd => ?_)
            · rw [if_pos (by omega)] at hrow
              refine ar (n := ((k - i : Nat) : Int)) (by simp only [arZ, Option.some.injEq]; omega) (by first | exact ⟨by omega, by omega⟩ | (simp only [inK]; omega)) ?_
              refine ar (n := ((d - (k - i) : Nat) : Int)) (by simp only [arZ, Option.some.injEq]; omega) (by first | exact ⟨by omega, by omega⟩ | (simp only [inK]; omega)) ?_
              refine index_wd (by repeat (first | exact List.Mem.head _ | apply List.Mem.tail)) (d - (k - i)) rfl (by omega) fun b1 => ?_
              refine load_fact (d := vd (F.getD (d - (k - i)) [])) (by repeat (first | exact List.Mem.head _ | apply List.Mem.tail)) (load_V _) fun y1 => ?_
              rw [← hrow]
              refine lit_L (size := 1) (e := 28) vd [] (syRow F d i k) (by decide) (Reads.fact (by repeat (first | exact List.Mem.head _ | apply List.Mem.tail))) rfl fun l1 => ?_
              refine append_L (size := 1) (e := 28) (f := vd) (z := []) (l := syL F d i k) (m := [syRow F d i k]) 0 rfl hw1 (Knw.fact (by repeat (first | exact List.Mem.head _ | apply List.Mem.tail))) (by rw [hsl]; simp; omega) (by rw [hsl]; simp; omega) fun vn hvn => ?_
              refine ar rfl (by first | exact ⟨by omega, by omega⟩ | (simp only [inK]; omega)) ?_
              refine again (k + 1, vn) ⟨by simp only; omega, hvn⟩ (by simp only; omega) (by repeat (first | exact trivial | refine ⟨rfl, ?_⟩ | refine ⟨i64_eq (by first | omega | (simp only; omega)), ?_⟩ | refine ⟨u64_eq (by first | omega | (simp only; omega)), ?_⟩)) ?_
              rw [show syL F d i (k + 1) = syL F d i k ++ [syRow F d i k] by simp [syL, List.range_succ]]
              exact Seals.sub (by repeat (first | exact Sub.nil _ | refine Sub.cons (by repeat (first | exact List.Mem.head _ | apply List.Mem.tail)) ?_))
            · rw [if_neg (by omega)] at hrow
              rw [show LD 2 J z0 [] = vd (syRow F d i k) by rw [hrow]; rfl]
              refine lit_L (size := 1) (e := 28) vd [] (syRow F d i k) (by decide) (Reads.fact (by repeat (first | exact List.Mem.head _ | apply List.Mem.tail))) rfl fun l1 => ?_
              refine append_L (size := 1) (e := 28) (f := vd) (z := []) (l := syL F d i k) (m := [syRow F d i k]) 0 rfl hw1 (Knw.fact (by repeat (first | exact List.Mem.head _ | apply List.Mem.tail))) (by rw [hsl]; simp; omega) (by rw [hsl]; simp; omega) fun vn hvn => ?_
              refine ar rfl (by first | exact ⟨by omega, by omega⟩ | (simp only [inK]; omega)) ?_
              refine again (k + 1, vn) ⟨by simp only; omega, hvn⟩ (by simp only; omega) (by repeat (first | exact trivial | refine ⟨rfl, ?_⟩ | refine ⟨i64_eq (by first | omega | (simp only; omega)), ?_⟩ | refine ⟨u64_eq (by first | omega | (simp only; omega)), ?_⟩)) ?_
              rw [show syL F d i (k + 1) = syL F d i k ++ [syRow F d i k] by simp [syL, List.range_succ]]
              exact Seals.sub (by repeat (first | exact Sub.nil _ | refine Sub.cons (by repeat (first | exact List.Mem.head _ | apply List.Mem.tail)) ?_))
          · rw [if_neg (by omega)] at hrow
            rw [show LD 2 J z0 [] = vd (syRow F d i k) by rw [hrow]; rfl]
            refine lit_L (size := 1) (e := 28) vd [] (syRow F d i k) (by decide) (Reads.fact (by repeat (first | exact List.Mem.head _ | apply List.Mem.tail))) rfl fun l1 => ?_
            refine append_L (size := 1) (e := 28) (f := vd) (z := []) (l := syL F d i k) (m := [syRow F d i k]) 0 rfl hw1 (Knw.fact (by repeat (first | exact List.Mem.head _ | apply List.Mem.tail))) (by rw [hsl]; simp; omega) (by rw [hsl]; simp; omega) fun vn hvn => ?_
            refine ar rfl (by first | exact ⟨by omega, by omega⟩ | (simp only [inK]; omega)) ?_
            refine again (k + 1, vn) ⟨by simp only; omega, hvn⟩ (by simp only; omega) (by repeat (first | exact trivial | refine ⟨rfl, ?_⟩ | refine ⟨i64_eq (by first | omega | (simp only; omega)), ?_⟩ | refine ⟨u64_eq (by first | omega | (simp only; omega)), ?_⟩)) ?_
            rw [show syL F d i (k + 1) = syL F d i k ++ [syRow F d i k] by simp [syL, List.range_succ]]
            exact Seals.sub (by repeat (first | exact Sub.nil _ | refine Sub.cons (by repeat (first | exact List.Mem.head _ | apply List.Mem.tail)) ?_))
        · have hkw : k = wide := by omega
          subst hkw
          refine BuildSliceK.pre (Seals.L 0 rfl hw1) ?_
          refine lit_L (size := 1) (e := 62) PR [] (syL F d i k) (by decide) (Reads.fact (d := PR (syL F d i k)) (by repeat (first | exact List.Mem.head _ | apply List.Mem.tail))) rfl fun l1 => ?_
          refine append_L (size := 1) (e := 62) (f := PR) (z := []) (l := syM F d i k) (m := [syL F d i k]) 0 rfl hw' (Knw.fact (by repeat (first | exact List.Mem.head _ | apply List.Mem.tail))) (by rw [hml]; simp; omega) (by rw [hml]; simp; omega) fun vn hvn => ?_
          refine ar rfl (by first | exact ⟨by omega, by omega⟩ | (simp only [inK]; omega)) ?_
          refine again (i + 1, vn) ⟨by simp only; omega, hvn⟩ (by simp only; omega) (by repeat (first | exact trivial | refine ⟨rfl, ?_⟩ | refine ⟨i64_eq (by first | omega | (simp only; omega)), ?_⟩ | refine ⟨u64_eq (by first | omega | (simp only; omega)), ?_⟩)) ?_
          rw [show syM F d (i + 1) k = syM F d i k ++ [syL F d i k] by simp [syM, List.range_succ]]
          exact Seals.sub (by repeat (first | exact Sub.nil _ | refine Sub.cons (by repeat (first | exact List.Mem.head _ | apply List.Mem.tail)) ?_))
    · have him : i = many := by omega
      subst him
      exact fin ⟨hw', rfl, rfl⟩ (Seals.nil _ _)
end Go.Proofs.Ytfkeohlpcjpkbaa

namespace Go.Proofs.Ytfkeohlpcjpkbaa
open Go.RowKit
end Go.Proofs.Ytfkeohlpcjpkbaa

namespace Go.Proofs.Ytfkeohlpcjpkbaa
open Go.RowKit
end Go.Proofs.Ytfkeohlpcjpkbaa

namespace Go.Proofs.Ytfkeohlpcjpkbaa
open Go.RowKit
end Go.Proofs.Ytfkeohlpcjpkbaa

namespace Go.Proofs.Ytfkeohlpcjpkbaa
open Go.RowKit
theorem rPSubT (v w : Value) (p q : List Int) (k : Nat) (hp : szR k p) (hq : szR k q) (h1k : 1 ≤ k) (hk : k + k ≤ 137438953472) (lp : p.length ≤ 536870912) (lq : q.length ≤ 536870912) :
    Meets Try.prog 70 [v, w] [(v, vd p), (w, vd q)] (fun r os fs => os = [] ∧ fs = [(r, vd (psub p q))]) := by
  have := rPSub_meets v w (p.map cn) (q.map cn) k hp.fit hq.fit h1k hk (by rw [List.length_map]; exact lp) (by rw [List.length_map]; exact lq)
  rw [vv_cn, vv_cn] at this; exact this
theorem rPAddT (v w : Value) (p q : List Int) (k : Nat) (hp : szR k p) (hq : szR k q) (hk : k + 1 ≤ 137438953472) (lp : p.length ≤ 536870912) (lq : q.length ≤ 536870912) :
    Meets Try.prog 71 [v, w] [(v, vd p), (w, vd q)] (fun r os fs => os = [] ∧ fs = [(r, vd (padd p q))]) := by
  have := rPAdd_meets v w (p.map cn) (q.map cn) k hp.fit hq.fit hk (by rw [List.length_map]; exact lp) (by rw [List.length_map]; exact lq)
  rw [vv_cn, vv_cn] at this; exact this
theorem rPMulT (v w : Value) (p q : List Int) (k j : Nat) (hp : szR k p) (hq : szR j q) (hk : k + j + 1 ≤ 137438953472) (lp : p.length ≤ 268435456) (lq : q.length ≤ 268435456) :
    Meets Try.prog 69 [v, w] [(v, vd p), (w, vd q)] (fun r os fs => os = [] ∧ fs = [(r, vd (pmul p q))]) := by
  have := rPMul_meets v w (p.map cn) (q.map cn) k j hp.fit hq.fit hk (by rw [List.length_map]; exact lp) (by rw [List.length_map]; exact lq)
  rw [vv_cn, vv_cn] at this; exact this
/-- A matrix of rows of polynomials. -/
def pxm (M : List (List (List Int))) : Px := fun i j => (M.getD i []).getD j []
def pcut (A : Px) (k : Nat) : Px := fun x y => A (x + 1) (sk k y)
def pmin (M : List (List (List Int))) (k : Nat) : List (List (List Int)) := (M.drop 1).map (·.eraseIdx k)
theorem getD_erasez {α : Type} (z : α) (l : List α) (j k : Nat) : (l.eraseIdx j).getD k z = l.getD (sk j k) z := by
  unfold sk
  simp only [List.getD_eq_getElem?_getD, List.getElem?_eraseIdx]
  split <;> rfl
theorem pxm_min (M : List (List (List Int))) (k : Nat) : pxm (pmin M k) = pcut (pxm M) k := by
  funext x y
  show ((pmin M k).getD x []).getD y [] = (M.getD (x + 1) []).getD (sk k y) []
  rw [← getD_erasez]
  congr 1
  unfold pmin
  simp only [List.getD_eq_getElem?_getD, List.getElem?_map, List.getElem?_drop, Nat.add_comm 1 x]
  cases M[x + 1]? <;> simp
/-- The sum along the first row, as far as k. -/
def rps (A : Px) (n : Nat) : Nat → List Int
  | 0 => []
  | k + 1 => if k % 2 = 1 then psub (rps A n k) (pmul (A 0 k) (pdet n (pcut A k))) else padd (rps A n k) (pmul (A 0 k) (pdet n (pcut A k)))
theorem rps_nm (A : Px) (n k : Nat) : Nm (rps A n k) := by
  cases k with
  | zero => exact Nm.nil
  | succ k => unfold rps; split; exact psub_nm _ _; exact padd_nm _ _
theorem rps_ev (A : Px) (n k : Nat) (t : Int) : pev (rps A n k) t = isum (fun j => sg (0 + j) * (evm A t 0 j * det n (cut (evm A t) 0 j))) k := by
  induction k with
  | zero => rfl
  | succ k ih =>
    have e : pev (pmul (A 0 k) (pdet n (pcut A k))) t = evm A t 0 k * det n (cut (evm A t) 0 k) := by
      rw [ev_pmul, ev_pdet]; rfl
    unfold rps isum
    split
    · rename_i h
      rw [ev_psub, ih, e, Nat.zero_add, show sg k = -1 from if_pos h]
      omega
    · rename_i h
      rw [ev_padd, ih, e, Nat.zero_add, show sg k = 1 from if_neg h]
      omega
theorem rps_all (A : Px) (n : Nat) : rps A n (n + 1) = pdet (n + 1) A := (rps_nm _ _ _).ext (pdet_nm _ _) fun t => by
  rw [rps_ev, ev_pdet, det_row _ (i := 0) (by omega)]
theorem rps_skip {A : Px} {n k : Nat} (h : dg (A 0 k) = 0) : rps A n (k + 1) = rps A n k := (rps_nm _ _ _).ext (rps_nm _ _ _) fun t => by
  rw [rps_ev, rps_ev]
  show _ + sg (0 + k) * (pev (A 0 k) t * _) = _
  rw [dg_zero.1 h t]
  simp
theorem rps_len {A : Px} {n l : Nat} (h : ∀ i j, (A i j).length ≤ l) (k : Nat) : (rps A n k).length ≤ (n + 1) * l + 1 := by
  induction k with
  | zero => exact Nat.zero_le _
  | succ k ih =>
    have h1 := pmul_len (A 0 k) (pdet n (pcut A k))
    have h2 := pdet_len (n := n) (A := pcut A k) fun i j => h _ _
    have h3 := h 0 k
    have h4 := psub_len (rps A n k) (pmul (A 0 k) (pdet n (pcut A k)))
    have h5 := padd_len (rps A n k) (pmul (A 0 k) (pdet n (pcut A k)))
    rw [Nat.succ_mul] at *
    unfold rps
    split <;> omega
theorem rps_sz {A : Px} {n k l : Nat} (h : ∀ i j, szR k (A i j)) (hl : ∀ i j, (A i j).length ≤ l) (h64 : l < 18446744073709551616) (j : Nat) : szR (k + pdk k n + 1 + j) (rps A n j) := by
  induction j with
  | zero => exact fun x hx => by simp [rps] at hx
  | succ j ih =>
    have h1 := pdet_sz (n := n) (A := pcut A j) (fun x y => h _ _) (fun x y => hl _ _) h64
    have h2 := ((h 0 j).pmul h1 (Nat.lt_of_le_of_lt (hl 0 j) h64)).mono (show k + pdk k n + 1 ≤ k + pdk k n + 1 + j by omega)
    unfold rps
    split
    · exact ih.psub h2
    · exact ih.padd h2
/-- A square one: sizes. -/
structure PSq (n k l : Nat) (M : List (List (List Int))) : Prop where
  rows : M.length = n
  cols : ∀ r, r ∈ M → r.length = n
  z : ∀ i j, szR k (pxm M i j)
  len : ∀ i j, (pxm M i j).length ≤ l
theorem PSq.min {n k l : Nat} {M : List (List (List Int))} (h : PSq (n + 1) k l M) {j : Nat} (hj : j < n + 1) : PSq n k l (pmin M j) :=
  ⟨by unfold pmin; rw [List.length_map, List.length_drop, h.rows]; omega, fun r hr => by
    obtain ⟨r', hr', rfl⟩ := List.mem_map.1 hr
    have := h.cols r' (List.mem_of_mem_drop hr')
    rw [List.length_eraseIdx_of_lt (by omega), this]; omega, fun x y => by rw [pxm_min]; exact h.z _ _, fun x y => by rw [pxm_min]; exact h.len _ _⟩
theorem pmin_snoc {M : List (List (List Int))} {i j : Nat} (h1 : 1 ≤ i) (h : i < M.length) : pmin (M.take (i + 1)) j = pmin (M.take i) j ++ [(M.getD i []).eraseIdx j] := by
  unfold pmin
  rw [take_snoc' [] h, List.drop_append_of_le_length (by rw [List.length_take]; omega), List.map_append]; rfl
theorem rPdet_meets (N k l : Nat) (hk : pdk k N + pdk k N ≤ 137438953472) (hl : N * l + 1 ≤ 268435456) (h64 : l < 18446744073709551616) (hN : N ≤ 1048576) (hk2 : k ≤ 137438953472) : ∀ (n : Nat) (v : Value) (M : List (List (List Int))), n ≤ N → PSq n k l M →
    Meets Try.prog 42 [v] [(v, PM M)] (fun r os fs => os = [] ∧ fs = [(r, vd (pdet n (pxm M)))])
  | 0, v, M, hn, hM => by
    refine meets_of_vc Try.func42 (by kernel_rfl) rfl (by kernel_rfl) (Nat.le_of_ble_eq_true rfl) ?_
    refine len_fact (by repeat (first | exact List.Mem.head _ | apply List.Mem.tail)) fun _ => ?_
    refine cmp_true rfl (by have := hM.rows; omega) ?_
    refine call_fn (rOf_meets 1 (by decide) (by decide)) (Seals.refl _ _) (by repeat (first | exact Sub.nil _ | refine Sub.cons (by repeat (first | exact List.Mem.head _ | apply List.Mem.tail)) ?_)) ?_
    rintro y0 _ _ ⟨rfl, rfl⟩
    refine lit_L (size := 2) (f := J) (z := z0) (e := 39) (cn 1) (by decide) (Reads.fact (by repeat (first | exact List.Mem.head _ | apply List.Mem.tail))) rfl fun l0 => ?_
    exact fin ⟨rfl, rfl⟩ (Seals.sub (by repeat (first | exact Sub.nil _ | refine Sub.cons (by repeat (first | exact List.Mem.head _ | apply List.Mem.tail)) ?_)))
  | n + 1, v, M, hn, hM => by
    have ih := fun u j hj => rPdet_meets N k l hk hl h64 hN hk2 n u (pmin M j) (by omega) (hM.min (j := j) hj)
    simp only [pxm_min] at ih
    have hrows := hM.rows
    have hcol : ∀ i, i < n + 1 → (M.getD i []).length = n + 1 := fun i hi => hM.cols _ (getD_mem [] (by omega))
    have hz := fun j => hM.z 0 j
    have hlen := fun j => hM.len 0 j
    have hps := fun j => rps_sz (n := n) hM.z hM.len h64 j
    have hpl := fun j => rps_len (n := n) hM.len j
    have hdz := fun j => pdet_sz (n := n) (A := pcut (pxm M) j) (fun x y => hM.z _ _) (fun x y => hM.len _ _) h64
    have hdl := fun j => pdet_len (n := n) (A := pcut (pxm M) j) fun x y => hM.len _ _
    have hall := rps_all (pxm M) n
    have hskip := fun j (h : dg (pxm M 0 j) = 0) => rps_skip (n := n) h
    have hstep : ∀ j, rps (pxm M) n (j + 1) = if j % 2 = 1 then psub (rps (pxm M) n j) (pmul (pxm M 0 j) (pdet n (pcut (pxm M) j))) else padd (rps (pxm M) n j) (pmul (pxm M 0 j) (pdet n (pcut (pxm M) j))) := fun j => rfl
    have hget : ∀ j, (M.getD 0 []).getD j [] = pxm M 0 j := fun j => rfl
    have hpk : k + pdk k n + 1 + (n + 1) ≤ pdk k N := Nat.le_trans (by have := pdk_succ k n; omega) (pdk_mono k hn)
    have hnl : (n + 1) * l + 1 ≤ 268435456 := Nat.le_trans (Nat.succ_le_succ (Nat.mul_le_mul_right _ hn)) hl
    have hnl1 : n * l + l + 1 ≤ 268435456 := by rw [← Nat.succ_mul]; exact hnl
    have hmin : pmin M = pmin (M.take (n + 1)) := by rw [List.take_of_length_le (by omega)]
    generalize pdet (n + 1) (pxm M) = E at *
    have hS0 : rps (pxm M) n 0 = [] := rfl
    generalize rps (pxm M) n = S at *
    refine meets_of_vc Try.func42 (by kernel_rfl) rfl (by kernel_rfl) (Nat.le_of_ble_eq_true rfl) ?_
    refine len_fact (by repeat (first | exact List.Mem.head _ | apply List.Mem.tail)) fun _ => ?_
    refine cmp_false rfl (by omega) ?_
    refine empty_F (size := 2) (e := 39) J z0 (by decide) fun e0 => ?_
    rw [show LD 2 J z0 [] = vd (S 0) by rw [hS0]; rfl]
    refine loop_rule (X := Nat × Value) (fun x => ([(0, v), (3, x.2), (4, .int .i64 (x.1 : Nat))], [], [(x.2, vd (S x.1)), (v, PM M)])) (fun x => x.1 ≤ n + 1) (fun x => n + 1 - x.1) rfl ?_ ?_
    · exact again (0, e0) (Nat.zero_le _) trivial (by repeat (first | exact trivial | refine ⟨rfl, ?_⟩ | refine ⟨i64_eq (by first | omega | (simp only; omega)), ?_⟩ | refine ⟨u64_eq (by first | omega | (simp only; omega)), ?_⟩)) (Seals.sub (by repeat (first | exact Sub.nil _ | refine Sub.cons (by repeat (first | exact List.Mem.head _ | apply List.Mem.tail)) ?_)))
    · rintro ⟨j, sv⟩ h1
      simp only at h1 ⊢
      refine len_fact (by repeat (first | exact List.Mem.head _ | apply List.Mem.tail)) fun _ => ?_
      refine cmp_split _ rfl (fun hj => ?_) (fun hj => ?_)
      rotate_left
      · have hjn : j = n + 1 := by omega
        subst hjn
        rw [← hall]
        exact fin ⟨rfl, rfl⟩ (Seals.sub (by repeat (first | exact Sub.nil _ | refine Sub.cons (by repeat (first | exact List.Mem.head _ | apply List.Mem.tail)) ?_)))
      have hjn : j < n + 1 := by omega
      have hz := hz j
      have hlen := hlen j
      have hps0 := hps j
      have hpl0 := hpl j
      have hdz := hdz j
      have hdl := hdl j
      have hskip := hskip j
      have hstep := hstep j
      have ih := fun u => ih u j hjn
      have hget := hget j
      generalize pdet n (pcut (pxm M) j) = D at *
      generalize pxm M 0 j = P at *
      have hPD := hz.pmul hdz (by omega)
      have lPD := pmul_len P D
      refine index_fact (by repeat (first | exact List.Mem.head _ | apply List.Mem.tail)) 0 rfl (by omega) fun a1 => ?_
      refine load_fact (d := PR (M.getD 0 [])) (by repeat (first | exact List.Mem.head _ | apply List.Mem.tail)) (show TOne Try.prog 62 from inferInstance) fun x1 => ?_
      refine index_fact (by repeat (first | exact List.Mem.head _ | apply List.Mem.tail)) j rfl (by rw [hcol 0 (by omega)]; omega) fun a2 => ?_
      refine load_fact (d := vd P) (by rw [← hget]; exact (by repeat (first | exact List.Mem.head _ | apply List.Mem.tail))) (load_P _) fun x2 => ?_
      refine call_fn (rDegreeT x2 P hz (by omega)) (Seals.refl _ _) (by repeat (first | exact Sub.nil _ | refine Sub.cons (by repeat (first | exact List.Mem.head _ | apply List.Mem.tail)) ?_)) ?_
      rintro _ _ _ ⟨rfl, rfl, rfl⟩
      refine cmp_split _ rfl (fun hd => ?_) (fun hd => ?_)
      · refine ar rfl (by first | exact ⟨by omega, by omega⟩ | (simp only [inK]; omega)) ?_
        refine again (j + 1, sv) (by simp only; omega) (by simp only; omega) (by repeat (first | exact trivial | refine ⟨rfl, ?_⟩ | refine ⟨i64_eq (by first | omega | (simp only; omega)), ?_⟩ | refine ⟨u64_eq (by first | omega | (simp only; omega)), ?_⟩)) ?_
        simp only
        rw [hskip (by omega)]
        exact Seals.sub (by repeat (first | exact Sub.nil _ | refine Sub.cons (by repeat (first | exact List.Mem.head _ | apply List.Mem.tail)) ?_))
      refine empty_L (size := 1) (e := 62) PR [] (by decide) fun w0 hw0 => ?_
      refine loop_rule (X := Nat × Value) (fun x => ([(0, v), (3, sv), (4, .int .i64 (j : Nat)), (5, x.2), (6, .int .i64 (x.1 : Nat))], [ownL 1 PR [] x.2 (pmin (M.take x.1) j)], [(sv, vd (S j)), (v, PM M)])) (fun x => 1 ≤ x.1 ∧ x.1 ≤ n + 1 ∧ isSl x.2) (fun x => n + 1 - x.1) rfl ?_ ?_
      · refine again (1, w0) ⟨Nat.le_refl _, by simp only; omega, hw0⟩ trivial (by repeat (first | exact trivial | refine ⟨rfl, ?_⟩ | refine ⟨i64_eq (by first | omega | (simp only; omega)), ?_⟩ | refine ⟨u64_eq (by first | omega | (simp only; omega)), ?_⟩)) ?_
        rw [show pmin (M.take (1, w0).1) j = [] by unfold pmin; rw [List.drop_of_length_le (by simp; omega)]; rfl]
        exact Seals.sub (by repeat (first | exact Sub.nil _ | refine Sub.cons (by repeat (first | exact List.Mem.head _ | apply List.Mem.tail)) ?_))
      · rintro ⟨i, w⟩ ⟨hi1, hi2, hw⟩
        simp only at hi1 hi2 hw ⊢
        refine len_fact (by repeat (first | exact List.Mem.head _ | apply List.Mem.tail)) fun _ => ?_
        refine cmp_split _ rfl (fun hi => ?_) (fun hi => ?_)
        · have hin : i < n + 1 := by omega
          have hc := hcol i hin
          have hpm : (pmin (M.take i) j).length ≤ i := by unfold pmin; simp; omega
          refine empty_L (size := 1) (e := 28) vd [] (by decide) fun w1 hw1 => ?_
          refine index_fact (by repeat (first | exact List.Mem.head _ | apply List.Mem.tail)) i rfl (by omega) fun a1 => ?_
          refine load_fact (d := PR (M.getD i [])) (by repeat (first | exact List.Mem.head _ | apply List.Mem.tail)) (show TOne Try.prog 62 from inferInstance) fun x1 => ?_
          refine slice_L (size := 1) (f := vd) (z := []) (l := M.getD i []) (kl := .i64) (kh := .i64) (by repeat (first | exact List.Mem.head _ | apply List.Mem.tail)) 0 j _ _ (.inl ⟨rfl, rfl⟩) (.inr rfl) (Nat.zero_le _) (by omega) fun u1 => ?_
          refine append_L (size := 1) (e := 28) 0 rfl hw1 (Knw.fact (by repeat (first | exact List.Mem.head _ | apply List.Mem.tail))) (by simp only [List.length_drop, List.length_take, List.length_nil]; omega) (by simp only [List.length_drop, List.length_take, List.length_nil]; omega) fun w2 hw2 => ?_
          refine index_fact (by repeat (first | exact List.Mem.head _ | apply List.Mem.tail)) i rfl (by omega) fun a2 => ?_
          refine load_fact (d := PR (M.getD i [])) (by repeat (first | exact List.Mem.head _ | apply List.Mem.tail)) (show TOne Try.prog 62 from inferInstance) fun x2 => ?_
          refine ar rfl (by first | exact ⟨by omega, by omega⟩ | (simp only [inK]; omega)) ?_
          refine slice_L (size := 1) (f := vd) (z := []) (l := M.getD i []) (kl := .i64) (kh := .i64) (by repeat (first | exact List.Mem.head _ | apply List.Mem.tail)) (j + 1) (M.getD i []).length _ _ (.inr rfl) (.inl ⟨rfl, rfl⟩) (by omega) (Nat.le_refl _) fun u2 => ?_
          refine append_L (size := 1) (e := 28) 0 rfl hw2 (Knw.fact (by repeat (first | exact List.Mem.head _ | apply List.Mem.tail))) (by simp only [List.length_append, List.length_drop, List.length_take, List.length_nil]; omega) (by simp only [List.length_append, List.length_drop, List.length_take, List.length_nil]; omega) fun w3 hw3 => ?_
          refine BuildSliceK.pre (Seals.L 0 rfl hw3) ?_
          have e : [] ++ List.drop 0 (List.take j (M.getD i [])) ++ List.drop (j + 1) (List.take (M.getD i []).length (M.getD i [])) = (M.getD i []).eraseIdx j := by
            rw [List.take_length, List.drop_zero, List.nil_append, List.eraseIdx_eq_take_drop_succ]
          rw [e]
          refine lit_L (size := 1) (e := 62) PR [] ((M.getD i []).eraseIdx j) (by decide) (Reads.fact (d := PR ((M.getD i []).eraseIdx j)) (by repeat (first | exact List.Mem.head _ | apply List.Mem.tail))) rfl fun l1 => ?_
          refine append_L (size := 1) (e := 62) (f := PR) (z := []) 0 rfl hw (Knw.fact (by repeat (first | exact List.Mem.head _ | apply List.Mem.tail))) (by simp; omega) (by simp; omega) fun w4 hw4 => ?_
          refine ar rfl (by first | exact ⟨by omega, by omega⟩ | (simp only [inK]; omega)) ?_
          refine again (i + 1, w4) ⟨by simp only; omega, by simp only; omega, hw4⟩ (by simp only; omega) (by repeat (first | exact trivial | refine ⟨rfl, ?_⟩ | refine ⟨i64_eq (by first | omega | (simp only; omega)), ?_⟩ | refine ⟨u64_eq (by first | omega | (simp only; omega)), ?_⟩)) ?_
          simp only [pmin_snoc hi1 (show i < M.length by omega)]
          exact Seals.sub (by repeat (first | exact Sub.nil _ | refine Sub.cons (by repeat (first | exact List.Mem.head _ | apply List.Mem.tail)) ?_))
        · have hin : i = n + 1 := by omega
          subst hin
          rw [← hmin]
          refine draw_rule [0, 1, 2, 3, 4, 5, 6, 7, 8, 9] [0, 1, 2, 3, 4, 5, 6, 7, 8, 9] (by kernel_rfl) (by kernel_rfl) ?_
          refine index_fact (by repeat (first | exact List.Mem.head _ | apply List.Mem.tail)) 0 rfl (by omega) fun a1 => ?_
          refine load_fact (d := PR (M.getD 0 [])) (by repeat (first | exact List.Mem.head _ | apply List.Mem.tail)) (show TOne Try.prog 62 from inferInstance) fun x1 => ?_
          refine index_fact (by repeat (first | exact List.Mem.head _ | apply List.Mem.tail)) j rfl (by rw [hcol 0 (by omega)]; omega) fun a2 => ?_
          refine load_fact (d := vd P) (by rw [← hget]; exact (by repeat (first | exact List.Mem.head _ | apply List.Mem.tail))) (load_P _) fun x2 => ?_
          refine call_fn (ih w) (Seals.L 0 rfl hw) (by repeat (first | exact Sub.nil _ | refine Sub.cons (by repeat (first | exact List.Mem.head _ | apply List.Mem.tail)) ?_)) ?_
          rintro m1 _ _ ⟨rfl, rfl⟩
          refine call_fn (rPMulT x2 m1 P D _ _ hz hdz (by omega) (by omega) (by omega)) (Seals.refl _ _) (by repeat (first | exact Sub.nil _ | refine Sub.cons (by repeat (first | exact List.Mem.head _ | apply List.Mem.tail)) ?_)) ?_
          rintro m2 _ _ ⟨rfl, rfl⟩
          refine rem_rule (by omega) (by decide) ?_
          refine cmp_split _ rfl (fun ho => ?_) (fun ho => ?_)
          · rw [if_pos (by omega)] at hstep
            refine call_fn (rPSubT sv m2 (S j) _ (k + pdk k n + 1 + (n + 1)) (hps0.mono (by omega)) (hPD.mono (by omega)) (by omega) (by omega) (by omega) (by omega)) (Seals.refl _ _) (by repeat (first | exact Sub.nil _ | refine Sub.cons (by repeat (first | exact List.Mem.head _ | apply List.Mem.tail)) ?_)) ?_
            rintro sv' _ _ ⟨rfl, rfl⟩
            refine ar rfl (by first | exact ⟨by omega, by omega⟩ | (simp only [inK]; omega)) ?_
            refine again (j + 1, sv') (by simp only; omega) (by simp only; omega) (by repeat (first | exact trivial | refine ⟨rfl, ?_⟩ | refine ⟨i64_eq (by first | omega | (simp only; omega)), ?_⟩ | refine ⟨u64_eq (by first | omega | (simp only; omega)), ?_⟩)) ?_
            simp only
            rw [hstep]
            exact Seals.sub (by repeat (first | exact Sub.nil _ | refine Sub.cons (by repeat (first | exact List.Mem.head _ | apply List.Mem.tail)) ?_))
          · rw [if_neg (by omega)] at hstep
            refine call_fn (rPAddT sv m2 (S j) _ (k + pdk k n + 1 + (n + 1)) (hps0.mono (by omega)) (hPD.mono (by omega)) (by omega) (by omega) (by omega)) (Seals.refl _ _) (by repeat (first | exact Sub.nil _ | refine Sub.cons (by repeat (first | exact List.Mem.head _ | apply List.Mem.tail)) ?_)) ?_
            rintro sv' _ _ ⟨rfl, rfl⟩
            refine ar rfl (by first | exact ⟨by omega, by omega⟩ | (simp only [inK]; omega)) ?_
            refine again (j + 1, sv') (by simp only; omega) (by simp only; omega) (by repeat (first | exact trivial | refine ⟨rfl, ?_⟩ | refine ⟨i64_eq (by first | omega | (simp only; omega)), ?_⟩ | refine ⟨u64_eq (by first | omega | (simp only; omega)), ?_⟩)) ?_
            simp only
            rw [hstep]
            exact Seals.sub (by repeat (first | exact Sub.nil _ | refine Sub.cons (by repeat (first | exact List.Mem.head _ | apply List.Mem.tail)) ?_))
theorem pdet_congr {n : Nat} {A B : Px} (h : ∀ i j, i < n → j < n → A i j = B i j) : pdet n A = pdet n B := (pdet_nm _ _).ext (pdet_nm _ _) fun t => by
  rw [ev_pdet, ev_pdet]; exact det_congr fun i j hi hj => by unfold evm; rw [h i j hi hj]
theorem syL_get {F : List (List Int)} {d i wide k : Nat} : (syL F d i wide).getD k [] = if k < wide then syRow F d i k else [] := by
  unfold syL
  by_cases h : k < wide
  · rw [if_pos h]; simp [List.getD_eq_getElem?_getD, h]
  · rw [if_neg h, getD_end (by simp; omega)]
theorem syM_get {F : List (List Int)} {d i many wide : Nat} (h : i < many) : (syM F d many wide).getD i [] = syL F d i wide := by
  unfold syM; simp [List.getD_eq_getElem?_getD, h]
theorem pxm_sy (A B : List (List Int)) (m n i j : Nat) : pxm (syM A m n (m + n) ++ syM B n m (m + n)) i j = if i < m + n ∧ j < m + n then syX A B m n i j else [] := by
  have l1 : (syM A m n (m + n)).length = n := by simp [syM]
  have l2 : (syM B n m (m + n)).length = m := by simp [syM]
  unfold pxm syX
  by_cases h1 : i < n
  · rw [show (syM A m n (m + n) ++ syM B n m (m + n)).getD i [] = (syM A m n (m + n)).getD i [] by simp only [List.getD_eq_getElem?_getD]; rw [List.getElem?_append_left (by omega)], syM_get h1, syL_get, if_pos h1]
    by_cases h2 : j < m + n
    · rw [if_pos h2, if_pos (by omega)]
    · rw [if_neg h2, if_neg (by omega)]
  · by_cases h3 : i < m + n
    · rw [show (syM A m n (m + n) ++ syM B n m (m + n)).getD i [] = (syM B n m (m + n)).getD (i - n) [] by simp only [List.getD_eq_getElem?_getD]; rw [List.getElem?_append_right (by omega), l1], syM_get (by omega), syL_get, if_neg h1]
      by_cases h2 : j < m + n
      · rw [if_pos h2, if_pos (by omega)]
      · rw [if_neg h2, if_neg (by omega)]
    · rw [getD_end (l := _ ++ _) (by rw [List.length_append]; omega), if_neg (by omega)]; rfl
theorem rElim12_meets (v w : Value) {g h : List Row} {G H : List (List Int)} {k n : Nat} (hg : Lg g G k n) (hh : Lg h H k n) (h0 : 0 < n) (hn : n ≤ 1024) (hk : pdk k (2 * n) + pdk k (2 * n) ≤ 137438953472) (hk2 : k ≤ 137438953472) :
    Meets Try.prog 12 [v, w] [(v, W g), (w, W h)] (fun r os fs => os = [] ∧ fs = [(r, vd (gel G H))]) := by
  have c1 := rTurn12_meets v g (hg.gf hk2 (by omega))
  have c2 := rTurn12_meets w h (hh.gf hk2 (by omega))
  rw [hg.val] at c1
  rw [hh.val] at c2
  have d1 := hg.tu
  have d2 := hh.tu
  have e1 := hg.dy'
  have e2 := hh.dy'
  have hgel : ∀ h1 : ¬ (gtu G = [] ∨ gtu H = []), gel G H = pdet (dy G + dy H) (syX (gtu G) (gtu H) (dy G) (dy H)) := fun h1 => if_neg h1
  have hgn : gtu G = [] ∨ gtu H = [] → gel G H = [] := gel_none
  have hl1 := fun h1 : gtu G ≠ [] => dy_len h1
  have hl2 := fun h1 : gtu H ≠ [] => dy_len h1
  have hb := fun i j => syX_b (k := k) (l := n) d1.g d2.g (dy G) (dy H) i j
  have la := d1.ll
  have lb := d2.ll
  generalize gel G H = E at *
  generalize dy G = m at *
  generalize dy H = m' at *
  generalize gtu G = A at *
  generalize gtu H = B at *
  refine meets_of_vc Try.func12 (by kernel_rfl) rfl (by kernel_rfl) (Nat.le_of_ble_eq_true rfl) ?_
  refine call_fn (c1) (Seals.refl _ _) (by repeat (first | exact Sub.nil _ | refine Sub.cons (by repeat (first | exact List.Mem.head _ | apply List.Mem.tail)) ?_)) ?_
  rintro va _ _ ⟨rfl, rfl⟩
  refine call_fn (c2) (Seals.refl _ _) (by repeat (first | exact Sub.nil _ | refine Sub.cons (by repeat (first | exact List.Mem.head _ | apply List.Mem.tail)) ?_)) ?_
  rintro vb _ _ ⟨rfl, rfl⟩
  refine len_wd (by repeat (first | exact List.Mem.head _ | apply List.Mem.tail)) ?_
  refine cmp_split _ rfl (fun hA => ?_) (fun hA => ?_)
  · rw [hgn (.inl (List.length_eq_zero_iff.1 (by omega)))]
    refine empty_F (size := 2) (e := 39) J z0 (by decide) fun e0 => ?_
    exact fin ⟨rfl, rfl⟩ (Seals.sub (by repeat (first | exact Sub.nil _ | refine Sub.cons (by repeat (first | exact List.Mem.head _ | apply List.Mem.tail)) ?_)))
  refine len_wd (by repeat (first | exact List.Mem.head _ | apply List.Mem.tail)) ?_
  refine cmp_split _ rfl (fun hB => ?_) (fun hB => ?_)
  · rw [hgn (.inr (List.length_eq_zero_iff.1 (by omega)))]
    refine empty_F (size := 2) (e := 39) J z0 (by decide) fun e0 => ?_
    exact fin ⟨rfl, rfl⟩ (Seals.sub (by repeat (first | exact Sub.nil _ | refine Sub.cons (by repeat (first | exact List.Mem.head _ | apply List.Mem.tail)) ?_)))
  have hA' : A ≠ [] := fun e => hA (by rw [e]; rfl)
  have hB' : B ≠ [] := fun e => hB (by rw [e]; rfl)
  have hE := hgel fun e => e.elim hA' hB'
  have la' := hl1 hA'
  have lb' := hl2 hB'
  refine len_wd (by repeat (first | exact List.Mem.head _ | apply List.Mem.tail)) ?_
  refine ar (n := ((m : Nat) : Int)) (by simp only [arZ, Option.some.injEq]; omega) (by first | exact ⟨by omega, by omega⟩ | (simp only [inK]; omega)) ?_
  refine len_wd (by repeat (first | exact List.Mem.head _ | apply List.Mem.tail)) ?_
  refine ar (n := ((m' : Nat) : Int)) (by simp only [arZ, Option.some.injEq]; omega) (by first | exact ⟨by omega, by omega⟩ | (simp only [inK]; omega)) ?_
  refine ar (n := ((m + m' : Nat) : Int)) (by simp [arZ]) (by first | exact ⟨by omega, by omega⟩ | (simp only [inK]; omega)) ?_
  refine call_fn (rRows12_meets va A m m' (m + m') la' (by omega) (by omega) (by omega)) (Seals.refl _ _) (by repeat (first | exact Sub.nil _ | refine Sub.cons (by repeat (first | exact List.Mem.head _ | apply List.Mem.tail)) ?_)) ?_
  rintro r1 _ _ ⟨hr1, rfl, rfl⟩
  refine ar (n := ((m + m' : Nat) : Int)) (by simp [arZ]) (by first | exact ⟨by omega, by omega⟩ | (simp only [inK]; omega)) ?_
  refine call_fn (rRows12_meets vb B m' m (m + m') lb' (by omega) (by omega) (by omega)) (Seals.refl _ _) (by repeat (first | exact Sub.nil _ | refine Sub.cons (by repeat (first | exact List.Mem.head _ | apply List.Mem.tail)) ?_)) ?_
  rintro r2 _ _ ⟨hr2, rfl, rfl⟩
  have l1 : (syM A m m' (m + m')).length = m' := by simp [syM]
  have l2 : (syM B m' m (m + m')).length = m := by simp [syM]
  refine AppendK.pre (Seals.L 0 rfl hr2) ?_
  refine append_L (size := 1) (e := 62) (f := PR) (z := []) 0 rfl hr1 (Knw.fact (by repeat (first | exact List.Mem.head _ | apply List.Mem.tail))) (by omega) (by omega) fun r3 hr3 => ?_
  have hsq : PSq (m + m') k n (syM A m m' (m + m') ++ syM B m' m (m + m')) := by
    refine ⟨by rw [List.length_append]; omega, fun r hr => ?_, fun i j => ?_, fun i j => ?_⟩
    · rcases List.mem_append.1 hr with hr | hr
      all_goals
        obtain ⟨i, _, rfl⟩ := List.mem_map.1 hr
        simp [syL]
    · rw [pxm_sy]; split
      · exact (hb _ _).1
      · exact fun x hx => by simp at hx
    · rw [pxm_sy]; split
      · exact (hb _ _).2
      · exact Nat.zero_le _
  have hnn : 2 * n * n + 1 ≤ 268435456 := by
    have : 2 * n * n ≤ 2 * 1024 * 1024 := Nat.mul_le_mul (by omega) hn
    omega
  refine call_fn (rPdet_meets (2 * n) k n hk hnn (by omega) (by omega) hk2 (m + m') r3 _ (by omega) hsq) (Seals.L 0 rfl hr3) (by repeat (first | exact Sub.nil _ | refine Sub.cons (by repeat (first | exact List.Mem.head _ | apply List.Mem.tail)) ?_)) ?_
  rintro r _ _ ⟨rfl, rfl⟩
  have hE2 : E = pdet (m + m') (pxm (syM A m m' (m + m') ++ syM B m' m (m + m'))) := by
    rw [hE]; exact (pdet_congr fun i j hi hj => by rw [pxm_sy, if_pos ⟨hi, hj⟩]).symm
  rw [hE2]
  exact fin ⟨rfl, rfl⟩ (Seals.sub (by repeat (first | exact Sub.nil _ | refine Sub.cons (by repeat (first | exact List.Mem.head _ | apply List.Mem.tail)) ?_)))
theorem gEliminates_meets (u v : Value) (p q : List Row) (hp : limM p) (hq : limM q) :
    Meets Try.prog 3 [u, v] [(u, W p), (v, W q)] (fun r os fs => os = [] ∧ fs = [] ∧ r = .bool true) := by
  refine meets_of_vc Try.func3 (by kernel_rfl) rfl (by kernel_rfl) (Nat.le_of_ble_eq_true rfl) ?_
  refine call_fn shownG_meets (Seals.refl _ _) (by repeat (first | exact Sub.nil _ | refine Sub.cons (by repeat (first | exact List.Mem.head _ | apply List.Mem.tail)) ?_)) ?_
  rintro _ _ _ ⟨rfl, rfl, rfl⟩
  refine call_fn (gFits_meets u p 3 3 1) (Seals.refl _ _) (by repeat (first | exact Sub.nil _ | refine Sub.cons (by repeat (first | exact List.Mem.head _ | apply List.Mem.tail)) ?_)) ?_
  rintro _ _ _ ⟨rfl, rfl, rfl⟩
  by_cases sp : small 3 3 1 p
  case neg =>
    rw [decide_eq_false sp]
    exact fin ⟨rfl, rfl, rfl⟩ (Seals.nil _ _)
  rw [decide_eq_true sp]
  refine call_fn (gFits_meets v q 3 3 1) (Seals.refl _ _) (by repeat (first | exact Sub.nil _ | refine Sub.cons (by repeat (first | exact List.Mem.head _ | apply List.Mem.tail)) ?_)) ?_
  rintro _ _ _ ⟨rfl, rfl, rfl⟩
  by_cases sq : small 3 3 1 q
  case neg =>
    rw [decide_eq_false sq]
    exact fin ⟨rfl, rfl, rfl⟩ (Seals.nil _ _)
  rw [decide_eq_true sq]
  obtain ⟨G, P⟩ : ∃ l, Lg p l 1 3 := ⟨_, Lg.raw sp hp⟩
  obtain ⟨H, Q⟩ : ∃ l, Lg q l 1 3 := ⟨_, Lg.raw sq hq⟩
  have o1 := gOwn_meets u p (Nat.le_trans P.len (by decide)) fun r hr => ⟨Nat.le_trans (P.row r hr).1 (by decide), fun x hx => Nat.le_trans ((P.row r hr).2 x hx).2 (by decide)⟩
  have o2 := gOwn_meets v q (Nat.le_trans Q.len (by decide)) fun r hr => ⟨Nat.le_trans (Q.row r hr).1 (by decide), fun x hx => Nat.le_trans ((Q.row r hr).2 x hx).2 (by decide)⟩
  refine call_fn (o1) (Seals.refl _ _) (by repeat (first | exact Sub.nil _ | refine Sub.cons (by repeat (first | exact List.Mem.head _ | apply List.Mem.tail)) ?_)) ?_
  rintro a _ _ ⟨rfl, rfl⟩
  refine call_fn (o2) (Seals.refl _ _) (by repeat (first | exact Sub.nil _ | refine Sub.cons (by repeat (first | exact List.Mem.head _ | apply List.Mem.tail)) ?_)) ?_
  rintro b _ _ ⟨rfl, rfl⟩
  refine call_fn (rElim12_meets u v P Q (by decide) (by decide) (by decide) (by decide)) (Seals.refl _ _) (by repeat (first | exact Sub.nil _ | refine Sub.cons (by repeat (first | exact List.Mem.head _ | apply List.Mem.tail)) ?_)) ?_
  rintro x1 _ _ ⟨rfl, rfl⟩
  refine call_fn (xgElim a b P Q) (Seals.refl _ _) (by repeat (first | exact Sub.nil _ | refine Sub.cons (by repeat (first | exact List.Mem.head _ | apply List.Mem.tail)) ?_)) ?_
  rintro x2 _ _ ⟨rfl, rfl⟩
  refine call_fn (xgElim a b P Q) (Seals.refl _ _) (by repeat (first | exact Sub.nil _ | refine Sub.cons (by repeat (first | exact List.Mem.head _ | apply List.Mem.tail)) ?_)) ?_
  rintro x3 _ _ ⟨rfl, rfl⟩
  refine call_fn (exactT x2 x1 _ _ rfl) (Seals.refl _ _) (by repeat (first | exact Sub.nil _ | refine Sub.cons (by repeat (first | exact List.Mem.head _ | apply List.Mem.tail)) ?_)) ?_
  rintro _ _ _ ⟨rfl, rfl, rfl⟩
  refine call_fn (exactT x3 x1 _ _ rfl) (Seals.refl _ _) (by repeat (first | exact Sub.nil _ | refine Sub.cons (by repeat (first | exact List.Mem.head _ | apply List.Mem.tail)) ?_)) ?_
  rintro _ _ _ ⟨rfl, rfl, rfl⟩
  refine call_fn (gsameV a u p) (Seals.refl _ _) (by repeat (first | exact Sub.nil _ | refine Sub.cons (by repeat (first | exact List.Mem.head _ | apply List.Mem.tail)) ?_)) ?_
  rintro _ _ _ ⟨rfl, rfl, rfl⟩
  refine call_fn (gsameV b v q) (Seals.refl _ _) (by repeat (first | exact Sub.nil _ | refine Sub.cons (by repeat (first | exact List.Mem.head _ | apply List.Mem.tail)) ?_)) ?_
  rintro _ _ _ ⟨rfl, rfl, rfl⟩
  exact fin ⟨rfl, rfl, rfl⟩ (Seals.nil _ _)
end Go.Proofs.Ytfkeohlpcjpkbaa

namespace Go.Proofs.Ytfkeohlpcjpkbaa
open Go.ChangeShapes Go.WideShapes Go.ChangeAt Go.RowKit
open Go.Joins (open_agg2)
set_option maxRecDepth 100000 in
theorem gridEliminates_lifted (os : Os) (started : os.Started) (H : Type) (enc : TypeId × Value → H) :
    ReturnsInHanded {} Try.checked os 3 .any (Rows.gridEliminatesSpec.pre6 enc Try.prog Try.f3 Rows.gridEliminatesRow.domain false) (Rows.gridEliminatesSpec.post enc Try.prog Try.f3 false true false false) := by
  refine returnsInHanded_of_change (C := Try.checked) own0 started (by kernel_rfl) Try.func3
    (ChangeSpec.witness6 (enc := enc) (C := Try.checked) false ⟨#[], #[.slice none 0 0, .slice none 0 0], []⟩ 8 (by kernel_rfl) (by kernel_rfl) (by kernel_rfl) (by kernel_rfl)) ?_
  intro Wd base args ds gs before hval0 hW hcnd _
  have hval : ∀ (j : Nat) t v, Try.f3.params[j]? = some t → args[j]? = some v → Value.okWide Try.prog Wd .any base t v := hval0
  have hW' := hW
  obtain ⟨p, q, hA0, hV, rfl, hfz, hnd⟩ := hW
  have hA : DataW.TrodAll enc Try.prog Wd 0 (fun _ => true) true Try.f3.params.toList args.toList ds p := hA0
  rw [Try.params3] at hA hval
  obtain ⟨v0, vs0, d0, ds0, p0, q0, hargs, rfl, rfl, h0, r0⟩ := trodAll_cons hA
  obtain ⟨v1, vs1, d1, ds1, p1, q1, rfl, rfl, rfl, h1, r1⟩ := trodAll_cons r0
  obtain ⟨rfl, rfl, rfl⟩ := trodAll_nil r1
  obtain rfl : args = #[v0, v1] := by cases args; simp_all
  obtain ⟨rfl, rfl⟩ := trodVars_none hV
  obtain ⟨a0, n0, c0, rfl⟩ := okWide_slice Try.underlying23 (hval 0 23 v0 rfl rfl)
  have k0 := h0
  have lt0 : ∀ x ∈ p0, x.block < Wd.heap.size := by obtain ⟨m, hm⟩ := k0; exact DataW.trod_lt m _ _ _ hm
  obtain ⟨m0, lm0, rd0⟩ : ∃ m, limM m ∧ Rd (fun b => b < Wd.heap.size) Wd (.slice a0 n0 c0) (W m) := by
    obtain ⟨fuel, hf⟩ := h0
    obtain ⟨m, e1, e2⟩ := rd_grid hf
    exact ⟨m, e1, rd_val rfl e2⟩
  obtain ⟨a1, n1, c1, rfl⟩ := okWide_slice Try.underlying23 (hval 1 23 v1 rfl rfl)
  have k1 := h1
  have lt1 : ∀ x ∈ p1, x.block < Wd.heap.size := by obtain ⟨m, hm⟩ := k1; exact DataW.trod_lt m _ _ _ hm
  obtain ⟨m1, lm1, rd1⟩ : ∃ m, limM m ∧ Rd (fun b => b < Wd.heap.size) Wd (.slice a1 n1 c1) (W m) := by
    obtain ⟨fuel, hf⟩ := h1
    obtain ⟨m, e1, e2⟩ := rd_grid hf
    exact ⟨m, e1, rd_val rfl e2⟩
  clear hA0 hval0
  refine (calls_of_meets (w := Wd) (gEliminates_meets (.slice a0 n0 c0) (.slice a1 n1 c1) m0 m1 lm0 lm1) ?_).mono fun e W2 ⟨he, bel⟩ => ?_
  · intro F hF
    simp only [List.mem_cons, List.not_mem_nil, or_false] at hF
    rcases hF with rfl | rfl
    · exact rd0
    · exact rd1
  subst he
  exact ⟨_, rfl, _, _, _, [], _, [], hW', trodAll_mk1 (shut_bool Try.underlying4 _), (trodAll_cons_mk (Below.trod laid0 (by kernel_rfl) (of_decide_eq_true (by kernel_rfl)) k0 bel lt0) (trodAll_cons_mk (Below.trod laid0 (by kernel_rfl) (of_decide_eq_true (by kernel_rfl)) k1 bel lt1) trodAll_mk0)), rfl, bel.frame _, fun h => by cases h⟩
theorem gridEliminates_holds : Rows.GridEliminatesSaid :=
  OpenClaim.holds_of_wide 3 Try.f3 rfl rfl rfl rfl rfl rfl rfl ⟨rfl, rfl, rfl, rfl, rfl⟩ rfl rfl rfl rfl rfl (by kernel_rfl) Try.func3 (by kernel_rfl)
    (of_decide_eq_true (by kernel_rfl)) (by unfold Func.isWrapper; first | (rw [if_pos (by decide +kernel)]; kernel_rfl) | (rw [if_neg (by decide +kernel)]; exact ⟨rfl, rfl⟩))
    (fun os started H enc _ => gridEliminates_lifted os started H enc)
#print axioms gridEliminates_holds
end Go.Proofs.Ytfkeohlpcjpkbaa
