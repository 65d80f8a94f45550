/- The law GridValues is true of each input, and changes none. No condition. -/
import Derived.Test.YtfkeohlpcjpkbaaM4
import Derived.Test.YtfkeohlpcjpkbaaRows
import Derived.OpenShut
import Derived.Below
import Derived.Lib.SmallJoins
set_option linter.unusedVariables false
set_option linter.unusedSimpArgs false

namespace Go.Proofs.Ytfkeohlpcjpkbaa
open Go.RowKit
abbrev toW (G : List (List Int)) : List Row := G.map (·.map cn)
theorem ww_toW (G : List (List Int)) : ww (toW G) = G := by
  unfold ww
  rw [List.map_map]
  conv => rhs; rw [← List.map_id G]
  exact List.map_congr_left fun r _ => vv_cn r
theorem gmuE_gn (g h : List Row) : Gn (gmuE g h) := by
  unfold gmuE; split
  · exact ⟨rfl, fun r hr => by simp at hr⟩
  · exact gof_gn _ _ _
/-- The product. -/
def gmu (G H : List (List Int)) : List (List Int) := gmuE (toW G) (toW H)
theorem gmu_gn (G H : List (List Int)) : Gn (gmu G H) := gmuE_gn _ _
theorem gev_gmu (G H : List (List Int)) (x y : Int) : gev (gmu G H) x y = gev G x y * gev H x y := by
  rw [gmu, gev_gmuE, ww_toW, ww_toW]
theorem gmuE_eq (g h : List Row) : gmuE g h = gmu (ww g) (ww h) := (gmuE_gn _ _).ev_ext (gmu_gn _ _) fun x y => by rw [gev_gmuE, gev_gmu]
theorem gev_gn (G : List (List Int)) (x y : Int) : gev (gn G) x y = gev G x y := gev_co (gn_gv G) x y
/-- A grid's rows, what they stand for, limbs and lengths. -/
structure Lg (A : List Row) (G : List (List Int)) (k n : Nat) : Prop where
  val : ww A = G
  len : A.length ≤ n
  row : ∀ r, r ∈ A → r.length ≤ n ∧ Fit k r
theorem Lg.raw {n k : Nat} {m : List Row} (h : small n n k m) (hl : limM m) : Lg m (ww m) k n := ⟨rfl, h.1, fun r hr => ⟨(h.2 r hr).1, fun x hx => ⟨hl r hr x hx, (h.2 r hr).2 x hx⟩⟩⟩
theorem Lg.told {G : List (List Int)} {k n : Nat} (h : G.length ≤ n) (hr : ∀ r, r ∈ G → r.length ≤ n ∧ szR k r) : Lg (toW G) G k n :=
  ⟨ww_toW G, by rw [List.length_map]; exact h, fun r hr' => by
    obtain ⟨l, hl, rfl⟩ := List.mem_map.1 hr'
    exact ⟨by rw [List.length_map]; exact (hr l hl).1, (hr l hl).2.fit⟩⟩
section
variable {A B : List Row} {G H : List (List Int)} {k j n n' : Nat}
theorem Lg.mono (h : Lg A G k n) (hk : k ≤ j) (hn : n ≤ n') : Lg A G j n' := ⟨h.val, Nat.le_trans h.len hn, fun r hr => ⟨Nat.le_trans (h.row r hr).1 hn, (h.row r hr).2.mono hk⟩⟩
theorem Lg.gf (h : Lg A G k n) (hk : k ≤ j) (hn : n ≤ 1048576) : Gf j A := ⟨Nat.le_trans h.len hn, fun r hr => ⟨Nat.le_trans (h.row r hr).1 hn, (h.row r hr).2.mono hk⟩⟩
theorem Lg.gs (h : Lg A G k n) (hn : n ≤ 1024) : Gs k A := ⟨Nat.le_trans h.len hn, fun r hr => ⟨Nat.le_trans (h.row r hr).1 hn, (h.row r hr).2⟩⟩
theorem Lg.ll (h : Lg A G k n) : G.length ≤ n := by rw [← h.val, ww_len]; exact h.len
theorem Lg.g (h : Lg A G k n) (i : Nat) : szR k (G.getD i []) ∧ (G.getD i []).length ≤ n := by
  rw [← h.val, ww_get]
  by_cases hi : i < A.length
  · have := h.row _ (getD_mem [] hi)
    exact ⟨this.2.szR, by rw [vv_len]; exact this.1⟩
  · rw [getD_end (l := A) (by omega)]
    exact ⟨fun x hx => by simp [vv] at hx, Nat.zero_le _⟩
theorem Lg.gv (h : Lg A G k n) (i j : Nat) : sz (Go.Proofs.Ytfkeohlpcjpkbaa.gv G i j) k := (h.g i).1.get j
theorem Lg.dx (h : Lg A G k n) : gdx G ≤ n := Nat.le_trans (gdxN_le _ _) h.ll
theorem Lg.dy (h : Lg A G k n) : gdy G ≤ n := gdyN_le (fun i => Nat.le_trans (dg_le_len _) (h.g i).2) _
theorem Lg.of_gtr {E : List (List Int)} (h : E.length ≤ n) (hr : ∀ r, r ∈ E → r.length ≤ n ∧ szR k r) : Lg (toW (gtr E)) (gtr E) k n :=
  Lg.told (Nat.le_trans (gtr_len _) h) fun r hr' => hr r (gtr_mem hr')
theorem Lg.gof {F : Nat → Nat → Int} {a c : Nat} (hF : ∀ i j, sz (F i j) k) (ha : a ≤ n) (hc : c ≤ n) : Lg (toW (gof F a c)) (Go.Proofs.Ytfkeohlpcjpkbaa.gof F a c) k n :=
  Lg.of_gtr (by simpa using ha) fun r hr => by
    obtain ⟨i, _, rfl⟩ := List.mem_map.1 hr
    exact ⟨Nat.le_trans (nrm_length_le _) (by rw [lst_len]; exact hc), szR.nrm (szR.lst fun j _ => hF i j)⟩
theorem Lg.gn (h : Lg A G k n) : Lg (toW (gn G)) (Go.Proofs.Ytfkeohlpcjpkbaa.gn G) k n := Lg.of_gtr (by rw [List.length_map]; exact h.ll) fun r hr => by
  obtain ⟨p, hp, rfl⟩ := List.mem_map.1 hr
  obtain ⟨i, hi, rfl⟩ := mem_getD [] hp
  exact ⟨Nat.le_trans (nrm_length_le _) (h.g i).2, (h.g i).1.nrm⟩
theorem Lg.zr {f : List Int → List Int → List Int} (h : Lg A G k n) (h' : Lg B H k n) (hf : ∀ l m, szR k l → szR k m → l.length ≤ n → m.length ≤ n → szR j (f l m) ∧ (f l m).length ≤ n) :
    Lg (toW (Go.Proofs.Ytfkeohlpcjpkbaa.gn (zrow f G H (max G.length H.length)))) (Go.Proofs.Ytfkeohlpcjpkbaa.gn (zrow f G H (max G.length H.length))) j n := Lg.of_gtr (by rw [List.length_map, zrow_len]; exact Nat.max_le.2 ⟨h.ll, h'.ll⟩) fun r hr => by
  obtain ⟨p, hp, rfl⟩ := List.mem_map.1 hr
  obtain ⟨i, _, rfl⟩ := List.mem_map.1 hp
  have := hf _ _ (h.g i).1 (h'.g i).1 (h.g i).2 (h'.g i).2
  exact ⟨Nat.le_trans (nrm_length_le _) this.2, this.1.nrm⟩
theorem Lg.add (h : Lg A G k n) (h' : Lg B H k n) : Lg (toW (gadd G H)) (gadd G H) (k + 1) n := h.zr h' fun _ _ a b c d => ⟨a.padd b, Nat.le_trans (padd_len _ _) (Nat.max_le.2 ⟨c, d⟩)⟩
theorem Lg.sub (h : Lg A G k n) (h' : Lg B H k n) : Lg (toW (gsub G H)) (gsub G H) (k + 1) n := h.zr h' fun _ _ a b c d => ⟨a.psub b, Nat.le_trans (psub_len _ _) (Nat.max_le.2 ⟨c, d⟩)⟩
theorem Lg.tu (h : Lg A G k n) : Lg (toW (gtu G)) (gtu G) k n := Lg.gof (fun i j => h.gv j i) h.dy h.dx
theorem Lg.toW (h : Lg A G k n) : Lg (Go.Proofs.Ytfkeohlpcjpkbaa.toW G) G k n := Lg.told h.ll fun r hr => by
  obtain ⟨i, hi, rfl⟩ := mem_getD [] hr
  exact ⟨(h.g i).2, (h.g i).1⟩
theorem Lg.mul (h : Lg A G k n) (h' : Lg B H j n') (hn : n ≤ 1024) (hn' : n' ≤ 1024) : Lg (Go.Proofs.Ytfkeohlpcjpkbaa.toW (gmu G H)) (gmu G H) (k + j + 1) (n + n') := by
  have g1 := h.toW.gs hn
  have g2 := h'.toW.gs hn'
  unfold gmu gmuE
  rw [ww_toW, ww_toW]
  split
  · exact Lg.told (Nat.zero_le _) fun r hr => by simp at hr
  · refine Lg.gof (fun i j' => ?_) (by have := h.dx; have := h'.dx; omega) (by have := h.dy; have := h'.dy; omega)
    have e : pairs (tg (Go.Proofs.Ytfkeohlpcjpkbaa.toW G) (Go.Proofs.Ytfkeohlpcjpkbaa.toW G).length) (tg (Go.Proofs.Ytfkeohlpcjpkbaa.toW H) (Go.Proofs.Ytfkeohlpcjpkbaa.toW H).length) i j' + some2 (0, 0, z0) [] i j' = pairs (tg (Go.Proofs.Ytfkeohlpcjpkbaa.toW G) (Go.Proofs.Ytfkeohlpcjpkbaa.toW G).length) (tg (Go.Proofs.Ytfkeohlpcjpkbaa.toW H) (Go.Proofs.Ytfkeohlpcjpkbaa.toW H).length) i j' := by simp [some2, esum]
    rw [← e]
    exact sum_sz (fun t ht => sz_jv (g1.tin t ht).2.2.1 (g1.tin t ht).2.2.2) (by rw [jv_z0]; exact sz_zero _) (fun t ht => sz_jv (g2.tin t ht).2.2.1 (g2.tin t ht).2.2.2) (fun t ht => by simp at ht) g1.tlen g2.tlen (Nat.zero_le _) i j'
theorem Lg.py {y : Int} (h : Lg A G k n) (hy : sz y j) : Lk ((gpy G y).map cn) (gpy G y) (k + n * (j + 1)) n := Lk.told (szR.nrm fun x hx => by
    obtain ⟨r, hr, rfl⟩ := List.mem_map.1 hx
    obtain ⟨i, hi, rfl⟩ := mem_getD [] hr
    exact (ev_sz (h.g i).1 hy).mono (Nat.add_le_add_left (Nat.mul_le_mul_right _ (h.g i).2) _)) (Nat.le_trans (gpy_len _ _) h.ll)
theorem Lg.px {x : Int} (h : Lg A G k n) (hx : sz x j) : Lk ((gax G x).map cn) (gax G x) (k + n * (j + 1)) n := h.tu.py hx
theorem Lg.ev {x y : Int} (h : Lg A G k n) (hx : sz x j) (hy : sz y j) : sz (gev G x y) (k + n * (j + 1) + n * (j + 1)) := ev_szn (h.py hy) hx
theorem xgNorm (v : Value) (h : Lg A G k n) (hk : k ≤ 137438953472 := by decide) (hn : n ≤ 1024 := by decide) :
    Meets Try.prog 29 [v] [(v, W A)] (fun r os fs => os = [] ∧ fs = [(r, wd (Go.Proofs.Ytfkeohlpcjpkbaa.gn G))]) := by
  have := gNorm_meets v A (h.gf hk (by omega))
  rw [h.val] at this; exact this
theorem xgDegrees (v : Value) (h : Lg A G k n) (hk : k ≤ 137438953472 := by decide) (hn : n ≤ 1024 := by decide) :
    Meets Try.prog 18 [v] [(v, W A)] (fun r os fs => os = [] ∧ fs = [] ∧ r = .tuple #[.int .i64 ((gdx G : Nat) - 1 : Int), .int .i64 ((gdy G : Nat) - 1 : Int)]) := by
  have hf := h.gf hk (Nat.le_trans hn (by decide))
  have := gDegrees_meets v A (fun r hr => (hf.row r hr).2) hf.len (fun r hr => (hf.row r hr).1)
  rw [h.val] at this; exact this
theorem xgAdd (v w : Value) (h : Lg A G k n) (h' : Lg B H k n) (hk : k + 1 ≤ 137438953472 := by decide) (hn : n ≤ 1024 := by decide) :
    Meets Try.prog 22 [v, w] [(v, W A), (w, W B)] (fun r os fs => os = [] ∧ fs = [(r, wd (gadd G H))]) := by
  have := gAdd_meets v w A B k (h.gf (Nat.le_refl _) (by omega)) (h'.gf (Nat.le_refl _) (by omega)) hk
  rw [h.val, h'.val] at this; exact this
theorem xgMul (v w : Value) (h : Lg A G k n) (h' : Lg B H j n') (hk : k + j + 1 ≤ 1073741824 := by decide) (hn : n ≤ 1024 := by decide) (hn' : n' ≤ 1024 := by decide) :
    Meets Try.prog 16 [v, w] [(v, W A), (w, W B)] (fun r os fs => os = [] ∧ fs = [(r, wd (gmu G H))]) := by
  have := gMul_meets v w A B k j (h.gs hn) (h'.gs hn') hk
  rw [gmuE_eq, h.val, h'.val] at this; exact this
theorem xgTurn (v : Value) (h : Lg A G k n) (hk : k ≤ 137438953472 := by decide) (hn : n ≤ 1024 := by decide) :
    Meets Try.prog 28 [v] [(v, W A)] (fun r os fs => os = [] ∧ fs = [(r, wd (gtu G))]) := by
  have := gTurn_meets v A (h.gf hk (by omega))
  rw [h.val] at this; exact this
theorem xgPutY (v w : Value) {y : Bool × List Nat} (h : Lg A G k n) (hy : Lim y.2) (ha : y.2.length ≤ j) (hk : k + 1048577 * (j + 1) ≤ 137438953472 := by decide) (hn : n ≤ 1024 := by decide) :
    Meets Try.prog 27 [v, w] [(v, W A), (w, J y)] (fun r os fs => os = [] ∧ fs = [(r, vd (gpy G (jv y)))]) := by
  have := gPutYJ v w A y k j (h.gf (Nat.le_refl _) (by omega)) hy ha hk
  rw [h.val] at this; exact this
theorem xgPutX (v w : Value) {x : Bool × List Nat} (h : Lg A G k n) (hx : Lim x.2) (ha : x.2.length ≤ j) (hk : k + 1048577 * (j + 1) ≤ 137438953472 := by decide) (hn : n ≤ 1024 := by decide) :
    Meets Try.prog 26 [v, w] [(v, W A), (w, J x)] (fun r os fs => os = [] ∧ fs = [(r, vd (gax G (jv x)))]) := by
  have := gPutXJ v w A x k j (h.gf (Nat.le_refl _) (by omega)) hx ha hk
  rw [h.val] at this; exact this
theorem xgValue (v w u : Value) {x y : Bool × List Nat} (h : Lg A G k n) (hx : Lim x.2) (hxa : x.2.length ≤ j) (hy : Lim y.2) (hya : y.2.length ≤ j) (hk : k + 1048577 * (j + 1) + 1048577 * (j + 1) ≤ 137438953472 := by decide) (hn : n ≤ 1024 := by decide) :
    Meets Try.prog 20 [v, w, u] [(v, W A), (w, J x), (u, J y)] (fun r os fs => os = [] ∧ fs = [(r, zd (gev G (jv x) (jv y)))]) := by
  have := gValueJ v w u A x y k j (h.gf (Nat.le_refl _) (by omega)) hx hxa hy hya hk
  rw [h.val] at this; exact this
theorem Lg.pb (h : Lg A G k n) (h' : Lg B H k n) (hn : 2 * n * n + 1 ≤ 268435456) (hb : pdB k n (2 * n) ≤ 137438953472) :
    PB k n (2 * n) (syX (gtu (ww A)) (gtu (ww B)) (Go.Proofs.Ytfkeohlpcjpkbaa.dy (ww A)) (Go.Proofs.Ytfkeohlpcjpkbaa.dy (ww B))) := by
  have key := fun i j => syX_b (F := gtu (ww A)) (E := gtu (ww B)) (k := k) (l := n) (fun i => by rw [h.val]; exact h.tu.g i) (fun i => by rw [h'.val]; exact h'.tu.g i) (Go.Proofs.Ytfkeohlpcjpkbaa.dy (ww A)) (Go.Proofs.Ytfkeohlpcjpkbaa.dy (ww B)) i j
  exact ⟨fun i j => (key i j).1, fun i j => (key i j).2, hn, hb⟩
theorem Lg.dy' (h : Lg A G k n) : Go.Proofs.Ytfkeohlpcjpkbaa.dy G ≤ n := by
  unfold Go.Proofs.Ytfkeohlpcjpkbaa.dy; rw [gtu_len]; have := h.dy; omega
theorem xgElim (v w : Value) (h : Lg A G k n) (h' : Lg B H k n) (hk : k ≤ 137438953472 := by decide) (hn0 : 0 < n := by decide) (hn : n ≤ 1024 := by decide) (hn2 : 2 * n * n + 1 ≤ 268435456 := by decide) (hb : pdB k n (2 * n) ≤ 137438953472 := by decide) :
    Meets Try.prog 13 [v, w] [(v, W A), (w, W B)] (fun r os fs => os = [] ∧ fs = [(r, vd (gel G H))]) := by
  have d1 : Go.Proofs.Ytfkeohlpcjpkbaa.dy (ww A) ≤ n := by rw [h.val]; exact h.dy'
  have d2 : Go.Proofs.Ytfkeohlpcjpkbaa.dy (ww B) ≤ n := by rw [h'.val]; exact h'.dy'
  have := gEliminate_core v w A B k n (2 * n) (h.gf (Nat.le_refl _) (by omega)) (h'.gf (Nat.le_refl _) (by omega)) hk (h.pb h' hn2 hb) (by omega) (by omega)
  rw [h.val, h'.val] at this; exact this
end
end Go.Proofs.Ytfkeohlpcjpkbaa

namespace Go.Proofs.Ytfkeohlpcjpkbaa
open Go.RowKit
instance (l : List Int) : Decidable (Nm l) := inferInstanceAs (Decidable (_ = _))
theorem sz_small (x : Int) (h : x.natAbs < 18446744073709551616) : sz x 1 := by
  unfold sz; simpa using h
theorem small_szR {l : List Int} (h : ∀ x, x ∈ l → x.natAbs < 18446744073709551616) : szR 1 l := fun x hx => by
  have := h x hx
  unfold sz; simpa using this
end Go.Proofs.Ytfkeohlpcjpkbaa

namespace Go.Proofs.Ytfkeohlpcjpkbaa
open Go.RowKit
theorem lit3_L {α : Type} {P : Program} {t e : TypeId} {size bytes : Nat} {os : List Own} {fs : List Fact} {K : Cont} [ht : TSl P t e size] [he : TEl P e size bytes] {x y z' : Value} (f : α → Dat) (z : α) (a b c : α) (hsz : size ≤ 16) (hx : Reads os fs x (f a)) (hy : Reads os fs y (f b)) (hz : Reads os fs z' (f c)) (hc : (f a).cells = size) (hc' : (f b).cells = size) (hc'' : (f c).cells = size)
    (k : ∀ v, K v os ((v, LD size f z [a, b, c]) :: fs)) : BuildSliceK P t 3 [(0, x), (1, y), (2, z')] os fs K := by
  have h1 := buildSlice_fact (P := P) (t := t) (os := os) (fs := fs) (K := fun u os' fs' => ∃ os'' fs'', Seals os' fs' os'' fs'' ∧ K u os'' fs'') (n := 3) [x, y, z'] [f a, f b, f c] rfl rfl (by decide) hsz ⟨hx, hc, hy, hc', hz, hc'', trivial⟩
  refine ⟨Grw.sealed (h1 fun v => ⟨_, _, ?_, k v⟩).out⟩
  exact Seals.knw_cong rfl fun i hi => by
    have : i = 0 ∨ i = 1 ∨ i = 2 := by omega
    rcases this with rfl | rfl | rfl <;> rfl
theorem Lg.lit (G : List (List Int)) {n : Nat} (h : G.length ≤ n) (hr : ∀ r, r ∈ G → r.length ≤ n ∧ ∀ x, x ∈ r → x.natAbs < 18446744073709551616) : Lg (Go.Proofs.Ytfkeohlpcjpkbaa.toW G) G 1 n :=
  Lg.told h fun r hr' => ⟨(hr r hr').1, small_szR (hr r hr').2⟩
theorem gev_lit (G : List (List Int)) (x y : Int) : gev G x y = pev (G.map fun r => pev r y) x := ev_nrm _ _
instance (G : List (List Int)) : Decidable (Gn G) := inferInstanceAs (Decidable (_ ∧ _))
theorem shown_mu : gmu [[0, 1], [1]] [[0, -1], [1]] = [[0, 0, -1], [], [1]] :=
  (gmu_gn _ _).ev_ext (by decide) fun x y => by
    rw [gev_gmu, gev_lit, gev_lit, gev_lit]; simp only [List.map, pev]; grind
theorem shown_el1 : gel [[0, 0, 1], [-1]] [[-2, 1]] = [4, -1] := by decide +kernel
theorem shown_el2 : gel [[0, 1], [1]] [[0, -1], [1]] = [0, 2] := by decide +kernel
theorem shown_ax : gax [[0, 0, -1], [], [1]] 3 = [9, 0, -1] := by decide +kernel
theorem shown_dx : gdx [[0, 0, -1], [], [1]] = 3 := by decide +kernel
theorem shown_dy : gdy [[0, 0, -1], [], [1]] = 3 := by decide +kernel
theorem exactT (v w : Value) (x y : List Int) (h : x = y) :
    Meets Try.prog 14 [v, w] [(v, vd x), (w, vd y)] (fun r os fs => os = [] ∧ fs = [] ∧ r = .bool true) := by
  have := exactAll_meets v w (x.map cn) (y.map cn)
  rw [decide_eq_true (by rw [h])] at this
  exact this
theorem shownG_meets : Meets Try.prog 9 [] [] (fun r os fs => os = [] ∧ fs = [] ∧ r = .bool true) := by
  have k1 := Lg.lit [[0, 1], [1]] (n := 4) (by decide) (by decide)
  have k2 := Lg.lit [[0, -1], [1]] (n := 4) (by decide) (by decide)
  have k3 := Lg.lit [[0, 0, 1], [-1]] (n := 4) (by decide) (by decide)
  have k4 := Lg.lit [[-2, 1]] (n := 4) (by decide) (by decide)
  have k5 := Lg.lit [[0, 0, -1], [], [1]] (n := 4) (by decide) (by decide)
  have c1 := fun v w => xgMul v w k1 k2
  have c2 := fun v w => xgElim v w k3 k4
  have c3 := fun v w => xgElim v w k1 k2
  have c4 := fun v => xgDegrees v k5
  have c5 := fun v w => xgPutX (j := 1) v w (x := cn 3) k5 (Lim_lims _) (sz_small 3 (by decide)).len
  rw [shown_mu] at c1
  rw [shown_el1] at c2
  rw [shown_el2] at c3
  rw [shown_dx, shown_dy] at c4
  rw [show jv (cn 3) = 3 from jv_cn 3, shown_ax] at c5
  refine meets_of_vc Try.func9 (by kernel_rfl) rfl (by kernel_rfl) (Nat.le_of_ble_eq_true rfl) ?_
  refine lit_IL [0, 1] rfl rfl (by decide) fun s1 => ?_
  refine call_fn (grow12_meets s1 [0, 1] (by decide) (by decide)) (Seals.refl _ _) (by repeat (first | exact Sub.nil _ | refine Sub.cons (by repeat (first | exact List.Mem.head _ | apply List.Mem.tail)) ?_)) ?_
  rintro y1 _ _ ⟨rfl, rfl⟩
  refine lit_IL [1] rfl rfl (by decide) fun s2 => ?_
  refine call_fn (grow12_meets s2 [1] (by decide) (by decide)) (Seals.refl _ _) (by repeat (first | exact Sub.nil _ | refine Sub.cons (by repeat (first | exact List.Mem.head _ | apply List.Mem.tail)) ?_)) ?_
  rintro y2 _ _ ⟨rfl, rfl⟩
  refine lit2_L (size := 1) (e := 27) V [] (([0, 1] : List Int).map cn) (([1] : List Int).map cn) (by decide) (Reads.fact (d := vd [0, 1]) (by repeat (first | exact List.Mem.head _ | apply List.Mem.tail))) (Reads.fact (d := vd [1]) (by repeat (first | exact List.Mem.head _ | apply List.Mem.tail))) rfl rfl fun g1 => ?_
  refine lit_IL [0, -1] rfl rfl (by decide) fun s3 => ?_
  refine call_fn (grow12_meets s3 [0, -1] (by decide) (by decide)) (Seals.refl _ _) (by repeat (first | exact Sub.nil _ | refine Sub.cons (by repeat (first | exact List.Mem.head _ | apply List.Mem.tail)) ?_)) ?_
  rintro y3 _ _ ⟨rfl, rfl⟩
  refine lit_IL [1] rfl rfl (by decide) fun s4 => ?_
  refine call_fn (grow12_meets s4 [1] (by decide) (by decide)) (Seals.refl _ _) (by repeat (first | exact Sub.nil _ | refine Sub.cons (by repeat (first | exact List.Mem.head _ | apply List.Mem.tail)) ?_)) ?_
  rintro y4 _ _ ⟨rfl, rfl⟩
  refine lit2_L (size := 1) (e := 27) V [] (([0, -1] : List Int).map cn) (([1] : List Int).map cn) (by decide) (Reads.fact (d := vd [0, -1]) (by repeat (first | exact List.Mem.head _ | apply List.Mem.tail))) (Reads.fact (d := vd [1]) (by repeat (first | exact List.Mem.head _ | apply List.Mem.tail))) rfl rfl fun g2 => ?_
  refine call_fn (c1 g1 g2) (Seals.refl _ _) (by repeat (first | exact Sub.nil _ | refine Sub.cons (by repeat (first | exact List.Mem.head _ | apply List.Mem.tail)) ?_)) ?_
  rintro m _ _ ⟨rfl, rfl⟩
  refine lit_IL [0, 0, 1] rfl rfl (by decide) fun s5 => ?_
  refine call_fn (grow12_meets s5 [0, 0, 1] (by decide) (by decide)) (Seals.refl _ _) (by repeat (first | exact Sub.nil _ | refine Sub.cons (by repeat (first | exact List.Mem.head _ | apply List.Mem.tail)) ?_)) ?_
  rintro y5 _ _ ⟨rfl, rfl⟩
  refine lit_IL [-1] rfl rfl (by decide) fun s6 => ?_
  refine call_fn (grow12_meets s6 [-1] (by decide) (by decide)) (Seals.refl _ _) (by repeat (first | exact Sub.nil _ | refine Sub.cons (by repeat (first | exact List.Mem.head _ | apply List.Mem.tail)) ?_)) ?_
  rintro y6 _ _ ⟨rfl, rfl⟩
  refine lit2_L (size := 1) (e := 27) V [] (([0, 0, 1] : List Int).map cn) (([-1] : List Int).map cn) (by decide) (Reads.fact (d := vd [0, 0, 1]) (by repeat (first | exact List.Mem.head _ | apply List.Mem.tail))) (Reads.fact (d := vd [-1]) (by repeat (first | exact List.Mem.head _ | apply List.Mem.tail))) rfl rfl fun g3 => ?_
  refine lit_IL [-2, 1] rfl rfl (by decide) fun s7 => ?_
  refine call_fn (grow12_meets s7 [-2, 1] (by decide) (by decide)) (Seals.refl _ _) (by repeat (first | exact Sub.nil _ | refine Sub.cons (by repeat (first | exact List.Mem.head _ | apply List.Mem.tail)) ?_)) ?_
  rintro y7 _ _ ⟨rfl, rfl⟩
  refine lit_L (size := 1) (e := 27) V [] (([-2, 1] : List Int).map cn) (by decide) (Reads.fact (d := vd [-2, 1]) (by repeat (first | exact List.Mem.head _ | apply List.Mem.tail))) rfl fun g4 => ?_
  refine call_fn (c2 g3 g4) (Seals.refl _ _) (by repeat (first | exact Sub.nil _ | refine Sub.cons (by repeat (first | exact List.Mem.head _ | apply List.Mem.tail)) ?_)) ?_
  rintro p _ _ ⟨rfl, rfl⟩
  refine call_fn (c4 m) (Seals.refl _ _) (by repeat (first | exact Sub.nil _ | refine Sub.cons (by repeat (first | exact List.Mem.head _ | apply List.Mem.tail)) ?_)) ?_
  rintro _ _ _ ⟨rfl, rfl, rfl⟩
  refine lit_IL [0, 0, -1] rfl rfl (by decide) fun s8 => ?_
  refine call_fn (grow12_meets s8 [0, 0, -1] (by decide) (by decide)) (Seals.refl _ _) (by repeat (first | exact Sub.nil _ | refine Sub.cons (by repeat (first | exact List.Mem.head _ | apply List.Mem.tail)) ?_)) ?_
  rintro y8 _ _ ⟨rfl, rfl⟩
  refine call_fn (grow12_meets (.slice none 0 0) [] (by decide) (by decide)) (Seals.cons (Knw.nil 1 _) (Seals.refl _ _)) (by repeat (first | exact Sub.nil _ | refine Sub.cons (by repeat (first | exact List.Mem.head _ | apply List.Mem.tail)) ?_)) ?_
  rintro y9 _ _ ⟨rfl, rfl⟩
  refine lit_IL [1] rfl rfl (by decide) fun s10 => ?_
  refine call_fn (grow12_meets s10 [1] (by decide) (by decide)) (Seals.refl _ _) (by repeat (first | exact Sub.nil _ | refine Sub.cons (by repeat (first | exact List.Mem.head _ | apply List.Mem.tail)) ?_)) ?_
  rintro y10 _ _ ⟨rfl, rfl⟩
  refine lit3_L (size := 1) (e := 27) V [] (([0, 0, -1] : List Int).map cn) (([] : List Int).map cn) (([1] : List Int).map cn) (by decide) (Reads.fact (d := vd [0, 0, -1]) (by repeat (first | exact List.Mem.head _ | apply List.Mem.tail))) (Reads.fact (d := vd []) (by repeat (first | exact List.Mem.head _ | apply List.Mem.tail))) (Reads.fact (d := vd [1]) (by repeat (first | exact List.Mem.head _ | apply List.Mem.tail))) rfl rfl rfl fun g5 => ?_
  refine call_fn (gsameT m g5 _ _ rfl) (Seals.refl _ _) (by repeat (first | exact Sub.nil _ | refine Sub.cons (by repeat (first | exact List.Mem.head _ | apply List.Mem.tail)) ?_)) ?_
  rintro _ _ _ ⟨rfl, rfl, rfl⟩
  refine cmp_true rfl (by decide) ?_
  refine cmp_true rfl (by decide) ?_
  refine call_fn (rOf_meets 3 (by decide) (by decide)) (Seals.refl _ _) (by repeat (first | exact Sub.nil _ | refine Sub.cons (by repeat (first | exact List.Mem.head _ | apply List.Mem.tail)) ?_)) ?_
  rintro y11 _ _ ⟨rfl, rfl⟩
  refine call_fn (c5 m y11) (Seals.refl _ _) (by repeat (first | exact Sub.nil _ | refine Sub.cons (by repeat (first | exact List.Mem.head _ | apply List.Mem.tail)) ?_)) ?_
  rintro y12 _ _ ⟨rfl, rfl⟩
  refine lit_IL [9, 0, -1] rfl rfl (by decide) fun s13 => ?_
  refine call_fn (grow12_meets s13 [9, 0, -1] (by decide) (by decide)) (Seals.refl _ _) (by repeat (first | exact Sub.nil _ | refine Sub.cons (by repeat (first | exact List.Mem.head _ | apply List.Mem.tail)) ?_)) ?_
  rintro y13 _ _ ⟨rfl, rfl⟩
  refine call_fn (exactT y12 y13 _ _ rfl) (Seals.refl _ _) (by repeat (first | exact Sub.nil _ | refine Sub.cons (by repeat (first | exact List.Mem.head _ | apply List.Mem.tail)) ?_)) ?_
  rintro _ _ _ ⟨rfl, rfl, rfl⟩
  refine call_fn (c3 g1 g2) (Seals.refl _ _) (by repeat (first | exact Sub.nil _ | refine Sub.cons (by repeat (first | exact List.Mem.head _ | apply List.Mem.tail)) ?_)) ?_
  rintro y14 _ _ ⟨rfl, rfl⟩
  refine lit_IL [0, 2] rfl rfl (by decide) fun s15 => ?_
  refine call_fn (grow12_meets s15 [0, 2] (by decide) (by decide)) (Seals.refl _ _) (by repeat (first | exact Sub.nil _ | refine Sub.cons (by repeat (first | exact List.Mem.head _ | apply List.Mem.tail)) ?_)) ?_
  rintro y15 _ _ ⟨rfl, rfl⟩
  refine call_fn (exactT y14 y15 _ _ rfl) (Seals.refl _ _) (by repeat (first | exact Sub.nil _ | refine Sub.cons (by repeat (first | exact List.Mem.head _ | apply List.Mem.tail)) ?_)) ?_
  rintro _ _ _ ⟨rfl, rfl, rfl⟩
  refine lit_IL [4, -1] rfl rfl (by decide) fun s16 => ?_
  refine call_fn (grow12_meets s16 [4, -1] (by decide) (by decide)) (Seals.refl _ _) (by repeat (first | exact Sub.nil _ | refine Sub.cons (by repeat (first | exact List.Mem.head _ | apply List.Mem.tail)) ?_)) ?_
  rintro y16 _ _ ⟨rfl, rfl⟩
  refine call_fn (exactT p y16 _ _ rfl) (Seals.refl _ _) (by repeat (first | exact Sub.nil _ | refine Sub.cons (by repeat (first | exact List.Mem.head _ | apply List.Mem.tail)) ?_)) ?_
  rintro _ _ _ ⟨rfl, rfl, rfl⟩
  exact fin ⟨rfl, rfl, rfl⟩ (Seals.nil _ _)
end Go.Proofs.Ytfkeohlpcjpkbaa

namespace Go.Proofs.Ytfkeohlpcjpkbaa
open Go.ChangeShapes Go.WideShapes Go.ChangeAt Go.RowKit
section
variable {H : Type} {enc : TypeId × Value → H} {w : World} {base : Nat} {spare : Nat → Bool} {held : Bool}
theorem rd_grid {fuel : Nat} {cs : List Value} {x : DataW H × List MemPlace} (h : DataW.trod enc Try.prog w base spare held fuel 23 cs = some x) : ∃ m : List Row, limM m ∧ RdC (fun b => b < w.heap.size) w (W m) cs := by
  obtain ⟨l, h1, h2⟩ := rd_slice (size := 1) V [] (fun r => ∀ y, y ∈ r → Lim y.2) Try.underlying23 (by kernel_rfl) (by decide) (fun n cs x _ h => rd_row h) h
  exact ⟨l, h1, h2⟩
end
end Go.Proofs.Ytfkeohlpcjpkbaa

namespace Go.Proofs.Ytfkeohlpcjpkbaa
open Go.RowKit
end Go.Proofs.Ytfkeohlpcjpkbaa

namespace Go.Proofs.Ytfkeohlpcjpkbaa
open Go.RowKit
theorem exactE (v w : Value) (x y : Int) (h : x = y) : Meets Try.prog 21 [v, w] [(v, zd x), (w, zd y)] (fun r os fs => os = [] ∧ fs = [] ∧ r = .bool true) := by
  have := exactW v w x y
  rw [decide_eq_true h] at this
  exact this
theorem rMulZZ (v w : Value) (x y : Int) (e : Nat) (hx : sz x e) (hy : sz y e) (he : e ≤ 137438953472) :
    Meets Try.prog 24 [v, w] [(v, zd x), (w, zd y)] (fun r os fs => os = [] ∧ fs = [(r, zd (x * y))]) := by
  have h := rMulZJ v w x (cn y) e hx he (Lim_lims _) (Nat.le_trans hy.len he)
  rw [jv_cn] at h
  exact h
theorem rAddJ (v w : Value) (x y : Bool × List Nat) (hx : Lim x.2) (lx : x.2.length ≤ 137438953472) (hy : Lim y.2) (ly : y.2.length ≤ 137438953472) :
    Meets Try.prog 23 [v, w] [(v, J x), (w, J y)] (fun r os fs => os = [] ∧ fs = [(r, zd (jv x + jv y))]) := rZAdd_meets v w x.1 y.1 x.2 y.2 hx hy lx ly
end Go.Proofs.Ytfkeohlpcjpkbaa

namespace Go.Proofs.Ytfkeohlpcjpkbaa
open Go.RowKit
end Go.Proofs.Ytfkeohlpcjpkbaa

namespace Go.Proofs.Ytfkeohlpcjpkbaa
open Go.RowKit
theorem rAddZZ (v w : Value) (x y : Int) (e : Nat) (hx : sz x e) (hy : sz y e) (he : e ≤ 137438953472) :
    Meets Try.prog 23 [v, w] [(v, zd x), (w, zd y)] (fun r os fs => os = [] ∧ fs = [(r, zd (x + y))]) := by
  have h := rAddJ v w (cn x) (cn y) (Lim_lims _) (Nat.le_trans hx.len he) (Lim_lims _) (Nat.le_trans hy.len he)
  rw [jv_cn, jv_cn] at h
  exact h
theorem gValues_meets (u v w z : Value) (p q : List Row) (x y : Bool × List Nat) (hp : limM p) (hq : limM q) (hx : Lim x.2) (hy : Lim y.2) :
    Meets Try.prog 5 [u, v, w, z] [(u, W p), (v, W q), (w, J x), (z, J y)] (fun r os fs => os = [] ∧ fs = [] ∧ r = .bool true) := by
  refine meets_of_vc Try.func5 (by kernel_rfl) rfl (by kernel_rfl) (Nat.le_of_ble_eq_true rfl) ?_
  refine box_fact (Reads.fact (d := J x) (by repeat (first | exact List.Mem.head _ | apply List.Mem.tail))) fun px => ?_
  refine box_fact (Reads.fact (d := J y) (by repeat (first | exact List.Mem.head _ | apply List.Mem.tail))) fun py => ?_
  refine call_fn shownG_meets (Seals.refl _ _) (by repeat (first | exact Sub.nil _ | refine Sub.cons (by repeat (first | exact List.Mem.head _ | apply List.Mem.tail)) ?_)) ?_
  rintro _ _ _ ⟨rfl, rfl, rfl⟩
  refine call_fn (glittle_meets u p) (Seals.refl _ _) (by repeat (first | exact Sub.nil _ | refine Sub.cons (by repeat (first | exact List.Mem.head _ | apply List.Mem.tail)) ?_)) ?_
  rintro _ _ _ ⟨rfl, rfl, rfl⟩
  by_cases sp : small 4 4 1 p
  case neg =>
    rw [decide_eq_false sp]
    exact fin ⟨rfl, rfl, rfl⟩ (Seals.nil _ _)
  rw [decide_eq_true sp]
  refine call_fn (glittle_meets v q) (Seals.refl _ _) (by repeat (first | exact Sub.nil _ | refine Sub.cons (by repeat (first | exact List.Mem.head _ | apply List.Mem.tail)) ?_)) ?_
  rintro _ _ _ ⟨rfl, rfl, rfl⟩
  by_cases sq : small 4 4 1 q
  case neg =>
    rw [decide_eq_false sq]
    exact fin ⟨rfl, rfl, rfl⟩ (Seals.nil _ _)
  rw [decide_eq_true sq]
  refine field_fact (off := 1) (d := J x) (d' := U (x).2) (by repeat (first | exact List.Mem.head _ | apply List.Mem.tail)) (Part.right (Part.refl _)) fun _ => ?_
  refine load_fact (d := U (x).2) (by repeat (first | exact List.Mem.head _ | apply List.Mem.tail)) (load_L _) fun _ => ?_
  refine len_fact (by repeat (first | exact List.Mem.head _ | apply List.Mem.tail)) fun _ => ?_
  refine cmp_split _ rfl (fun hxl => ?_) (fun hxl => ?_)
  · exact fin ⟨rfl, rfl, rfl⟩ (Seals.nil _ _)
  have hxl : (x).2.length ≤ 1 := by omega
  refine field_fact (off := 1) (d := J y) (d' := U (y).2) (by repeat (first | exact List.Mem.head _ | apply List.Mem.tail)) (Part.right (Part.refl _)) fun _ => ?_
  refine load_fact (d := U (y).2) (by repeat (first | exact List.Mem.head _ | apply List.Mem.tail)) (load_L _) fun _ => ?_
  refine len_fact (by repeat (first | exact List.Mem.head _ | apply List.Mem.tail)) fun _ => ?_
  refine cmp_split _ rfl (fun hyl => ?_) (fun hyl => ?_)
  · exact fin ⟨rfl, rfl, rfl⟩ (Seals.nil _ _)
  have hyl : (y).2.length ≤ 1 := by omega
  obtain ⟨G, P⟩ : ∃ l, Lg p l 1 4 := ⟨_, Lg.raw sp hp⟩
  obtain ⟨H, Q⟩ : ∃ l, Lg q l 1 4 := ⟨_, Lg.raw sq hq⟩
  have hjx : sz (jv x) 1 := sz_jv hx hxl
  have hjy : sz (jv y) 1 := sz_jv hy hyl
  have mPQ := P.mul Q (by decide) (by decide)
  have sL : sz (gev G (jv x) (jv y)) 17 := (P.ev hjx hjy).mono (by decide)
  have sM : sz (gev H (jv x) (jv y)) 17 := (Q.ev hjx hjy).mono (by decide)
  have v1 := fun z1 z2 => xgValue u z1 z2 P hx hxl hy hyl
  have v2 := fun z1 z2 => xgValue v z1 z2 Q hx hxl hy hyl
  have v3 := fun t z1 z2 => xgValue t z1 z2 (P.add Q) hx hxl hy hyl
  have v4 := fun t z1 z2 => xgValue t z1 z2 mPQ hx hxl hy hyl
  have v5 := fun t z1 z2 => xgValue t z1 z2 P.tu hy hyl hx hxl
  have v6 := fun t z1 => xValueJ (j := 1) t z1 (P.px hjx) hy hyl
  have v7 := fun t z1 => xValueJ (j := 1) t z1 (P.py hjy) hx hxl
  rw [gev_gadd] at v3
  rw [gev_gmu] at v4
  rw [gev_gtu] at v5
  rw [gax_ev] at v6
  change ∀ t z1, Meets _ _ _ _ (fun r os fs => os = [] ∧ fs = [(r, zd (gev G (jv x) (jv y)))]) at v7
  have e1 : gtu (gtu G) = gn G := (gtu_gn _).ev_ext (gn_gn _) fun x y => by rw [gev_gtu, gev_gtu, gev_gn]
  have e2 : gtu (gmu G H) = gmu (gtu G) (gtu H) := (gtu_gn _).ev_ext (gmu_gn _ _) fun x y => by rw [gev_gtu, gev_gmu, gev_gmu, gev_gtu, gev_gtu]
  generalize gev G (jv x) (jv y) = a at *
  generalize gev H (jv x) (jv y) = b at *
  refine draw_join (X := Value × Value) (fun z => ([(0, u), (1, v), (6, px), (7, py), (9, .bool true), (10, z.1), (11, z.2)], [], [(u, W p), (v, W q), (px, .ptr (J x)), (py, .ptr (J y)), (z.1, .ptr (zd a)), (z.2, .ptr (zd b))])) (fun _ => True) ?_ ?_
  ·
    refine draw_ord [0, 1, 2, 3, 4, 5, 6, 7, 8, 9, 10, 11] (by kernel_rfl) ?_
    refine ord_split 3 8 (by kernel_rfl) (by kernel_rfl) (by kernel_rfl) ?_ ?_
    · refine ord_split 3 9 (by kernel_rfl) (by kernel_rfl) (by kernel_rfl) ?_ ?_
      · refine ord_split 7 8 (by kernel_rfl) (by kernel_rfl) (by kernel_rfl) ?_ ?_
        · refine ord_split 7 9 (by kernel_rfl) (by kernel_rfl) (by kernel_rfl) ?_ ?_
          · refine ord_split 8 9 (by kernel_rfl) (by kernel_rfl) (by kernel_rfl) ?_ ?_
            · refine ord_go [0, 1, 2, 4, 5, 6, 3, 7, 8, 9, 10, 11] (by kernel_rfl) (by kernel_rfl) ?_
              refine load_fact (d := J x) (by repeat (first | exact List.Mem.head _ | apply List.Mem.tail)) (load_J _) fun z1 => ?_
              refine load_fact (d := J y) (by repeat (first | exact List.Mem.head _ | apply List.Mem.tail)) (load_J _) fun z2 => ?_
              refine load_fact (d := J x) (by repeat (first | exact List.Mem.head _ | apply List.Mem.tail)) (load_J _) fun z3 => ?_
              refine load_fact (d := J y) (by repeat (first | exact List.Mem.head _ | apply List.Mem.tail)) (load_J _) fun z4 => ?_
              refine call_fn (v1 z1 z2) (Seals.refl _ _) (by repeat (first | exact Sub.nil _ | refine Sub.cons (by repeat (first | exact List.Mem.head _ | apply List.Mem.tail)) ?_)) ?_
              rintro y1 _ _ ⟨rfl, rfl⟩
              refine call_fn (v2 z3 z4) (Seals.refl _ _) (by repeat (first | exact Sub.nil _ | refine Sub.cons (by repeat (first | exact List.Mem.head _ | apply List.Mem.tail)) ?_)) ?_
              rintro y2 _ _ ⟨rfl, rfl⟩
              refine alloc_rule (d := I false []) fun b1 h1 => ?_
              refine alloc_rule (d := I false []) fun b2 h2 => ?_
              refine store_box (d := zd a) 1 rfl h1 rfl (by kernel_rfl) (Reads.fact (by repeat (first | exact List.Mem.head _ | apply List.Mem.tail))) ?_
              refine store_box (d := zd b) 0 rfl h2 rfl (by kernel_rfl) (Reads.fact (by repeat (first | exact List.Mem.head _ | apply List.Mem.tail))) ?_
              exact again (b1, b2) trivial trivial (by repeat (first | exact trivial | refine ⟨rfl, ?_⟩ | refine ⟨i64_eq (by first | omega | (simp only; omega)), ?_⟩ | refine ⟨u64_eq (by first | omega | (simp only; omega)), ?_⟩)) (Seals.trans (Seals.box (d := zd b) 0 rfl h2 rfl) (Seals.trans (Seals.box (d := zd a) 0 rfl h1 rfl) (Seals.sub (by repeat (first | exact Sub.nil _ | refine Sub.cons (by repeat (first | exact List.Mem.head _ | apply List.Mem.tail)) ?_)))))
            · refine ord_go [0, 1, 2, 4, 5, 6, 3, 7, 9, 8, 10, 11] (by kernel_rfl) (by kernel_rfl) ?_
              refine load_fact (d := J x) (by repeat (first | exact List.Mem.head _ | apply List.Mem.tail)) (load_J _) fun z1 => ?_
              refine load_fact (d := J y) (by repeat (first | exact List.Mem.head _ | apply List.Mem.tail)) (load_J _) fun z2 => ?_
              refine load_fact (d := J x) (by repeat (first | exact List.Mem.head _ | apply List.Mem.tail)) (load_J _) fun z3 => ?_
              refine load_fact (d := J y) (by repeat (first | exact List.Mem.head _ | apply List.Mem.tail)) (load_J _) fun z4 => ?_
              refine call_fn (v1 z1 z2) (Seals.refl _ _) (by repeat (first | exact Sub.nil _ | refine Sub.cons (by repeat (first | exact List.Mem.head _ | apply List.Mem.tail)) ?_)) ?_
              rintro y1 _ _ ⟨rfl, rfl⟩
              refine call_fn (v2 z3 z4) (Seals.refl _ _) (by repeat (first | exact Sub.nil _ | refine Sub.cons (by repeat (first | exact List.Mem.head _ | apply List.Mem.tail)) ?_)) ?_
              rintro y2 _ _ ⟨rfl, rfl⟩
              refine alloc_rule (d := I false []) fun b2 h2 => ?_
              refine alloc_rule (d := I false []) fun b1 h1 => ?_
              refine store_box (d := zd a) 0 rfl h1 rfl (by kernel_rfl) (Reads.fact (by repeat (first | exact List.Mem.head _ | apply List.Mem.tail))) ?_
              refine store_box (d := zd b) 1 rfl h2 rfl (by kernel_rfl) (Reads.fact (by repeat (first | exact List.Mem.head _ | apply List.Mem.tail))) ?_
              exact again (b1, b2) trivial trivial (by repeat (first | exact trivial | refine ⟨rfl, ?_⟩ | refine ⟨i64_eq (by first | omega | (simp only; omega)), ?_⟩ | refine ⟨u64_eq (by first | omega | (simp only; omega)), ?_⟩)) (Seals.trans (Seals.box (d := zd a) 0 rfl h1 rfl) (Seals.trans (Seals.box (d := zd b) 0 rfl h2 rfl) (Seals.sub (by repeat (first | exact Sub.nil _ | refine Sub.cons (by repeat (first | exact List.Mem.head _ | apply List.Mem.tail)) ?_)))))
          · refine ord_go [0, 1, 2, 4, 5, 6, 3, 9, 7, 8, 10, 11] (by kernel_rfl) (by kernel_rfl) ?_
            refine load_fact (d := J x) (by repeat (first | exact List.Mem.head _ | apply List.Mem.tail)) (load_J _) fun z1 => ?_
            refine load_fact (d := J y) (by repeat (first | exact List.Mem.head _ | apply List.Mem.tail)) (load_J _) fun z2 => ?_
            refine load_fact (d := J x) (by repeat (first | exact List.Mem.head _ | apply List.Mem.tail)) (load_J _) fun z3 => ?_
            refine load_fact (d := J y) (by repeat (first | exact List.Mem.head _ | apply List.Mem.tail)) (load_J _) fun z4 => ?_
            refine call_fn (v1 z1 z2) (Seals.refl _ _) (by repeat (first | exact Sub.nil _ | refine Sub.cons (by repeat (first | exact List.Mem.head _ | apply List.Mem.tail)) ?_)) ?_
            rintro y1 _ _ ⟨rfl, rfl⟩
            refine alloc_rule (d := I false []) fun b2 h2 => ?_
            refine call_fn (v2 z3 z4) (Seals.refl _ _) (by repeat (first | exact Sub.nil _ | refine Sub.cons (by repeat (first | exact List.Mem.head _ | apply List.Mem.tail)) ?_)) ?_
            rintro y2 _ _ ⟨rfl, rfl⟩
            refine alloc_rule (d := I false []) fun b1 h1 => ?_
            refine store_box (d := zd a) 0 rfl h1 rfl (by kernel_rfl) (Reads.fact (by repeat (first | exact List.Mem.head _ | apply List.Mem.tail))) ?_
            refine store_box (d := zd b) 1 rfl h2 rfl (by kernel_rfl) (Reads.fact (by repeat (first | exact List.Mem.head _ | apply List.Mem.tail))) ?_
            exact again (b1, b2) trivial trivial (by repeat (first | exact trivial | refine ⟨rfl, ?_⟩ | refine ⟨i64_eq (by first | omega | (simp only; omega)), ?_⟩ | refine ⟨u64_eq (by first | omega | (simp only; omega)), ?_⟩)) (Seals.trans (Seals.box (d := zd a) 0 rfl h1 rfl) (Seals.trans (Seals.box (d := zd b) 0 rfl h2 rfl) (Seals.sub (by repeat (first | exact Sub.nil _ | refine Sub.cons (by repeat (first | exact List.Mem.head _ | apply List.Mem.tail)) ?_)))))
        · refine ord_split 7 9 (by kernel_rfl) (by kernel_rfl) (by kernel_rfl) ?_ ?_
          · refine ord_go [0, 1, 2, 4, 5, 6, 3, 8, 7, 9, 10, 11] (by kernel_rfl) (by kernel_rfl) ?_
            refine load_fact (d := J x) (by repeat (first | exact List.Mem.head _ | apply List.Mem.tail)) (load_J _) fun z1 => ?_
            refine load_fact (d := J y) (by repeat (first | exact List.Mem.head _ | apply List.Mem.tail)) (load_J _) fun z2 => ?_
            refine load_fact (d := J x) (by repeat (first | exact List.Mem.head _ | apply List.Mem.tail)) (load_J _) fun z3 => ?_
            refine load_fact (d := J y) (by repeat (first | exact List.Mem.head _ | apply List.Mem.tail)) (load_J _) fun z4 => ?_
            refine call_fn (v1 z1 z2) (Seals.refl _ _) (by repeat (first | exact Sub.nil _ | refine Sub.cons (by repeat (first | exact List.Mem.head _ | apply List.Mem.tail)) ?_)) ?_
            rintro y1 _ _ ⟨rfl, rfl⟩
            refine alloc_rule (d := I false []) fun b1 h1 => ?_
            refine call_fn (v2 z3 z4) (Seals.refl _ _) (by repeat (first | exact Sub.nil _ | refine Sub.cons (by repeat (first | exact List.Mem.head _ | apply List.Mem.tail)) ?_)) ?_
            rintro y2 _ _ ⟨rfl, rfl⟩
            refine alloc_rule (d := I false []) fun b2 h2 => ?_
            refine store_box (d := zd a) 1 rfl h1 rfl (by kernel_rfl) (Reads.fact (by repeat (first | exact List.Mem.head _ | apply List.Mem.tail))) ?_
            refine store_box (d := zd b) 0 rfl h2 rfl (by kernel_rfl) (Reads.fact (by repeat (first | exact List.Mem.head _ | apply List.Mem.tail))) ?_
            exact again (b1, b2) trivial trivial (by repeat (first | exact trivial | refine ⟨rfl, ?_⟩ | refine ⟨i64_eq (by first | omega | (simp only; omega)), ?_⟩ | refine ⟨u64_eq (by first | omega | (simp only; omega)), ?_⟩)) (Seals.trans (Seals.box (d := zd b) 0 rfl h2 rfl) (Seals.trans (Seals.box (d := zd a) 0 rfl h1 rfl) (Seals.sub (by repeat (first | exact Sub.nil _ | refine Sub.cons (by repeat (first | exact List.Mem.head _ | apply List.Mem.tail)) ?_)))))
          · refine ord_split 8 9 (by kernel_rfl) (by kernel_rfl) (by kernel_rfl) ?_ ?_
            · refine ord_go [0, 1, 2, 4, 5, 6, 3, 8, 9, 7, 10, 11] (by kernel_rfl) (by kernel_rfl) ?_
              refine load_fact (d := J x) (by repeat (first | exact List.Mem.head _ | apply List.Mem.tail)) (load_J _) fun z1 => ?_
              refine load_fact (d := J y) (by repeat (first | exact List.Mem.head _ | apply List.Mem.tail)) (load_J _) fun z2 => ?_
              refine load_fact (d := J x) (by repeat (first | exact List.Mem.head _ | apply List.Mem.tail)) (load_J _) fun z3 => ?_
              refine load_fact (d := J y) (by repeat (first | exact List.Mem.head _ | apply List.Mem.tail)) (load_J _) fun z4 => ?_
              refine call_fn (v1 z1 z2) (Seals.refl _ _) (by repeat (first | exact Sub.nil _ | refine Sub.cons (by repeat (first | exact List.Mem.head _ | apply List.Mem.tail)) ?_)) ?_
              rintro y1 _ _ ⟨rfl, rfl⟩
              refine alloc_rule (d := I false []) fun b1 h1 => ?_
              refine alloc_rule (d := I false []) fun b2 h2 => ?_
              refine call_fn (v2 z3 z4) (Seals.refl _ _) (by repeat (first | exact Sub.nil _ | refine Sub.cons (by repeat (first | exact List.Mem.head _ | apply List.Mem.tail)) ?_)) ?_
              rintro y2 _ _ ⟨rfl, rfl⟩
              refine store_box (d := zd a) 1 rfl h1 rfl (by kernel_rfl) (Reads.fact (by repeat (first | exact List.Mem.head _ | apply List.Mem.tail))) ?_
              refine store_box (d := zd b) 0 rfl h2 rfl (by kernel_rfl) (Reads.fact (by repeat (first | exact List.Mem.head _ | apply List.Mem.tail))) ?_
              exact again (b1, b2) trivial trivial (by repeat (first | exact trivial | refine ⟨rfl, ?_⟩ | refine ⟨i64_eq (by first | omega | (simp only; omega)), ?_⟩ | refine ⟨u64_eq (by first | omega | (simp only; omega)), ?_⟩)) (Seals.trans (Seals.box (d := zd b) 0 rfl h2 rfl) (Seals.trans (Seals.box (d := zd a) 0 rfl h1 rfl) (Seals.sub (by repeat (first | exact Sub.nil _ | refine Sub.cons (by repeat (first | exact List.Mem.head _ | apply List.Mem.tail)) ?_)))))
            · refine ord_go [0, 1, 2, 4, 5, 6, 3, 9, 8, 7, 10, 11] (by kernel_rfl) (by kernel_rfl) ?_
              refine load_fact (d := J x) (by repeat (first | exact List.Mem.head _ | apply List.Mem.tail)) (load_J _) fun z1 => ?_
              refine load_fact (d := J y) (by repeat (first | exact List.Mem.head _ | apply List.Mem.tail)) (load_J _) fun z2 => ?_
              refine load_fact (d := J x) (by repeat (first | exact List.Mem.head _ | apply List.Mem.tail)) (load_J _) fun z3 => ?_
              refine load_fact (d := J y) (by repeat (first | exact List.Mem.head _ | apply List.Mem.tail)) (load_J _) fun z4 => ?_
              refine call_fn (v1 z1 z2) (Seals.refl _ _) (by repeat (first | exact Sub.nil _ | refine Sub.cons (by repeat (first | exact List.Mem.head _ | apply List.Mem.tail)) ?_)) ?_
              rintro y1 _ _ ⟨rfl, rfl⟩
              refine alloc_rule (d := I false []) fun b2 h2 => ?_
              refine alloc_rule (d := I false []) fun b1 h1 => ?_
              refine call_fn (v2 z3 z4) (Seals.refl _ _) (by repeat (first | exact Sub.nil _ | refine Sub.cons (by repeat (first | exact List.Mem.head _ | apply List.Mem.tail)) ?_)) ?_
              rintro y2 _ _ ⟨rfl, rfl⟩
              refine store_box (d := zd a) 0 rfl h1 rfl (by kernel_rfl) (Reads.fact (by repeat (first | exact List.Mem.head _ | apply List.Mem.tail))) ?_
              refine store_box (d := zd b) 1 rfl h2 rfl (by kernel_rfl) (Reads.fact (by repeat (first | exact List.Mem.head _ | apply List.Mem.tail))) ?_
              exact again (b1, b2) trivial trivial (by repeat (first | exact trivial | refine ⟨rfl, ?_⟩ | refine ⟨i64_eq (by first | omega | (simp only; omega)), ?_⟩ | refine ⟨u64_eq (by first | omega | (simp only; omega)), ?_⟩)) (Seals.trans (Seals.box (d := zd a) 0 rfl h1 rfl) (Seals.trans (Seals.box (d := zd b) 0 rfl h2 rfl) (Seals.sub (by repeat (first | exact Sub.nil _ | refine Sub.cons (by repeat (first | exact List.Mem.head _ | apply List.Mem.tail)) ?_)))))
      · refine ord_split 7 8 (by kernel_rfl) (by kernel_rfl) (by kernel_rfl) ?_ ?_
        · refine ord_go [0, 1, 2, 4, 5, 6, 9, 3, 7, 8, 10, 11] (by kernel_rfl) (by kernel_rfl) ?_
          refine load_fact (d := J x) (by repeat (first | exact List.Mem.head _ | apply List.Mem.tail)) (load_J _) fun z1 => ?_
          refine load_fact (d := J y) (by repeat (first | exact List.Mem.head _ | apply List.Mem.tail)) (load_J _) fun z2 => ?_
          refine load_fact (d := J x) (by repeat (first | exact List.Mem.head _ | apply List.Mem.tail)) (load_J _) fun z3 => ?_
          refine load_fact (d := J y) (by repeat (first | exact List.Mem.head _ | apply List.Mem.tail)) (load_J _) fun z4 => ?_
          refine alloc_rule (d := I false []) fun b2 h2 => ?_
          refine call_fn (v1 z1 z2) (Seals.refl _ _) (by repeat (first | exact Sub.nil _ | refine Sub.cons (by repeat (first | exact List.Mem.head _ | apply List.Mem.tail)) ?_)) ?_
          rintro y1 _ _ ⟨rfl, rfl⟩
          refine call_fn (v2 z3 z4) (Seals.refl _ _) (by repeat (first | exact Sub.nil _ | refine Sub.cons (by repeat (first | exact List.Mem.head _ | apply List.Mem.tail)) ?_)) ?_
          rintro y2 _ _ ⟨rfl, rfl⟩
          refine alloc_rule (d := I false []) fun b1 h1 => ?_
          refine store_box (d := zd a) 0 rfl h1 rfl (by kernel_rfl) (Reads.fact (by repeat (first | exact List.Mem.head _ | apply List.Mem.tail))) ?_
          refine store_box (d := zd b) 1 rfl h2 rfl (by kernel_rfl) (Reads.fact (by repeat (first | exact List.Mem.head _ | apply List.Mem.tail))) ?_
          exact again (b1, b2) trivial trivial (by repeat (first | exact trivial | refine ⟨rfl, ?_⟩ | refine ⟨i64_eq (by first | omega | (simp only; omega)), ?_⟩ | refine ⟨u64_eq (by first | omega | (simp only; omega)), ?_⟩)) (Seals.trans (Seals.box (d := zd a) 0 rfl h1 rfl) (Seals.trans (Seals.box (d := zd b) 0 rfl h2 rfl) (Seals.sub (by repeat (first | exact Sub.nil _ | refine Sub.cons (by repeat (first | exact List.Mem.head _ | apply List.Mem.tail)) ?_)))))
        · refine ord_go [0, 1, 2, 4, 5, 6, 9, 3, 8, 7, 10, 11] (by kernel_rfl) (by kernel_rfl) ?_
          refine load_fact (d := J x) (by repeat (first | exact List.Mem.head _ | apply List.Mem.tail)) (load_J _) fun z1 => ?_
          refine load_fact (d := J y) (by repeat (first | exact List.Mem.head _ | apply List.Mem.tail)) (load_J _) fun z2 => ?_
          refine load_fact (d := J x) (by repeat (first | exact List.Mem.head _ | apply List.Mem.tail)) (load_J _) fun z3 => ?_
          refine load_fact (d := J y) (by repeat (first | exact List.Mem.head _ | apply List.Mem.tail)) (load_J _) fun z4 => ?_
          refine alloc_rule (d := I false []) fun b2 h2 => ?_
          refine call_fn (v1 z1 z2) (Seals.refl _ _) (by repeat (first | exact Sub.nil _ | refine Sub.cons (by repeat (first | exact List.Mem.head _ | apply List.Mem.tail)) ?_)) ?_
          rintro y1 _ _ ⟨rfl, rfl⟩
          refine alloc_rule (d := I false []) fun b1 h1 => ?_
          refine call_fn (v2 z3 z4) (Seals.refl _ _) (by repeat (first | exact Sub.nil _ | refine Sub.cons (by repeat (first | exact List.Mem.head _ | apply List.Mem.tail)) ?_)) ?_
          rintro y2 _ _ ⟨rfl, rfl⟩
          refine store_box (d := zd a) 0 rfl h1 rfl (by kernel_rfl) (Reads.fact (by repeat (first | exact List.Mem.head _ | apply List.Mem.tail))) ?_
          refine store_box (d := zd b) 1 rfl h2 rfl (by kernel_rfl) (Reads.fact (by repeat (first | exact List.Mem.head _ | apply List.Mem.tail))) ?_
          exact again (b1, b2) trivial trivial (by repeat (first | exact trivial | refine ⟨rfl, ?_⟩ | refine ⟨i64_eq (by first | omega | (simp only; omega)), ?_⟩ | refine ⟨u64_eq (by first | omega | (simp only; omega)), ?_⟩)) (Seals.trans (Seals.box (d := zd a) 0 rfl h1 rfl) (Seals.trans (Seals.box (d := zd b) 0 rfl h2 rfl) (Seals.sub (by repeat (first | exact Sub.nil _ | refine Sub.cons (by repeat (first | exact List.Mem.head _ | apply List.Mem.tail)) ?_)))))
    · refine ord_split 3 9 (by kernel_rfl) (by kernel_rfl) (by kernel_rfl) ?_ ?_
      · refine ord_split 7 9 (by kernel_rfl) (by kernel_rfl) (by kernel_rfl) ?_ ?_
        · refine ord_go [0, 1, 2, 4, 5, 6, 8, 3, 7, 9, 10, 11] (by kernel_rfl) (by kernel_rfl) ?_
          refine load_fact (d := J x) (by repeat (first | exact List.Mem.head _ | apply List.Mem.tail)) (load_J _) fun z1 => ?_
          refine load_fact (d := J y) (by repeat (first | exact List.Mem.head _ | apply List.Mem.tail)) (load_J _) fun z2 => ?_
          refine load_fact (d := J x) (by repeat (first | exact List.Mem.head _ | apply List.Mem.tail)) (load_J _) fun z3 => ?_
          refine load_fact (d := J y) (by repeat (first | exact List.Mem.head _ | apply List.Mem.tail)) (load_J _) fun z4 => ?_
          refine alloc_rule (d := I false []) fun b1 h1 => ?_
          refine call_fn (v1 z1 z2) (Seals.refl _ _) (by repeat (first | exact Sub.nil _ | refine Sub.cons (by repeat (first | exact List.Mem.head _ | apply List.Mem.tail)) ?_)) ?_
          rintro y1 _ _ ⟨rfl, rfl⟩
          refine call_fn (v2 z3 z4) (Seals.refl _ _) (by repeat (first | exact Sub.nil _ | refine Sub.cons (by repeat (first | exact List.Mem.head _ | apply List.Mem.tail)) ?_)) ?_
          rintro y2 _ _ ⟨rfl, rfl⟩
          refine alloc_rule (d := I false []) fun b2 h2 => ?_
          refine store_box (d := zd a) 1 rfl h1 rfl (by kernel_rfl) (Reads.fact (by repeat (first | exact List.Mem.head _ | apply List.Mem.tail))) ?_
          refine store_box (d := zd b) 0 rfl h2 rfl (by kernel_rfl) (Reads.fact (by repeat (first | exact List.Mem.head _ | apply List.Mem.tail))) ?_
          exact again (b1, b2) trivial trivial (by repeat (first | exact trivial | refine ⟨rfl, ?_⟩ | refine ⟨i64_eq (by first | omega | (simp only; omega)), ?_⟩ | refine ⟨u64_eq (by first | omega | (simp only; omega)), ?_⟩)) (Seals.trans (Seals.box (d := zd b) 0 rfl h2 rfl) (Seals.trans (Seals.box (d := zd a) 0 rfl h1 rfl) (Seals.sub (by repeat (first | exact Sub.nil _ | refine Sub.cons (by repeat (first | exact List.Mem.head _ | apply List.Mem.tail)) ?_)))))
        · refine ord_go [0, 1, 2, 4, 5, 6, 8, 3, 9, 7, 10, 11] (by kernel_rfl) (by kernel_rfl) ?_
          refine load_fact (d := J x) (by repeat (first | exact List.Mem.head _ | apply List.Mem.tail)) (load_J _) fun z1 => ?_
          refine load_fact (d := J y) (by repeat (first | exact List.Mem.head _ | apply List.Mem.tail)) (load_J _) fun z2 => ?_
          refine load_fact (d := J x) (by repeat (first | exact List.Mem.head _ | apply List.Mem.tail)) (load_J _) fun z3 => ?_
          refine load_fact (d := J y) (by repeat (first | exact List.Mem.head _ | apply List.Mem.tail)) (load_J _) fun z4 => ?_
          refine alloc_rule (d := I false []) fun b1 h1 => ?_
          refine call_fn (v1 z1 z2) (Seals.refl _ _) (by repeat (first | exact Sub.nil _ | refine Sub.cons (by repeat (first | exact List.Mem.head _ | apply List.Mem.tail)) ?_)) ?_
          rintro y1 _ _ ⟨rfl, rfl⟩
          refine alloc_rule (d := I false []) fun b2 h2 => ?_
          refine call_fn (v2 z3 z4) (Seals.refl _ _) (by repeat (first | exact Sub.nil _ | refine Sub.cons (by repeat (first | exact List.Mem.head _ | apply List.Mem.tail)) ?_)) ?_
          rintro y2 _ _ ⟨rfl, rfl⟩
          refine store_box (d := zd a) 1 rfl h1 rfl (by kernel_rfl) (Reads.fact (by repeat (first | exact List.Mem.head _ | apply List.Mem.tail))) ?_
          refine store_box (d := zd b) 0 rfl h2 rfl (by kernel_rfl) (Reads.fact (by repeat (first | exact List.Mem.head _ | apply List.Mem.tail))) ?_
          exact again (b1, b2) trivial trivial (by repeat (first | exact trivial | refine ⟨rfl, ?_⟩ | refine ⟨i64_eq (by first | omega | (simp only; omega)), ?_⟩ | refine ⟨u64_eq (by first | omega | (simp only; omega)), ?_⟩)) (Seals.trans (Seals.box (d := zd b) 0 rfl h2 rfl) (Seals.trans (Seals.box (d := zd a) 0 rfl h1 rfl) (Seals.sub (by repeat (first | exact Sub.nil _ | refine Sub.cons (by repeat (first | exact List.Mem.head _ | apply List.Mem.tail)) ?_)))))
      · refine ord_split 8 9 (by kernel_rfl) (by kernel_rfl) (by kernel_rfl) ?_ ?_
        · refine ord_go [0, 1, 2, 4, 5, 6, 8, 9, 3, 7, 10, 11] (by kernel_rfl) (by kernel_rfl) ?_
          refine load_fact (d := J x) (by repeat (first | exact List.Mem.head _ | apply List.Mem.tail)) (load_J _) fun z1 => ?_
          refine load_fact (d := J y) (by repeat (first | exact List.Mem.head _ | apply List.Mem.tail)) (load_J _) fun z2 => ?_
          refine load_fact (d := J x) (by repeat (first | exact List.Mem.head _ | apply List.Mem.tail)) (load_J _) fun z3 => ?_
          refine load_fact (d := J y) (by repeat (first | exact List.Mem.head _ | apply List.Mem.tail)) (load_J _) fun z4 => ?_
          refine alloc_rule (d := I false []) fun b1 h1 => ?_
          refine alloc_rule (d := I false []) fun b2 h2 => ?_
          refine call_fn (v1 z1 z2) (Seals.refl _ _) (by repeat (first | exact Sub.nil _ | refine Sub.cons (by repeat (first | exact List.Mem.head _ | apply List.Mem.tail)) ?_)) ?_
          rintro y1 _ _ ⟨rfl, rfl⟩
          refine call_fn (v2 z3 z4) (Seals.refl _ _) (by repeat (first | exact Sub.nil _ | refine Sub.cons (by repeat (first | exact List.Mem.head _ | apply List.Mem.tail)) ?_)) ?_
          rintro y2 _ _ ⟨rfl, rfl⟩
          refine store_box (d := zd a) 1 rfl h1 rfl (by kernel_rfl) (Reads.fact (by repeat (first | exact List.Mem.head _ | apply List.Mem.tail))) ?_
          refine store_box (d := zd b) 0 rfl h2 rfl (by kernel_rfl) (Reads.fact (by repeat (first | exact List.Mem.head _ | apply List.Mem.tail))) ?_
          exact again (b1, b2) trivial trivial (by repeat (first | exact trivial | refine ⟨rfl, ?_⟩ | refine ⟨i64_eq (by first | omega | (simp only; omega)), ?_⟩ | refine ⟨u64_eq (by first | omega | (simp only; omega)), ?_⟩)) (Seals.trans (Seals.box (d := zd b) 0 rfl h2 rfl) (Seals.trans (Seals.box (d := zd a) 0 rfl h1 rfl) (Seals.sub (by repeat (first | exact Sub.nil _ | refine Sub.cons (by repeat (first | exact List.Mem.head _ | apply List.Mem.tail)) ?_)))))
        · refine ord_go [0, 1, 2, 4, 5, 6, 9, 8, 3, 7, 10, 11] (by kernel_rfl) (by kernel_rfl) ?_
          refine load_fact (d := J x) (by repeat (first | exact List.Mem.head _ | apply List.Mem.tail)) (load_J _) fun z1 => ?_
          refine load_fact (d := J y) (by repeat (first | exact List.Mem.head _ | apply List.Mem.tail)) (load_J _) fun z2 => ?_
          refine load_fact (d := J x) (by repeat (first | exact List.Mem.head _ | apply List.Mem.tail)) (load_J _) fun z3 => ?_
          refine load_fact (d := J y) (by repeat (first | exact List.Mem.head _ | apply List.Mem.tail)) (load_J _) fun z4 => ?_
          refine alloc_rule (d := I false []) fun b2 h2 => ?_
          refine alloc_rule (d := I false []) fun b1 h1 => ?_
          refine call_fn (v1 z1 z2) (Seals.refl _ _) (by repeat (first | exact Sub.nil _ | refine Sub.cons (by repeat (first | exact List.Mem.head _ | apply List.Mem.tail)) ?_)) ?_
          rintro y1 _ _ ⟨rfl, rfl⟩
          refine call_fn (v2 z3 z4) (Seals.refl _ _) (by repeat (first | exact Sub.nil _ | refine Sub.cons (by repeat (first | exact List.Mem.head _ | apply List.Mem.tail)) ?_)) ?_
          rintro y2 _ _ ⟨rfl, rfl⟩
          refine store_box (d := zd a) 0 rfl h1 rfl (by kernel_rfl) (Reads.fact (by repeat (first | exact List.Mem.head _ | apply List.Mem.tail))) ?_
          refine store_box (d := zd b) 1 rfl h2 rfl (by kernel_rfl) (Reads.fact (by repeat (first | exact List.Mem.head _ | apply List.Mem.tail))) ?_
          exact again (b1, b2) trivial trivial (by repeat (first | exact trivial | refine ⟨rfl, ?_⟩ | refine ⟨i64_eq (by first | omega | (simp only; omega)), ?_⟩ | refine ⟨u64_eq (by first | omega | (simp only; omega)), ?_⟩)) (Seals.trans (Seals.box (d := zd a) 0 rfl h1 rfl) (Seals.trans (Seals.box (d := zd b) 0 rfl h2 rfl) (Seals.sub (by repeat (first | exact Sub.nil _ | refine Sub.cons (by repeat (first | exact List.Mem.head _ | apply List.Mem.tail)) ?_)))))
  rintro ⟨b1, b2⟩ -
  refine draw_rule [0, 1, 3, 4, 6, 7, 2, 5, 8, 9, 10, 11, 12, 14, 15, 17, 18, 13, 16, 19, 20, 21, 22] [0, 1, 2, 3, 4, 5, 6, 7, 8, 9, 10, 11, 12, 13, 14, 15, 16, 17, 18, 19, 20, 21, 22] (by kernel_rfl) (by kernel_rfl) ?_
  refine load_fact (d := J x) (by repeat (first | exact List.Mem.head _ | apply List.Mem.tail)) (load_J _) fun z5 => ?_
  refine load_fact (d := J y) (by repeat (first | exact List.Mem.head _ | apply List.Mem.tail)) (load_J _) fun z6 => ?_
  refine load_fact (d := zd a) (by repeat (first | exact List.Mem.head _ | apply List.Mem.tail)) (load_I _ _) fun z7 => ?_
  refine load_fact (d := zd b) (by repeat (first | exact List.Mem.head _ | apply List.Mem.tail)) (load_I _ _) fun z8 => ?_
  refine call_fn (xgAdd u v P Q) (Seals.refl _ _) (by repeat (first | exact Sub.nil _ | refine Sub.cons (by repeat (first | exact List.Mem.head _ | apply List.Mem.tail)) ?_)) ?_
  rintro x1 _ _ ⟨rfl, rfl⟩
  refine call_fn (v3 x1 z5 z6) (Seals.refl _ _) (by repeat (first | exact Sub.nil _ | refine Sub.cons (by repeat (first | exact List.Mem.head _ | apply List.Mem.tail)) ?_)) ?_
  rintro x2 _ _ ⟨rfl, rfl⟩
  refine call_fn (rAddZZ z7 z8 a b 17 sL sM (by decide)) (Seals.refl _ _) (by repeat (first | exact Sub.nil _ | refine Sub.cons (by repeat (first | exact List.Mem.head _ | apply List.Mem.tail)) ?_)) ?_
  rintro x3 _ _ ⟨rfl, rfl⟩
  refine call_fn (exactE x2 x3 _ _ (rfl)) (Seals.refl _ _) (by repeat (first | exact Sub.nil _ | refine Sub.cons (by repeat (first | exact List.Mem.head _ | apply List.Mem.tail)) ?_)) ?_
  rintro _ _ _ ⟨rfl, rfl, rfl⟩
  refine load_fact (d := J x) (by repeat (first | exact List.Mem.head _ | apply List.Mem.tail)) (load_J _) fun z5 => ?_
  refine load_fact (d := J y) (by repeat (first | exact List.Mem.head _ | apply List.Mem.tail)) (load_J _) fun z6 => ?_
  refine load_fact (d := zd a) (by repeat (first | exact List.Mem.head _ | apply List.Mem.tail)) (load_I _ _) fun z7 => ?_
  refine load_fact (d := zd b) (by repeat (first | exact List.Mem.head _ | apply List.Mem.tail)) (load_I _ _) fun z8 => ?_
  refine call_fn (xgMul u v P Q) (Seals.refl _ _) (by repeat (first | exact Sub.nil _ | refine Sub.cons (by repeat (first | exact List.Mem.head _ | apply List.Mem.tail)) ?_)) ?_
  rintro x1 _ _ ⟨rfl, rfl⟩
  refine call_fn (v4 x1 z5 z6) (Seals.refl _ _) (by repeat (first | exact Sub.nil _ | refine Sub.cons (by repeat (first | exact List.Mem.head _ | apply List.Mem.tail)) ?_)) ?_
  rintro x2 _ _ ⟨rfl, rfl⟩
  refine call_fn (rMulZZ z7 z8 a b 17 sL sM (by decide)) (Seals.refl _ _) (by repeat (first | exact Sub.nil _ | refine Sub.cons (by repeat (first | exact List.Mem.head _ | apply List.Mem.tail)) ?_)) ?_
  rintro x3 _ _ ⟨rfl, rfl⟩
  refine call_fn (exactE x2 x3 _ _ (rfl)) (Seals.refl _ _) (by repeat (first | exact Sub.nil _ | refine Sub.cons (by repeat (first | exact List.Mem.head _ | apply List.Mem.tail)) ?_)) ?_
  rintro _ _ _ ⟨rfl, rfl, rfl⟩
  refine draw_rule [0, 1, 2, 3, 5, 7, 4, 6, 8, 9, 10, 11, 12, 14, 16, 13, 15, 17, 18, 19] [0, 1, 2, 3, 4, 5, 6, 7, 8, 9, 10, 11, 12, 13, 14, 15, 16, 17, 18, 19] (by kernel_rfl) (by kernel_rfl) ?_
  refine load_fact (d := J x) (by repeat (first | exact List.Mem.head _ | apply List.Mem.tail)) (load_J _) fun z5 => ?_
  refine load_fact (d := J y) (by repeat (first | exact List.Mem.head _ | apply List.Mem.tail)) (load_J _) fun z6 => ?_
  refine load_fact (d := zd a) (by repeat (first | exact List.Mem.head _ | apply List.Mem.tail)) (load_I _ _) fun z7 => ?_
  refine call_fn (xgPutX u z5 P hx hxl) (Seals.refl _ _) (by repeat (first | exact Sub.nil _ | refine Sub.cons (by repeat (first | exact List.Mem.head _ | apply List.Mem.tail)) ?_)) ?_
  rintro x1 _ _ ⟨rfl, rfl⟩
  refine call_fn (v6 x1 z6) (Seals.refl _ _) (by repeat (first | exact Sub.nil _ | refine Sub.cons (by repeat (first | exact List.Mem.head _ | apply List.Mem.tail)) ?_)) ?_
  rintro x2 _ _ ⟨rfl, rfl⟩
  refine call_fn (exactE x2 z7 _ _ (rfl)) (Seals.refl _ _) (by repeat (first | exact Sub.nil _ | refine Sub.cons (by repeat (first | exact List.Mem.head _ | apply List.Mem.tail)) ?_)) ?_
  rintro _ _ _ ⟨rfl, rfl, rfl⟩
  refine load_fact (d := J y) (by repeat (first | exact List.Mem.head _ | apply List.Mem.tail)) (load_J _) fun z6 => ?_
  refine load_fact (d := J x) (by repeat (first | exact List.Mem.head _ | apply List.Mem.tail)) (load_J _) fun z5 => ?_
  refine load_fact (d := zd a) (by repeat (first | exact List.Mem.head _ | apply List.Mem.tail)) (load_I _ _) fun z7 => ?_
  refine call_fn (xgPutY u z6 P hy hyl) (Seals.refl _ _) (by repeat (first | exact Sub.nil _ | refine Sub.cons (by repeat (first | exact List.Mem.head _ | apply List.Mem.tail)) ?_)) ?_
  rintro x1 _ _ ⟨rfl, rfl⟩
  refine call_fn (v7 x1 z5) (Seals.refl _ _) (by repeat (first | exact Sub.nil _ | refine Sub.cons (by repeat (first | exact List.Mem.head _ | apply List.Mem.tail)) ?_)) ?_
  rintro x2 _ _ ⟨rfl, rfl⟩
  refine call_fn (exactE x2 z7 _ _ (rfl)) (Seals.refl _ _) (by repeat (first | exact Sub.nil _ | refine Sub.cons (by repeat (first | exact List.Mem.head _ | apply List.Mem.tail)) ?_)) ?_
  rintro _ _ _ ⟨rfl, rfl, rfl⟩
  refine draw_rule [0, 1, 2, 4, 5, 7, 3, 6, 8, 9, 10, 11, 14, 12, 13, 15, 16, 17, 18] [0, 1, 2, 3, 4, 5, 6, 7, 8, 9, 10, 11, 12, 13, 14, 15, 16, 17, 18] (by kernel_rfl) (by kernel_rfl) ?_
  refine load_fact (d := J y) (by repeat (first | exact List.Mem.head _ | apply List.Mem.tail)) (load_J _) fun z6 => ?_
  refine load_fact (d := J x) (by repeat (first | exact List.Mem.head _ | apply List.Mem.tail)) (load_J _) fun z5 => ?_
  refine load_fact (d := zd a) (by repeat (first | exact List.Mem.head _ | apply List.Mem.tail)) (load_I _ _) fun z7 => ?_
  refine call_fn (xgTurn u P) (Seals.refl _ _) (by repeat (first | exact Sub.nil _ | refine Sub.cons (by repeat (first | exact List.Mem.head _ | apply List.Mem.tail)) ?_)) ?_
  rintro x1 _ _ ⟨rfl, rfl⟩
  refine call_fn (v5 x1 z6 z5) (Seals.refl _ _) (by repeat (first | exact Sub.nil _ | refine Sub.cons (by repeat (first | exact List.Mem.head _ | apply List.Mem.tail)) ?_)) ?_
  rintro x2 _ _ ⟨rfl, rfl⟩
  refine call_fn (exactE x2 z7 _ _ (rfl)) (Seals.refl _ _) (by repeat (first | exact Sub.nil _ | refine Sub.cons (by repeat (first | exact List.Mem.head _ | apply List.Mem.tail)) ?_)) ?_
  rintro _ _ _ ⟨rfl, rfl, rfl⟩
  refine call_fn (xgTurn u P) (Seals.refl _ _) (by repeat (first | exact Sub.nil _ | refine Sub.cons (by repeat (first | exact List.Mem.head _ | apply List.Mem.tail)) ?_)) ?_
  rintro x1 _ _ ⟨rfl, rfl⟩
  refine call_fn (xgTurn x1 P.tu) (Seals.refl _ _) (by repeat (first | exact Sub.nil _ | refine Sub.cons (by repeat (first | exact List.Mem.head _ | apply List.Mem.tail)) ?_)) ?_
  rintro x2 _ _ ⟨rfl, rfl⟩
  refine call_fn (xgNorm u P) (Seals.refl _ _) (by repeat (first | exact Sub.nil _ | refine Sub.cons (by repeat (first | exact List.Mem.head _ | apply List.Mem.tail)) ?_)) ?_
  rintro x3 _ _ ⟨rfl, rfl⟩
  refine call_fn (gsameT x2 x3 _ _ (e1)) (Seals.refl _ _) (by repeat (first | exact Sub.nil _ | refine Sub.cons (by repeat (first | exact List.Mem.head _ | apply List.Mem.tail)) ?_)) ?_
  rintro _ _ _ ⟨rfl, rfl, rfl⟩
  refine call_fn (xgMul u v P Q) (Seals.refl _ _) (by repeat (first | exact Sub.nil _ | refine Sub.cons (by repeat (first | exact List.Mem.head _ | apply List.Mem.tail)) ?_)) ?_
  rintro x1 _ _ ⟨rfl, rfl⟩
  refine call_fn (xgTurn x1 mPQ) (Seals.refl _ _) (by repeat (first | exact Sub.nil _ | refine Sub.cons (by repeat (first | exact List.Mem.head _ | apply List.Mem.tail)) ?_)) ?_
  rintro x2 _ _ ⟨rfl, rfl⟩
  refine call_fn (xgTurn u P) (Seals.refl _ _) (by repeat (first | exact Sub.nil _ | refine Sub.cons (by repeat (first | exact List.Mem.head _ | apply List.Mem.tail)) ?_)) ?_
  rintro x3 _ _ ⟨rfl, rfl⟩
  refine call_fn (xgTurn v Q) (Seals.refl _ _) (by repeat (first | exact Sub.nil _ | refine Sub.cons (by repeat (first | exact List.Mem.head _ | apply List.Mem.tail)) ?_)) ?_
  rintro x4 _ _ ⟨rfl, rfl⟩
  refine call_fn (xgMul x3 x4 P.tu Q.tu) (Seals.refl _ _) (by repeat (first | exact Sub.nil _ | refine Sub.cons (by repeat (first | exact List.Mem.head _ | apply List.Mem.tail)) ?_)) ?_
  rintro x5 _ _ ⟨rfl, rfl⟩
  refine call_fn (gsameT x2 x5 _ _ (e2)) (Seals.refl _ _) (by repeat (first | exact Sub.nil _ | refine Sub.cons (by repeat (first | exact List.Mem.head _ | apply List.Mem.tail)) ?_)) ?_
  rintro _ _ _ ⟨rfl, rfl, rfl⟩
  exact fin ⟨rfl, rfl, rfl⟩ (Seals.nil _ _)
end Go.Proofs.Ytfkeohlpcjpkbaa

namespace Go.Proofs.Ytfkeohlpcjpkbaa
open Go.ChangeShapes Go.WideShapes Go.ChangeAt Go.RowKit
open Go.Joins (open_agg2)
set_option maxRecDepth 100000 in
theorem gridValues_lifted (os : Os) (started : os.Started) (H : Type) (enc : TypeId × Value → H) :
    ReturnsInHanded {} Try.checked os 5 .any (Rows.gridValuesSpec.pre6 enc Try.prog Try.f5 Rows.gridValuesRow.domain false) (Rows.gridValuesSpec.post enc Try.prog Try.f5 false true false false) := by
  refine returnsInHanded_of_change (C := Try.checked) own0 started (by kernel_rfl) Try.func5
    (ChangeSpec.witness6 (enc := enc) (C := Try.checked) false ⟨#[], #[.slice none 0 0, .slice none 0 0, .agg #[.bool false, .slice none 0 0], .agg #[.bool false, .slice none 0 0]], []⟩ 8 (by kernel_rfl) (by kernel_rfl) (by kernel_rfl) (by kernel_rfl)) ?_
  intro Wd base args ds gs before hval0 hW hcnd _
  have hval : ∀ (j : Nat) t v, Try.f5.params[j]? = some t → args[j]? = some v → Value.okWide Try.prog Wd .any base t v := hval0
  have hW' := hW
  obtain ⟨p, q, hA0, hV, rfl, hfz, hnd⟩ := hW
  have hA : DataW.TrodAll enc Try.prog Wd 0 (fun _ => true) true Try.f5.params.toList args.toList ds p := hA0
  rw [Try.params5] at hA hval
  obtain ⟨v0, vs0, d0, ds0, p0, q0, hargs, rfl, rfl, h0, r0⟩ := trodAll_cons hA
  obtain ⟨v1, vs1, d1, ds1, p1, q1, rfl, rfl, rfl, h1, r1⟩ := trodAll_cons r0
  obtain ⟨v2, vs2, d2, ds2, p2, q2, rfl, rfl, rfl, h2, r2⟩ := trodAll_cons r1
  obtain ⟨v3, vs3, d3, ds3, p3, q3, rfl, rfl, rfl, h3, r3⟩ := trodAll_cons r2
  obtain ⟨rfl, rfl, rfl⟩ := trodAll_nil r3
  obtain rfl : args = #[v0, v1, v2, v3] := by cases args; simp_all
  obtain ⟨rfl, rfl⟩ := trodVars_none hV
  obtain ⟨a0, n0, c0, rfl⟩ := okWide_slice Try.underlying23 (hval 0 23 v0 rfl rfl)
  have k0 := h0
  have lt0 : ∀ x ∈ p0, x.block < Wd.heap.size := by obtain ⟨m, hm⟩ := k0; exact DataW.trod_lt m _ _ _ hm
  obtain ⟨m0, lm0, rd0⟩ : ∃ m, limM m ∧ Rd (fun b => b < Wd.heap.size) Wd (.slice a0 n0 c0) (W m) := by
    obtain ⟨fuel, hf⟩ := h0
    obtain ⟨m, e1, e2⟩ := rd_grid hf
    exact ⟨m, e1, rd_val rfl e2⟩
  obtain ⟨a1, n1, c1, rfl⟩ := okWide_slice Try.underlying23 (hval 1 23 v1 rfl rfl)
  have k1 := h1
  have lt1 : ∀ x ∈ p1, x.block < Wd.heap.size := by obtain ⟨m, hm⟩ := k1; exact DataW.trod_lt m _ _ _ hm
  obtain ⟨m1, lm1, rd1⟩ : ∃ m, limM m ∧ Rd (fun b => b < Wd.heap.size) Wd (.slice a1 n1 c1) (W m) := by
    obtain ⟨fuel, hf⟩ := h1
    obtain ⟨m, e1, e2⟩ := rd_grid hf
    exact ⟨m, e1, rd_val rfl e2⟩
  have k2 := h2
  have lt2 : ∀ x ∈ p2, x.block < Wd.heap.size := by obtain ⟨m, hm⟩ := k2; exact DataW.trod_lt m _ _ _ hm
  obtain ⟨m2, lm2, rd2⟩ : ∃ m : Bool × List Nat, Lim m.2 ∧ Rd (fun b => b < Wd.heap.size) Wd v2 (J m) := rd_arg (hval 2 39 v2 rfl rfl) h2
  have k3 := h3
  have lt3 : ∀ x ∈ p3, x.block < Wd.heap.size := by obtain ⟨m, hm⟩ := k3; exact DataW.trod_lt m _ _ _ hm
  obtain ⟨m3, lm3, rd3⟩ : ∃ m : Bool × List Nat, Lim m.2 ∧ Rd (fun b => b < Wd.heap.size) Wd v3 (J m) := rd_arg (hval 3 39 v3 rfl rfl) h3
  clear hA0 hval0
  refine (calls_of_meets (w := Wd) (gValues_meets (.slice a0 n0 c0) (.slice a1 n1 c1) v2 v3 m0 m1 m2 m3 lm0 lm1 lm2 lm3) ?_).mono fun e W2 ⟨he, bel⟩ => ?_
  · intro F hF
    simp only [List.mem_cons, List.not_mem_nil, or_false] at hF
    rcases hF with rfl | rfl | rfl | rfl
    · exact rd0
    · exact rd1
    · exact rd2
    · exact rd3
  subst he
  exact ⟨_, rfl, _, _, _, [], _, [], hW', trodAll_mk1 (shut_bool Try.underlying4 _), (trodAll_cons_mk (Below.trod laid0 (by kernel_rfl) (of_decide_eq_true (by kernel_rfl)) k0 bel lt0) (trodAll_cons_mk (Below.trod laid0 (by kernel_rfl) (of_decide_eq_true (by kernel_rfl)) k1 bel lt1) (trodAll_cons_mk (Below.trod laid0 (by kernel_rfl) (of_decide_eq_true (by kernel_rfl)) k2 bel lt2) (trodAll_cons_mk (Below.trod laid0 (by kernel_rfl) (of_decide_eq_true (by kernel_rfl)) k3 bel lt3) trodAll_mk0)))), rfl, bel.frame _, fun h => by cases h⟩
theorem gridValues_holds : Rows.GridValuesSaid :=
  OpenClaim.holds_of_wide 5 Try.f5 rfl rfl rfl rfl rfl rfl rfl ⟨rfl, rfl, rfl, rfl, rfl⟩ rfl rfl rfl rfl rfl (by kernel_rfl) Try.func5 (by kernel_rfl)
    (of_decide_eq_true (by kernel_rfl)) (by unfold Func.isWrapper; first | (rw [if_pos (by decide +kernel)]; kernel_rfl) | (rw [if_neg (by decide +kernel)]; exact ⟨rfl, rfl⟩))
    (fun os started H enc _ => gridValues_lifted os started H enc)
#print axioms gridValues_holds
end Go.Proofs.Ytfkeohlpcjpkbaa
