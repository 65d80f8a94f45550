/- Towards the statement, part 3 of 5: contracts of functions, and what they rest on. Conditions: each theorem names its own. -/
import Derived.Test.YtabdfhdddmbmlaaM2
import Derived.ProofKit
import Derived.Deep.Slices
set_option linter.unusedVariables false
set_option linter.unusedSimpArgs false

namespace Go.Proofs.Ytabdfhdddmbmlaa
theorem mul_congr {n : Nat} {A A' B B' : Mx} {i j : Nat} (h1 : ∀ k, k < n → A i k = A' i k) (h2 : ∀ k, k < n → B k j = B' k j) : mm n A B i j = mm n A' B' i j :=
  isum_congr fun k hk => by rw [h1 k hk, h2 k hk]
theorem mul_assoc (m n : Nat) (A B C : Mx) (i j : Nat) : mm n (mm m A B) C i j = mm m A (mm n B C) i j := by
  unfold mm
  rw [isum_congr (g' := fun k => isum (fun l => A i l * B l k * C k j) m) fun k _ => (isum_mul_right _ _ _).symm, isum_swap]
  exact isum_congr fun l _ => by rw [← isum_mul]; exact isum_congr fun k _ => Int.mul_assoc _ _ _
theorem one_mul {n : Nat} (A : Mx) {i j : Nat} (hi : i < n) : mm n one A i j = A i j := by
  unfold mm
  rw [isum_one (r := i) hi fun k _ hk => by simp [one, Ne.symm hk]]
  simp [one]
theorem mul_sum_left (n : Nat) (c : Int) (A B : Mx) (i j : Nat) : mm n (fun x y => c * A x y) B i j = c * mm n A B i j := by
  unfold mm; rw [← isum_mul]; exact isum_congr fun k _ => Int.mul_assoc _ _ _
theorem mul_sum_right (n : Nat) (c : Int) (A B : Mx) (i j : Nat) : mm n A (fun x y => c * B x y) i j = c * mm n A B i j := by
  unfold mm; rw [← isum_mul]; exact isum_congr fun k _ => by grind
def Lo (r R C : Nat) (A : Mx) : Prop := ∃ X Y : Mx, det r (mm C (mm R X A) Y) ≠ 0
def Up (r R C : Nat) (A : Mx) : Prop := ∃ d : Int, d ≠ 0 ∧ ∃ B E : Mx, ∀ i k, i < R → k < C → d * A i k = mm r B E i k
theorem det_zero_col {n : Nat} {A : Mx} {c : Nat} (hc : c < n) (h : ∀ i, i < n → A i c = 0) : det n A = 0 := by
  rw [← det_tr]
  exact (det_form n).zero hc fun j hj => h j hj
theorem isum_cut {g : Nat → Int} {m n : Nat} (h : m ≤ n) (hz : ∀ k, m ≤ k → k < n → g k = 0) : isum g n = isum g m := by
  induction n with
  | zero => have : m = 0 := by omega
            subst this; rfl
  | succ n ih =>
    by_cases e : m = n + 1
    · rw [e]
    · rw [isum, hz n (by omega) (by omega), ih (by omega) fun k h1 h2 => hz k h1 (by omega)]; omega
/-- A product over fewer than its rows has the determinant 0. -/
theorem det_thin {s r : Nat} (h : s < r) (U V : Mx) : det r (mm s U V) = 0 := by
  have e : ∀ i j, mm s U V i j = mm r (fun i k => if k < s then U i k else 0) V i j := fun i j => by
    unfold mm
    rw [isum_cut (m := s) (n := r) (by omega) fun k h1 _ => by show (if k < s then U i k else 0) * V k j = 0; rw [if_neg (by omega)]; simp]
    exact isum_congr fun k hk => by show _ = (if k < s then U i k else 0) * V k j; rw [if_pos hk]
  rw [det_congr fun i j _ _ => e i j, det_mul, det_zero_col (c := s) h fun i _ => by rw [if_neg (by omega)], Int.zero_mul]
theorem det_smul : ∀ (n : Nat) (c : Int) (A : Mx), det n (fun i j => c * A i j) = c ^ n * det n A
  | 0, c, A => by simp [det]
  | n + 1, c, A => by
    simp only [det]
    rw [← isum_mul]
    refine isum_congr fun i _ => ?_
    have : cut (fun i j => c * A i j) i 0 = fun x y => c * cut A i 0 x y := rfl
    rw [this, det_smul n c, Int.pow_succ]
    grind
theorem pow_ne {d : Int} (hd : d ≠ 0) : ∀ n : Nat, d ^ n ≠ 0
  | 0 => by simp
  | n + 1 => by rw [Int.pow_succ]; exact Int.mul_ne_zero (pow_ne hd n) hd
theorem Lo_le_Up {r s R C : Nat} {A : Mx} (h1 : Lo r R C A) (h2 : Up s R C A) : r ≤ s := by
  rcases Nat.lt_or_ge s r with h | h
  · exfalso
    obtain ⟨X, Y, h1⟩ := h1
    obtain ⟨d, hd, B, E, h2⟩ := h2
    have h3 : det r (fun i j => d * mm C (mm R X A) Y i j) = 0 := by
      rw [← det_thin h (mm R X B) (mm C E Y)]
      refine det_congr fun i j hi hj => ?_
      rw [← mul_sum_left]
      have e1 : ∀ k, k < C → (fun x y => d * mm R X A x y) i k = mm R X (mm s B E) i k := fun k hk => by
        simp only
        rw [← mul_sum_right]
        exact mul_congr (fun _ _ => rfl) fun l hl => h2 l k hl hk
      rw [mul_congr e1 (fun _ _ => rfl)]
      rw [mul_congr (A := mm R X (mm s B E)) (A' := mm s (mm R X B) E) (fun k _ => (mul_assoc R s X B E i k).symm) (fun _ _ => rfl), mul_assoc]
    rw [det_smul] at h3
    rcases Int.mul_eq_zero.1 h3 with h4 | h4
    · exact pow_ne hd _ h4
    · exact h1 h4
  · exact h
structure Rk (r R C : Nat) (A : Mx) : Prop where
  lo : Lo r R C A
  up : Up r R C A
theorem Up_rows (R C : Nat) (A : Mx) : Up R R C A := ⟨1, by decide, one, A, fun i k hi _ => by rw [one_mul A hi]; omega⟩
theorem Rk.le_rows {r R C : Nat} {A : Mx} (h : Rk r R C A) : r ≤ R := Lo_le_Up h.lo (Up_rows R C A)
theorem Up.mul_left {r R K C : Nat} {A B : Mx} (h : Up r R K A) : Up r R C (mm K A B) := by
  obtain ⟨d, hd, U, V, h⟩ := h
  refine ⟨d, hd, U, mm K V B, fun i k hi hk => ?_⟩
  rw [← mul_assoc, ← mul_sum_left]
  exact mul_congr (fun l hl => h i l hi hl) (fun _ _ => rfl)
theorem Up.mul_right {r R K C : Nat} {A B : Mx} (h : Up r K C B) : Up r R C (mm K A B) := by
  obtain ⟨d, hd, U, V, h⟩ := h
  refine ⟨d, hd, mm K A U, V, fun i k hi hk => ?_⟩
  rw [mul_assoc, ← mul_sum_right]
  exact mul_congr (fun _ _ => rfl) (fun l hl => h l k hl hk)
theorem Rk.mul {r s t R K C : Nat} {A B : Mx} (h : Rk r R K A) (h' : Rk s K C B) (h'' : Rk t R C (mm K A B)) : t ≤ r ∧ t ≤ s :=
  ⟨Lo_le_Up h''.lo h.up.mul_left, Lo_le_Up h''.lo h'.up.mul_right⟩
theorem Rk.full {n r : Nat} {A : Mx} (h : Rk r n n A) : det n A = 0 ↔ r < n := by
  constructor
  · intro h0
    rcases Nat.lt_or_ge r n with h1 | h1
    · exact h1
    · exfalso
      have : r = n := Nat.le_antisymm h.le_rows h1
      subst this
      obtain ⟨X, Y, h2⟩ := h.lo
      rw [det_mul, det_mul, h0] at h2
      simp at h2
  · intro hr
    obtain ⟨d, hd, B, E, h1⟩ := h.up
    have h2 : det n (fun i j => d * A i j) = 0 := by
      rw [← det_thin hr B E]
      exact det_congr fun i j hi hj => h1 i j hi hj
    rw [det_smul] at h2
    rcases Int.mul_eq_zero.1 h2 with h4 | h4
    · exact absurd h4 (pow_ne hd _)
    · exact h4
/-- More rows that depend on those. -/
theorem Up.more {r R R' C : Nat} {A A' : Mx} (h : Up r R C A) (D : Mx) (hd : ∀ i k, i < R' → k < C → A' i k = mm R D A i k) : Up r R' C A' := by
  obtain ⟨d, hd0, B, E, h⟩ := h
  refine ⟨d, hd0, mm R D B, E, fun i k hi hk => ?_⟩
  rw [hd i k hi hk, mul_assoc, ← mul_sum_right]
  exact mul_congr (fun _ _ => rfl) fun l hl => h l k hl hk
theorem Lo.more {r R R' C : Nat} {A A' : Mx} (h : Lo r R C A) (D : Mx) (hd : ∀ i k, i < R → k < C → A i k = mm R' D A' i k) : Lo r R' C A' := by
  obtain ⟨X, Y, h⟩ := h
  refine ⟨mm R X D, Y, fun e => h ?_⟩
  rw [← e]
  refine det_congr fun i j _ _ => ?_
  refine mul_congr (fun k hk => ?_) (fun _ _ => rfl)
  rw [mul_assoc]
  exact mul_congr (fun _ _ => rfl) fun l hl => hd l k hl hk
theorem Rk.congr {r R C : Nat} {A A' : Mx} (h : Rk r R C A) (he : ∀ i k, i < R → k < C → A i k = A' i k) : Rk r R C A' := by
  refine ⟨h.lo.more one fun i k hi hk => ?_, h.up.more one fun i k hi hk => ?_⟩
  · rw [one_mul _ hi, he i k hi hk]
  · rw [one_mul _ hi, he i k hi hk]
-- A nought to the right above, or below.
theorem isum_split (g : Nat → Int) (m : Nat) : ∀ n, isum g (m + n) = isum g m + isum (fun k => g (m + k)) n
  | 0 => by simp [isum]
  | n + 1 => by rw [← Nat.add_assoc, isum, isum_split g m n, isum]; omega
end Go.Proofs.Ytabdfhdddmbmlaa

namespace Go.Proofs.Ytabdfhdddmbmlaa
open Go.RowKit
-- Sizes.
/-- At most e limbs. -/
def sz (x : Int) (e : Nat) : Prop := x.natAbs < 18446744073709551616 ^ e
theorem sz.len {x : Int} {e : Nat} (h : sz x e) : (lims x.natAbs).length ≤ e := lims_length_le h
theorem sz.mono {x : Int} {e e' : Nat} (h : sz x e) (he : e ≤ e') : sz x e' := Nat.lt_of_lt_of_le h (Nat.pow_le_pow_right (by decide) he)
theorem sz.mul {x y : Int} {a b : Nat} (h : sz x a) (h' : sz y b) : sz (x * y) (a + b) := by
  unfold sz at *
  rw [Int.natAbs_mul, Nat.pow_add]
  exact Nat.mul_lt_mul'' h h'
theorem sz.neg {x : Int} {a : Nat} (h : sz x a) : sz (-x) a := by unfold sz at *; rwa [Int.natAbs_neg]
theorem sz_jv {x : Bool × List Nat} {k : Nat} (h : Lim x.2) (hl : x.2.length ≤ k) : sz (jv x) k := by
  unfold sz jv
  rw [iv_abs]
  exact Nat.lt_of_lt_of_le (nv_lt h) (Nat.pow_le_pow_right (by decide) hl)
theorem sz_zero (e : Nat) : sz 0 e := Nat.pow_pos (by decide)
theorem isum_le {g : Nat → Int} {e : Nat} : ∀ {n : Nat}, (∀ k, k < n → sz (g k) e) → (isum g n).natAbs ≤ n * 18446744073709551616 ^ e
  | 0, _ => by simp [isum]
  | n + 1, h => by
    have h1 := isum_le (n := n) fun k hk => h k (by omega)
    have h2 := h n (by omega)
    unfold sz at h2
    simp only [isum]
    have := Int.natAbs_add_le (isum g n) (g n)
    rw [Nat.add_mul, Nat.one_mul]
    omega
theorem isum_sz {g : Nat → Int} {e n : Nat} (h : ∀ k, k < n → sz (g k) e) (hn : n < 18446744073709551616) : sz (isum g n) (e + 1) := by
  have h1 := isum_le h
  unfold sz
  rw [Nat.pow_succ, Nat.mul_comm]
  exact Nat.lt_of_le_of_lt h1 (Nat.mul_lt_mul_of_pos_right hn (Nat.pow_pos (by decide)))
theorem ww_get (m : List Row) (i : Nat) : (ww m).getD i [] = vv (m.getD i []) := by
  unfold ww
  by_cases h : i < m.length
  · simp [List.getD_eq_getElem?_getD, h]
  · simp [List.getD_eq_getElem?_getD, h, vv]
/-- n rows of n numbers of at most k limbs. -/
structure Sq (n k : Nat) (m : List Row) : Prop where
  rows : m.length = n
  cols : ∀ r, r ∈ m → r.length = n
  fits : Fits k m
theorem Sq.at {n k : Nat} {m : List Row} (h : Sq n k m) {i j : Nat} (hi : i < n) (hj : j < n) : ((ww m).getD i []).getD j 0 = jv ((m.getD i []).getD j z0) := by
  have hr : (m.getD i []).length = n := h.cols _ (getD_mem [] (by rw [h.rows]; exact hi))
  rw [ww_get, vv_get _ _ (by omega)]
theorem sg_sz {x : Int} {e : Nat} (j : Nat) (h : sz x e) : sz (sg j * x) e := by
  unfold sg
  split
  · rw [Int.neg_one_mul]; exact h.neg
  · rwa [Int.one_mul]
theorem Seals.box0 {os : List Own} {fs : List Fact} {p : Value} {size : Nat} {e : Nat → Dat} {d : Dat} (h : e 0 = d) : Seals (own1 p size 1 e :: os) fs (own1 p size 1 (fun _ => d) :: os) fs :=
  Seals.own_cong (os := own1 p size 1 e :: os) 0 (fun _ => d) rfl rfl fun i hi => by
    have : i = 0 := by omega
    subst this; exact h
end Go.Proofs.Ytabdfhdddmbmlaa

namespace Go.Proofs.Ytabdfhdddmbmlaa
open Go.RowKit
/-- A row less a multiple of another one, so that where the other one begins there is a nought. -/
def red1 (p r : List Int) : List Int := (List.range r.length).map fun k => p.getD (lead0 p) 0 * r.getD k 0 - r.getD (lead0 p) 0 * p.getD k 0
theorem red1_len (p r : List Int) : (red1 p r).length = r.length := by unfold red1; simp
theorem red1_get (p r : List Int) {k : Nat} (h : k < r.length) : (red1 p r).getD k 0 = p.getD (lead0 p) 0 * r.getD k 0 - r.getD (lead0 p) 0 * p.getD k 0 := by
  unfold red1; simp [List.getD_eq_getElem?_getD, h]
theorem sz_sub {x y : Int} {e : Nat} (h : sz x e) (h' : sz y e) : sz (x - y) (e + 1) := by
  unfold sz at *
  rw [Nat.pow_succ]
  have := Int.natAbs_sub_le x y
  omega
theorem Fit_cn {l : List Int} {e : Nat} (h : ∀ x, x ∈ l → sz x e) : Fit e (l.map cn) := fun p hp => by
  obtain ⟨x, hx, rfl⟩ := List.mem_map.1 hp
  exact ⟨Lim_lims _, (h x hx).len⟩
def dep (ps : List (List Int)) (r : List Int) : List Int := ps.foldl (fun r p => red1 p r) r
theorem Seals.box1 {os : List Own} {fs : List Fact} {o : Own} {p : Value} {size : Nat} {e : Nat → Dat} {d : Dat} (h : e 0 = d) : Seals (o :: own1 p size 1 e :: os) fs (o :: own1 p size 1 (fun _ => d) :: os) fs :=
  Seals.own_cong (os := o :: own1 p size 1 e :: os) 1 (fun _ => d) rfl rfl fun i hi => by
    have : i = 0 := by omega
    subst this; exact h
end Go.Proofs.Ytabdfhdddmbmlaa

namespace Go.Proofs.Ytabdfhdddmbmlaa
open Go.RowKit
theorem Fit.mono {k k' : Nat} {r : Row} (h : Fit k r) (hk : k ≤ k') : Fit k' r := fun x hx => ⟨(h x hx).1, Nat.le_trans (h x hx).2 hk⟩
theorem Fits.mono {k k' : Nat} {m : List Row} (h : Fits k m) (hk : k ≤ k') : Fits k' m := fun r hr => (h r hr).mono hk
def rstep (acc : List (List Int)) (r : List Int) : List (List Int) := if lead0 (dep acc r) = (dep acc r).length then acc else acc ++ [dep acc r]
end Go.Proofs.Ytabdfhdddmbmlaa

namespace Go.Proofs.Ytabdfhdddmbmlaa
open Go.RowKit
theorem range_snoc_map {α : Type} (f : Nat → α) (n : Nat) : (List.range (n + 1)).map f = (List.range n).map f ++ [f n] := by rw [List.range_succ, List.map_append]; rfl
end Go.Proofs.Ytabdfhdddmbmlaa

namespace Go.Proofs.Ytabdfhdddmbmlaa
open Go.RowKit
def fitsProd {α β : Type} (a : List (List α)) (b : List (List β)) : Prop := right a ∧ right b ∧ b.length = (a.getD 0 []).length
instance {α β : Type} (a : List (List α)) (b : List (List β)) : Decidable (fitsProd a b) := inferInstanceAs (Decidable (_ ∧ _))
end Go.Proofs.Ytabdfhdddmbmlaa

namespace Go.Proofs.Ytabdfhdddmbmlaa
open Go.RowKit
end Go.Proofs.Ytabdfhdddmbmlaa

namespace Go.Proofs.Ytabdfhdddmbmlaa
open Go.RowKit
theorem AppendK.pre {P : Program} {ts : List TypeId} {ty : TypeId} {a b : Value} {os os' : List Own} {fs fs' : List Fact} {K : Cont} (hs : Seals os fs os' fs') (h : AppendK P ts ty a b os' fs' K) : AppendK P ts ty a b os fs K :=
  ⟨fun G w hw => h.out G w (hs G w hw)⟩
/-- Two polynomials that have no matrix. -/
def bare (p q : List Int) : Prop := deg p < 0 ∨ deg q < 0 ∨ deg p + deg q = 0
instance (p q : List Int) : Decidable (bare p q) := inferInstanceAs (Decidable (_ ∨ _))
end Go.Proofs.Ytabdfhdddmbmlaa

namespace Go.Proofs.Ytabdfhdddmbmlaa
open Go.RowKit
end Go.Proofs.Ytabdfhdddmbmlaa

namespace Go.Proofs.Ytabdfhdddmbmlaa
open Go.RowKit
end Go.Proofs.Ytabdfhdddmbmlaa

namespace Go.Proofs.Ytabdfhdddmbmlaa
open Go.RowKit
theorem OwnVal.congr {S : Nat → Prop} {B : Nat} {w : World} {v : Value} {size n : Nat} {e e' : Nat → Dat} (h : OwnVal S B w v size n e) (he : ∀ j, j < n → e' j = e j) (hz : 0 < size) : OwnVal S B w v size n e' := by
  have row : ∀ {r n' cap}, n' ≤ n → OwnRow S B w r size n' cap e → OwnRow S B w r size n' cap e' := fun hn ⟨h1, h2, h3, cur, t, h4, h5, h6⟩ =>
    ⟨h1, h2, h3, cur, t, h4, h5, fun i hi => by rw [he i (by omega)]; exact h6 i hi⟩
  rcases h with h | ⟨r, cap, hv, h⟩ | ⟨r, hv, hn, h⟩ | ⟨_, h, _⟩
  · exact .inl h
  · exact .inr (.inl ⟨r, cap, hv, row (Nat.le_refl _) h⟩)
  · exact .inr (.inr (.inl ⟨r, hv, hn, row (by omega) h⟩))
  · omega
theorem Seals.join {size n : Nat} {x : Value} {e : Nat → Dat} {F F' : Own} {os : List Own} {fs : List Fact} (hm : F'.m = F.m + 1) (hs : F'.size = F.size) (hs2 : F.size = size)
    (hv : ∀ i, i < F.m → F'.v i = F.v i ∧ F'.n i = F.n i ∧ ∀ j, j < F.n i → F'.e i j = F.e i j) (hx : F'.v F.m = x ∧ F'.n F.m = n ∧ ∀ j, j < n → F'.e F.m j = e j) (hz : 0 < size := by exact Nat.zero_lt_succ _) :
    Seals (own1 x size n e :: F :: os) fs (F' :: os) fs := by
  intro G w hw
  have has : ∀ b, F'.has b ↔ (own1 x size n e).has b ∨ F.has b := by
    intro b
    constructor
    · rintro ⟨i, hi, hb⟩
      by_cases hif : i < F.m
      · exact .inr ⟨i, hif, by rw [← (hv i hif).1]; exact hb⟩
      · have : i = F.m := by omega
        subst this
        exact .inl ⟨0, Nat.zero_lt_one, by rw [hx.1] at hb; exact hb⟩
    · rintro (⟨i, hi, hb⟩ | ⟨i, hi, hb⟩)
      · exact ⟨F.m, by omega, by rw [hx.1]; exact hb⟩
      · exact ⟨i, by omega, by rw [(hv i hi).1]; exact hb⟩
  have own : ∀ b, owned (F' :: os) b ↔ owned (own1 x size n e :: F :: os) b := fun b => by simp only [owned, has b, or_assoc]
  have good : ∀ b, Good G.A (own1 x size n e :: F :: os) w b → Good G.A (F' :: os) w b := fun b ⟨g1, g2, g3⟩ => ⟨g1, g2, fun h => g3 ((own b).1 h)⟩
  have agree : Agree (Good G.A (own1 x size n e :: F :: os) w) w w := fun _ _ => rfl
  obtain ⟨a1, a2, a3, a4, a5⟩ := hw.apart
  refine ⟨hw.low, hw.size, hw.below, ⟨fun i j b hi hj h1 h2 => ?_, fun b hb ho => ?_, a5⟩, fun o ho i hi => ?_, hw.facts.mono agree good⟩
  · by_cases hif : i < F.m
    · rw [(hv i hif).1] at h1
      by_cases hjf : j < F.m
      · rw [(hv j hjf).1] at h2
        exact a3 i j b hif hjf h1 h2
      · have : j = F.m := by omega
        subst this
        rw [hx.1] at h2
        exact absurd (show owned (F :: os) b from .inl ⟨i, hif, h1⟩) (a2 b ⟨0, Nat.zero_lt_one, h2⟩)
    · have : i = F.m := by omega
      subst this
      rw [hx.1] at h1
      by_cases hjf : j < F.m
      · rw [(hv j hjf).1] at h2
        exact absurd (show owned (F :: os) b from .inl ⟨j, hjf, h2⟩) (a2 b ⟨0, Nat.zero_lt_one, h1⟩)
      · omega
  · rcases (has b).1 hb with h | h
    · exact a2 b h (.inr ho)
    · exact a4 b h ho
  · rcases List.mem_cons.1 ho with rfl | ho
    · by_cases hif : i < F.m
      · obtain ⟨q1, q2, q3⟩ := hv i hif
        have := (hw.own F (by simp) i hif).mono agree good (fun _ _ => rfl)
        rw [q1, q2, hs]
        exact this.congr q3 (by omega)
      · have : i = F.m := by omega
        subst this
        have := (hw.own (own1 x size n e) (by simp) 0 Nat.zero_lt_one).mono agree good (fun _ _ => rfl)
        rw [hx.1, hx.2.1, hs, hs2]
        exact OwnVal.congr this hx.2.2 (by omega)
    · exact (hw.own o (by simp [ho]) i hi).mono agree good (fun _ _ => rfl)
theorem good_sub {A : Nat → Prop} {os : List Own} {w : World} {b pos : Nat} : Good A os w b → Good A (dropOwn os pos) w b := fun ⟨h1, h2, h3⟩ => ⟨h1, h2, fun hb => h3 (by
  obtain ⟨x, hx, hxb⟩ := owned_mem.1 hb
  obtain ⟨i, _, hi⟩ := dropOwn_mem hx
  exact owned_mem.2 ⟨x, nthOwn_mem hi, hxb⟩)⟩
/-- The rows of a family become facts. -/
theorem Seals.fam {F : Own} {os : List Own} {fs : List Fact} (pos : Nat) (h : nthOwn os pos = some F) (hs : ∀ i, i < F.m → isSl (F.v i)) :
    Seals os fs (dropOwn os pos) (((List.range F.m).map fun i => (F.v i, .sl F.size (F.n i) (F.e i))) ++ fs) := by
  intro G w hw
  have hd := hw.drop pos
  refine ⟨hd.low, hd.size, hd.below, hd.apart, hd.own, fun x hx => ?_⟩
  rcases List.mem_append.1 hx with hx | hx
  · obtain ⟨i, hi, rfl⟩ := List.mem_map.1 hx
    rw [List.mem_range] at hi
    obtain ⟨a, m, c, hv⟩ := hs i hi
    simp only
    rcases hw.own _ (nthOwn_mem h) i hi with ⟨h1, h2⟩ | ⟨r, cap, h1, h2⟩ | ⟨r, h1, _⟩ | ⟨_, _, _, _, _, _, ⟨r, _, _, h1, _⟩ | ⟨r, _, _, _, _, _, _, h1, _⟩⟩
    rotate_right
    · rw [hv] at h1; simp at h1
    rotate_right
    · rw [hv] at h1; simp at h1
    · rw [h1, h2]
      exact Knw.nil (os := dropOwn os pos) (fs := fs) F.size (F.e i) G w hd
    · have hhas : F.has r := ⟨i, hi, by rw [h1]; rfl⟩
      rw [h1]
      obtain ⟨b1, b2, b3, cur, t, b4, b5, b6⟩ := h2
      refine ⟨[.slice (some ⟨r, 0, none⟩) (F.n i) cap], ⟨_, cap, rfl, b2, b3, fun hn => by simp at hn, fun b hb _ => by simp at hb; subst hb; rfl, fun j hj => ?_⟩, rfl⟩
      obtain ⟨cs, c1, c2, c3⟩ := b6 j hj
      refine ⟨⟨r, 0, none⟩, cs, rfl, c1.mono (fun _ _ => rfl) (fun b hb => good_sub hb), c2, fun q hq => ⟨good_drop hw h hhas, ?_⟩⟩
      rw [← c3 q (by omega)]; simp [World.cell?, b4]
    · rw [hv] at h1; simp at h1
  · exact hd.facts x hx
/-- A slice of one's own over values that are known becomes a fact. -/
theorem Seals.over {os : List Own} {fs : List Fact} (pos : Nat) {v : Value} {n : Nat} {vs : Nat → Value} {D : Nat → Dat} (h : nthOwn os pos = some (own1 v 1 n fun i => .one (vs i))) (hs : isSl v)
    (hk : ∀ i, i < n → (vs i, D i) ∈ fs ∧ (D i).flat = true) : Seals os fs (dropOwn os pos) ((v, .sl 1 n D) :: fs) := by
  intro G w hw
  have hd := hw.drop pos
  refine hd.put ?_
  obtain ⟨a, m, c, rfl⟩ := hs
  rcases hw.own _ (nthOwn_mem h) 0 Nat.zero_lt_one with ⟨h1, h2⟩ | ⟨r, cap, h1, h2⟩ | ⟨r, h1, _⟩ | ⟨_, _, _, _, _, _, ⟨r, _, _, h1, _⟩ | ⟨r, _, _, _, _, _, _, h1, _⟩⟩
  rotate_right
  · simp [own1] at h1
  rotate_right
  · simp [own1] at h1
  · simp only [own1] at h1 h2
    rw [h1, h2]
    exact Knw.nil (os := dropOwn os pos) (fs := fs) 1 D G w hd
  · have hhas : (own1 (.slice a m c) 1 n fun i => .one (vs i)).has r := ⟨0, Nat.zero_lt_one, by rw [h1]; rfl⟩
    simp only [own1] at h1 h2
    rw [h1]
    obtain ⟨b1, b2, b3, cur, t, b4, b5, b6⟩ := h2
    refine ⟨[.slice (some ⟨r, 0, none⟩) n cap], ⟨_, cap, rfl, b2, b3, fun hn => by simp at hn, fun b hb _ => by simp at hb; subst hb; rfl, fun i hi => ?_⟩, rfl⟩
    obtain ⟨cs, ⟨rfl, c1⟩, c2, c3⟩ := b6 i hi
    obtain ⟨hm, hf⟩ := hk i hi
    obtain ⟨cs', k1, k2⟩ := hd.facts _ hm
    obtain ⟨u, rfl, _, k3⟩ := RdC.single hf k1
    rw [k3] at k2
    simp only at k2
    refine ⟨⟨r, 0, none⟩, [vs i], rfl, by rw [k2]; exact k1, rfl, fun q hq => ⟨good_drop hw h hhas, ?_⟩⟩
    rw [← c3 q (by simpa using hq)]; simp [World.cell?, b4]
  · simp [own1] at h1
/-- A slice over a family of rows becomes a fact. -/
theorem Seals.rows {F : Own} {v : Value} {os : List Own} {fs : List Fact} (hv : isSl v) (hs : ∀ i, i < F.m → isSl (F.v i)) :
    Seals (F :: own1 v 1 F.m (fun i => .one (F.v i)) :: os) fs os ((v, .sl 1 F.m fun i => .sl F.size (F.n i) (F.e i)) :: fs) := by
  refine Seals.trans (Seals.fam (os := F :: own1 v 1 F.m (fun i => .one (F.v i)) :: os) 0 rfl hs) (Seals.trans (Seals.over (os := own1 v 1 F.m (fun i => .one (F.v i)) :: os) (D := fun i => .sl F.size (F.n i) (F.e i)) 0 rfl hv fun i hi => ⟨?_, rfl⟩) (Seals.sub fun x hx => ?_))
  · exact List.mem_append.2 (.inl (List.mem_map.2 ⟨i, List.mem_range.2 hi, rfl⟩))
  · rcases List.mem_cons.1 hx with rfl | hx
    · exact .head _
    · exact .tail _ (List.mem_append.2 (.inr hx))
end Go.Proofs.Ytabdfhdddmbmlaa

namespace Go.Proofs.Ytabdfhdddmbmlaa
open Go.RowKit
theorem load_own_one {P : Program} {t : TypeId} {os : List Own} {fs : List Fact} {K : Cont} [ht : TOne P t] (pos i : Nat) {o : Own} (h : nthOwn os pos = some o) (hi : i < o.m) (j : Nat) {k : Nat} (hk : k = j * o.size)
    (hj : j < o.n i) {u : Value} (hd : o.e i j = .one u) (k' : K u os fs) : LoadK P t (eptr (o.v i) k) os fs K := by
  refine ⟨fun G w hw => ?_⟩
  have hov := hw.own o (nthOwn_mem h) i hi
  obtain ⟨r, cap, hr⟩ := hov.row (by omega)
  obtain ⟨cs, g1, g2, g3⟩ := hr.row.cellsAt hj
  have g1' : RdC (Good G.A os w) w (.one u) cs := hd ▸ g1
  have hp : pack (.one u) cs = u := by simp [pack, g1'.1]
  rw [hr.ptr k]
  refine ⟨u, fs, fun w' hb => val_run ?_, k', hw⟩
  have := loadAt_run (P := P) (t := t) (w := w') (r := r) (o := k) (d := .one u) ht g1' fun x hx => by
    rw [hk]; exact g3 w' (hb.block r (hov.blk hr.blk).2) x hx
  rw [hp] at this
  exact this
theorem load_one_elem {P : Program} {t : TypeId} {v : Value} {size n : Nat} {e : Nat → Dat} {os : List Own} {fs : List Fact} {K : Cont} [ht : TOne P t] (pos : Nat) (h : nthOwn os pos = some (own1 v size n e)) (j : Nat)
    (hj : j < n) {u : Value} (hd : e j = .one u) (k' : K u os fs) : LoadK P t (eptr v (j * size)) os fs K :=
  load_own_one (o := own1 v size n e) pos 0 h Nat.zero_lt_one j rfl hj hd k'
theorem box_fact {P : Program} {t : TypeId} {v : Value} {d : Dat} {os : List Own} {fs : List Fact} {K : Cont} (hr : Reads os fs v d) (k : ∀ p, K p os ((p, .ptr d) :: fs)) : BoxK P t v os fs K :=
  ⟨Grw.sealed (box_rule hr (K := fun u os' fs' => ∃ os'' fs'', Seals os' fs' os'' fs'' ∧ K u os'' fs'') fun p hp => ⟨_, _, Seals.box (os := own1 p d.cells 1 (fun _ => d) :: os) 0 rfl hp rfl, k p⟩).out⟩
/-- What is owned, said otherwise: other places of a family. -/
theorem Seals.re {os : List Own} {fs : List Fact} (pos : Nat) {o o' : Own} (h : nthOwn os pos = some o) (s : Nat → Nat) (hs : o'.size = o.size)
    (hv : ∀ i, i < o'.m → s i < o.m ∧ o'.v i = o.v (s i) ∧ o'.n i = o.n (s i) ∧ ∀ j, j < o.n (s i) → o'.e i j = o.e (s i) j) (hinj : ∀ i j, i < o'.m → j < o'.m → s i = s j → i = j) (hz : 0 < o.size := by exact Nat.zero_lt_succ _) :
    Seals os fs (setOwn os pos o') fs := by
  intro G w hw
  have key : ∀ {os : List Own}, Apart os → o ∈ os → ∀ i j b, i < o.m → j < o.m → vblk (o.v i) = some b → vblk (o.v j) = some b → i = j := by
    intro os
    induction os with
    | nil => intro _ hm; simp at hm
    | cons z r ih =>
      intro hA hm
      rcases List.mem_cons.1 hm with rfl | hm
      · exact hA.1
      · exact ih hA.2.2 hm
  refine hw.step h rfl rfl rfl (Nat.le_refl _) (fun _ _ _ => rfl) (fun b ⟨i, hi, hb⟩ => .inl ⟨s i, (hv i hi).1, by rw [← (hv i hi).2.1]; exact hb⟩) (fun i j b hi hj h1 h2 => ?_) fun mono i hi => ?_
  · rw [(hv i hi).2.1] at h1
    rw [(hv j hj).2.1] at h2
    exact hinj i j hi hj (key hw.apart (nthOwn_mem h) _ _ b (hv i hi).1 (hv j hj).1 h1 h2)
  · obtain ⟨q1, q2, q3, q4⟩ := hv i hi
    rw [q2, q3, hs]
    have row : ∀ {r cap n}, n ≤ o.n (s i) → OwnRow (Good G.A os w) G.B w r o.size n cap (o.e (s i)) → OwnRow (Good G.A (setOwn os pos o') w) G.B w r o.size n cap (o'.e i) := fun hn ⟨b1, b2, b3, cur, t, b4, b5, b6⟩ =>
      ⟨b1, b2, b3, cur, t, b4, b5, fun x hx => let ⟨cs, c1, c2⟩ := b6 x hx; ⟨cs, by rw [q4 x (by omega)]; exact mono _ _ c1, c2⟩⟩
    rcases hw.own _ (nthOwn_mem h) (s i) q1 with h1 | ⟨r, cap, h1, h2⟩ | ⟨r, h1, h2, h3⟩ | ⟨_, h1, _⟩
    · exact .inl h1
    · exact .inr (.inl ⟨r, cap, h1, row (Nat.le_refl _) h2⟩)
    · exact .inr (.inr (.inl ⟨r, h1, h2, row (by omega) h3⟩))
    · omega
/-- An element of a row of a family is written. -/
theorem store_fam {P : Program} {ty : TypeId} {x : Value} {d : Dat} {os : List Own} {fs : List Fact} {K : Cont} (pos i : Nat) {o : Own} (o' : Own) (h : nthOwn os pos = some o) (hi : i < o.m) (j : Nat)
    (hj : j < o.n i) (hd : d.cells = o.size) (ht : (P.info? ty).map (·.size) = some o.size) (hx : Reads os fs x d) (hm : o'.m = o.m) (hs : o'.size = o.size) (hv : ∀ a, a < o.m → o'.v a = o.v a ∧ o'.n a = o.n a ∧ ∀ b, b < o.n a → o'.e a b = if a = i ∧ b = j then d else o.e a b)
    (k' : K undef (setOwn os pos o') fs) : StoreK P ty (eptr (o.v i) (j * o.size)) x os fs K := by
  have h1 := store_own (P := P) (ty := ty) (x := x) (d := d) (K := fun u os' fs' => ∃ os'' fs'', Seals os' fs' os'' fs'' ∧ K u os'' fs'') pos i h hi j rfl hj hd ht hx
  refine ⟨Dyn.sealed (h1 ⟨_, _, ?_, k'⟩).out⟩
  have h2 := Seals.re (hz := hd ▸ Dat.cells_pos _) (os := setOwn os pos { o with e := fun y => if y = i then upd (o.e i) j d else o.e y }) (fs := fs) (o' := o') pos (nth_set h) (fun a => a) hs (fun a ha => ?_) fun _ _ _ _ e => e
  · rw [set_set] at h2; exact h2
  · rw [hm] at ha
    obtain ⟨g1, g2, g3⟩ := hv a ha
    refine ⟨ha, g1, g2, fun b hb => ?_⟩
    rw [g3 b hb]
    simp only
    by_cases hai : a = i
    · subst hai
      simp only [if_true, upd]
      by_cases hbj : b = j
      · simp [hbj]
      · simp [hbj]
    · simp [hai]
theorem CallK.pre {P : Program} {d : Bool} {fv : Value} {args : List Value} {os os' : List Own} {fs fs' : List Fact} {K : Cont} (hs : Seals os fs os' fs') (h : CallK P d fv args os' fs' K) : CallK P d fv args os fs K :=
  ⟨fun G w hw => h.out G w (hs G w hw), fun hd G w hw => h.grw hd G w (hs G w hw)⟩
-- zed, over numbers as they are told.
theorem zMulZ (v w : Value) (x y : Int) (a b : Nat) (hx : sz x a) (hy : sz y b) (ha : a ≤ 137438953472) (hb : b ≤ 137438953472) :
    Meets Try.prog 51 [v, w] [(v, zd x), (w, zd y)] (fun r os fs => os = [] ∧ fs = [(r, zd (x * y))]) := by
  have h := zmul_meets v w (decide (x < 0)) (decide (y < 0)) (lims x.natAbs) (lims y.natAbs) (Lim_lims _) (Lim_lims _) (Nat.le_trans hx.len ha) (Nat.le_trans hy.len hb)
  rw [iv_zd, iv_zd] at h
  exact h
theorem zMulJ (v w : Value) (x y : Bool × List Nat) (hx : Lim x.2) (lx : x.2.length ≤ 137438953472) (hy : Lim y.2) (ly : y.2.length ≤ 137438953472) :
    Meets Try.prog 51 [v, w] [(v, J x), (w, J y)] (fun r os fs => os = [] ∧ fs = [(r, zd (jv x * jv y))]) := zmul_meets v w x.1 y.1 x.2 y.2 hx hy lx ly
theorem zAddZ (v w : Value) (x y : Int) (a b : Nat) (hx : sz x a) (hy : sz y b) (ha : a ≤ 137438953472) (hb : b ≤ 137438953472) :
    Meets Try.prog 50 [v, w] [(v, zd x), (w, zd y)] (fun r os fs => os = [] ∧ fs = [(r, zd (x + y))]) := by
  have h := zadd_meets v w (decide (x < 0)) (decide (y < 0)) (lims x.natAbs) (lims y.natAbs) (Lim_lims _) (Lim_lims _) (Nat.le_trans hx.len ha) (Nat.le_trans hy.len hb)
  rw [iv_zd, iv_zd] at h
  exact h
theorem zSubZ (v w : Value) (x y : Int) (a b : Nat) (hx : sz x a) (hy : sz y b) (ha : a ≤ 137438953472) (hb : b ≤ 137438953472) :
    Meets Try.prog 61 [v, w] [(v, zd x), (w, zd y)] (fun r os fs => os = [] ∧ fs = [(r, zd (x - y))]) := by
  have h := zsub_meets v w (decide (x < 0)) (decide (y < 0)) (lims x.natAbs) (lims y.natAbs) (Lim_lims _) (Lim_lims _) (Nat.le_trans hx.len ha) (Nat.le_trans hy.len hb)
  rw [iv_zd, iv_zd] at h
  exact h
theorem zNormZ (v : Value) (x : Int) (e : Nat) (hx : sz x e) (he : e ≤ 137438953472) :
    Meets Try.prog 37 [v] [(v, zd x)] (fun r os fs => os = [] ∧ fs = [(r, zd x)]) := by
  have h := znorm_meets v (decide (x < 0)) (lims x.natAbs) (Lim_lims _) (Nat.le_trans hx.len (by omega))
  rw [iv_zd] at h
  exact h
theorem zNegZ (v : Value) (x : Int) (e : Nat) (hx : sz x e) (he : e ≤ 137438953472) :
    Meets Try.prog 47 [v] [(v, zd x)] (fun r os fs => os = [] ∧ fs = [(r, zd (-x))]) := by
  have h := zneg_meets v (decide (x < 0)) (lims x.natAbs) (Lim_lims _) (Nat.le_trans hx.len he)
  rw [iv_zd] at h
  exact h
theorem zSignZ (v : Value) (x : Int) (e : Nat) (hx : sz x e) (he : e ≤ 137438953472) :
    Meets Try.prog 49 [v] [(v, zd x)] (fun r os fs => os = [] ∧ fs = [] ∧ r = .int .i64 x.sign) := by
  have h := zsign_meets v (decide (x < 0)) (lims x.natAbs) (Lim_lims _) (Nat.le_trans hx.len he)
  rw [iv_zd] at h
  exact h
theorem zDivModZ (v w : Value) (x y : Int) (a b : Nat) (hx : sz x a) (hy : sz y b) (ha : a ≤ 137438953472) (hb : b ≤ 137438953472) (h0 : y ≠ 0) :
    Meets Try.prog 48 [v, w] [(v, zd x), (w, zd y)] (fun r os fs => os = [] ∧ ∃ q m, r = .tuple #[q, m, .bool true] ∧ fs = [(q, zd (x / y)), (m, zd (x % y))]) := by
  have h := zdivmod_meets v w (decide (x < 0)) (decide (y < 0)) (lims x.natAbs) (lims y.natAbs) (Lim_lims _) (Lim_lims _) (Nat.le_trans hx.len ha) (Nat.le_trans hy.len hb) (by rw [nv_lims]; omega)
  rw [iv_zd, iv_zd] at h
  exact h
theorem sz_div {x y : Int} {e : Nat} (h : sz x e) : sz (x / y) e := Nat.lt_of_le_of_lt (Int.natAbs_ediv_le_natAbs x y) h
end Go.Proofs.Ytabdfhdddmbmlaa

namespace Go.Proofs.Ytabdfhdddmbmlaa
open Go.RowKit
/-- Rows of whole numbers of one's own. -/
def famO (vs : Nat → Value) (R C : Nat) (x : Mx) : Own := ⟨R, vs, 2, fun _ => C, fun i k => zd (x i k)⟩
def matL (R C : Nat) (x : Mx) : List (List Int) := (List.range R).map fun i => (List.range C).map fun k => x i k
/-- What stands over them. -/
def outer (v : Value) (R : Nat) (vs : Nat → Value) : Own := own1 v 1 R fun i => .one (vs i)
theorem tz_nil : TZero Try.prog 36 (.one (.slice none 0 0)) := tzero info_sl fun _ _ => ⟨rfl, rfl⟩
theorem isSl.one {v : Value} (h : isSl v) : v.oneCell' = true := by obtain ⟨a, n, c, rfl⟩ := h; rfl
theorem Seals.none {os : List Own} {fs : List Fact} (F : Own) (h : F.m = 0) : Seals os fs (F :: os) fs := by
  intro G w hw
  have has : ∀ b, ¬ F.has b := fun b ⟨i, hi, _⟩ => by omega
  have own : ∀ b, owned (F :: os) b ↔ owned os b := fun b => by simp [owned, has b]
  have good : ∀ b, Good G.A os w b → Good G.A (F :: os) w b := fun b ⟨g1, g2, g3⟩ => ⟨g1, g2, fun h => g3 ((own b).1 h)⟩
  have agree : Agree (Good G.A os w) w w := fun _ _ => rfl
  refine ⟨hw.low, hw.size, hw.below, ⟨fun i j b hi _ _ _ => by omega, fun b hb => absurd hb (has b), hw.apart⟩, fun o ho i hi => ?_, hw.facts.mono agree good⟩
  rcases List.mem_cons.1 ho with rfl | ho
  · omega
  · exact (hw.own o ho i hi).mono agree good (fun _ _ => rfl)
theorem matL_len (R C : Nat) (x : Mx) : (matL R C x).length = R := by unfold matL; simp
theorem matL_row {R C i : Nat} (x : Mx) (h : i < R) : (matL R C x).getD i [] = (List.range C).map fun k => x i k := by
  unfold matL; simp [List.getD_eq_getElem?_getD, h]
theorem matL_at {R C i k : Nat} (x : Mx) (h : i < R) (h' : k < C) : ((matL R C x).getD i []).getD k 0 = x i k := by
  rw [matL_row x h]; simp [List.getD_eq_getElem?_getD, h']
theorem range_cn {C k : Nat} (g : Nat → Int) (h : k < C) : (((List.range C).map fun k => g k).map cn).getD k z0 = cn (g k) := by
  simp [List.getD_eq_getElem?_getD, h]
/-- Rows of one's own become a fact. -/
theorem Seals.made {v : Value} {vs : Nat → Value} {R C : Nat} {x : Mx} {os : List Own} {fs : List Fact} (hv : isSl v) (hs : ∀ i, i < R → isSl (vs i)) :
    Seals (famO vs R C x :: outer v R vs :: os) fs os ((v, wd (matL R C x)) :: fs) := by
  let F' : Own := ⟨R, vs, 2, fun _ => C, fun i k => J ((((List.range C).map fun k => x i k).map cn).getD k z0)⟩
  have h1 : Seals (famO vs R C x :: outer v R vs :: os) fs (F' :: outer v R vs :: os) fs :=
    Seals.re (os := famO vs R C x :: outer v R vs :: os) 0 rfl (fun i => i) rfl (fun i hi => ⟨hi, rfl, rfl, fun k hk => by
      show J _ = zd _
      have hk' : k < C := hk
      rw [range_cn (fun k => x i k) hk']; rfl⟩) (fun _ _ _ _ e => e)
  refine Seals.trans h1 (Seals.trans (Seals.rows (F := F') hv hs) (Seals.cons (Knw.cast (Knw.sl_cong (e' := fun i => V (((matL R C x).map (·.map cn)).getD i [])) (Knw.fact (List.Mem.head _)) fun i hi => ?_) ?_) (Seals.sub fun F hF => .tail _ hF)))
  · have e : ((matL R C x).map (·.map cn)).getD i [] = ((List.range C).map fun k => x i k).map cn := by
      have hi' : i < R := hi
      unfold matL; simp [List.getD_eq_getElem?_getD, hi']
    rw [e]
    unfold V LD
    rw [List.length_map, List.length_map, List.length_range]
  · unfold wd W LD
    rw [List.length_map, matL_len]
def clo (g : FuncId) (cap : List Value) : Value := .func (.func g) #[] cap.toArray
theorem clo_call {d : Bool} {g : FuncId} {cap args : List Value} {os os₁ : List Own} {fs fs₁ cfs : List Fact} {K : Cont} {R : Value → List Own → List Fact → Prop}
    (hm : Meets Try.prog g (args ++ cap) cfs R) (hs : Seals os fs os₁ fs₁) (hsub : Sub cfs fs₁) (k : ∀ v os' fs', R v os' fs' → K v (os' ++ os₁) (fs' ++ fs₁)) : CallK Try.prog d (clo g cap) args os fs K :=
  call_rule (first := []) hs hm hsub k
theorem mmade_meets (R C : Nat) (g : FuncId) (cap : List Value) (cfs : List Fact) (f : Nat → Nat → Bool × List Nat)
    (hf : ∀ i k, i < R → k < C → Meets Try.prog g ([.int .i64 (i : Nat), .int .i64 (k : Nat)] ++ cap) cfs (fun r os fs => os = [] ∧ fs = [(r, J (f i k))]))
    (hl : ∀ i k, i < R → k < C → Lim (f i k).2 ∧ (f i k).2.length ≤ 1099511627776) (hR : R ≤ 1073741824) (hC : C ≤ 1073741824) :
    Meets Try.prog 55 [.int .i64 (R : Nat), .int .i64 (C : Nat), clo g cap] cfs (fun r os fs => isSl r ∧ ∃ vs, (∀ i, i < R → isSl (vs i)) ∧ os = [famO vs R C fun i k => jv (f i k), outer r R vs] ∧ fs = []) := by
  refine meets_of_vc Try.func55 (by kernel_rfl) rfl (by kernel_rfl) (Nat.le_of_ble_eq_true rfl) ?_
  refine make_rule (t := 22) (d := .one (.slice none 0 0)) (hz := tz_nil) R rfl rfl (by omega) (by omega) fun v hv => ?_
  refine len_own 0 rfl hv fun _ => ?_
  refine loop_rule (X := Nat × (Nat → Value)) (fun x => ([(1, .int .i64 (C : Nat)), (2, clo g cap), (7, v), (13, .int .i64 (R : Nat)), (14, .int .i64 (x.1 : Nat))], [famO x.2 x.1 C fun i k => jv (f i k), outer v R x.2], cfs))
    (fun x => x.1 ≤ R ∧ ∀ i, i < x.1 → isSl (x.2 i)) (fun x => R - x.1) rfl ?_ ?_
  · exact again (0, fun _ => .slice none 0 0) ⟨Nat.zero_le _, fun i hi => absurd hi (Nat.not_lt_zero _)⟩ trivial mF (Seals.none _ rfl)
  · rintro ⟨i, vs⟩ ⟨h1, h2⟩
    simp only at h1 h2 ⊢
    refine cmp_split _ rfl (fun hi => ?_) (fun hi => ?_)
    · have hilt : i < R := by omega
      refine make_rule (t := 36) (d := I false []) C rfl rfl (by omega) (by omega) fun u hu => ?_
      refine index_elem 2 rfl hv i rfl hilt ?_
      refine StoreK.post (store_elem (d := .one u) 2 rfl i hilt rfl (by kernel_rfl) (Reads.one hu.one) ⟨_, _, Seals.own_cong (os := [_, _, _]) 2 (fun y => .one (if y = i then u else vs y)) rfl rfl (fun y _ => by simp only [upd]; split <;> rfl), ?_⟩)
      refine index_elem 2 rfl hv i rfl hilt ?_
      refine load_one_elem 2 rfl i hilt (u := u) (by simp) ?_
      refine len_own 0 rfl hu fun _ => ?_
      refine loop_rule (X := Nat) (fun k => ([(1, .int .i64 (C : Nat)), (2, clo g cap), (7, v), (8, .int .i64 (i : Nat)), (13, .int .i64 (R : Nat)), (14, .int .i64 (i : Nat)), (26, .int .i64 (C : Nat)), (27, .int .i64 (k : Nat))],
        [own1 u 2 C (fun y => if y < k then zd (jv (f i y)) else I false []), famO vs i C fun i k => jv (f i k), outer v R fun y => if y = i then u else vs y], cfs))
        (fun k => k ≤ C) (fun k => C - k) rfl ?_ ?_
      · exact again 0 (Nat.zero_le _) trivial mF (Seals.own_cong (os := [_, _, _]) 0 _ rfl rfl fun y _ => (if_neg (Nat.not_lt_zero _)).symm)
      · rintro k hk
        refine cmp_split _ rfl (fun hc => ?_) (fun hc => ?_)
        · have hkC : k < C := by omega
          refine draw_rule [0, 1, 2, 3, 4, 5, 6, 7, 8, 9, 10, 11] [0, 1, 2, 3, 4, 5, 6, 7, 8, 9, 10, 11] (by kernel_rfl) (by kernel_rfl) ?_
          refine index_elem 2 rfl hv i rfl hilt ?_
          refine load_one_elem 2 rfl i hilt (u := u) (by simp) ?_
          refine clo_call (hf i k hilt hkC) (Seals.refl _ _) (fun F hF => hF) ?_
          rintro r1 _ _ ⟨rfl, rfl⟩
          refine call_fn (znorm_meets r1 (f i k).1 (f i k).2 (hl i k hilt hkC).1 (hl i k hilt hkC).2) (Seals.refl _ _) mS ?_
          rintro r2 _ _ ⟨rfl, rfl⟩
          refine index_elem 0 rfl hu k rfl hkC ?_
          refine StoreK.post (store_elem (d := zd (iv (f i k).1 (f i k).2)) 0 rfl k hkC rfl (by kernel_rfl) (Reads.fact mM) ⟨_, _, Seals.own_cong (os := [_, _, _]) 0 (fun y => if y < k + 1 then zd (jv (f i y)) else I false []) rfl rfl (fun y _ => ?_), ?_⟩)
          · simp only [upd]
            by_cases hy : y = k
            · subst hy
              rw [if_pos rfl, if_pos (by omega)]; rfl
            · by_cases hy2 : y < k
              · rw [if_neg hy, if_pos hy2, if_pos (by omega)]
              · rw [if_neg hy, if_neg hy2, if_neg (by omega)]
          refine ar rfl mI ?_
          exact again (k + 1) (by omega) (by simp only; omega) mF (Seals.sub fun F hF => .tail _ (.tail _ hF))
        · have hkC : k = C := by omega
          subst hkC
          refine ar rfl mI ?_
          refine again (i + 1, fun y => if y = i then u else vs y) ⟨by simp only; omega, fun y hy => ?_⟩ (by simp only; omega) mF ?_
          · simp only at hy ⊢
            by_cases e : y = i
            · rw [if_pos e]; exact hu
            · rw [if_neg e]; exact h2 y (by omega)
          · refine Seals.join rfl rfl rfl (fun y hy => ⟨?_, rfl, fun _ _ => rfl⟩) ⟨?_, rfl, fun y hy => ?_⟩
            · have hy' : y < i := hy
              show (if y = i then u else vs y) = vs y
              rw [if_neg (by omega)]
            · show (if i = i then u else vs i) = u
              rw [if_pos rfl]
            · show zd (jv (f i y)) = if y < k then _ else _
              rw [if_pos hy]
    · have hiR : i = R := by omega
      subst hiR
      exact fin ⟨hv, vs, h2, rfl, rfl⟩ (Seals.nil _ _)
end Go.Proofs.Ytabdfhdddmbmlaa

namespace Go.Proofs.Ytabdfhdddmbmlaa
structure Bs where
  x : Mx
  last : Int
  odd : Bool
  step : Nat
/-- The first place from p on, of n, at which column c is not 0; R if there is none. -/
def pfind (x : Mx) (R c : Nat) : Nat → Nat → Nat
  | 0, _ => R
  | n + 1, p => if x p c = 0 then pfind x R c n (p + 1) else p
def swp (x : Mx) (s p : Nat) : Mx := fun i k => x (if i = s then p else if i = p then s else i) k
def elim (x : Mx) (s c : Nat) (last : Int) : Mx := fun i k => if i ≤ s then x i k else if k < c then x i k else if k = c then 0 else (x s c * x i k - x i c * x s k) / last
def bstep (R : Nat) (st : Bs) (c : Nat) : Bs :=
  if pfind st.x R c (R - st.step) st.step = R then st
  else ⟨elim (swp st.x st.step (pfind st.x R c (R - st.step) st.step)) st.step c st.last, swp st.x st.step (pfind st.x R c (R - st.step) st.step) st.step c,
    if pfind st.x R c (R - st.step) st.step = st.step then st.odd else !st.odd, st.step + 1⟩
/-- n columns from c on. -/
def brun (R : Nat) : Nat → Nat → Bs → Bs
  | 0, _, st => st
  | n + 1, c, st => if st.step < R then brun R n (c + 1) (bstep R st c) else st
def bar (R C : Nat) (x : Mx) : Bs := brun R C 0 ⟨x, 1, false, 0⟩
theorem pfind_spec (x : Mx) (R c : Nat) : ∀ (n p : Nat), p + n = R → (pfind x R c n p = R ∧ ∀ i, p ≤ i → i < R → x i c = 0) ∨ (p ≤ pfind x R c n p ∧ pfind x R c n p < R ∧ x (pfind x R c n p) c ≠ 0)
  | 0, p, h => .inl ⟨rfl, fun i h1 h2 => by omega⟩
  | n + 1, p, h => by
    unfold pfind
    split
    · rename_i h0
      rcases pfind_spec x R c n (p + 1) (by omega) with ⟨h1, h2⟩ | ⟨h1, h2, h3⟩
      · refine .inl ⟨h1, fun i hi hR => ?_⟩
        by_cases e : i = p
        · rw [e, h0]
        · exact h2 i (by omega) hR
      · exact .inr ⟨by omega, h2, h3⟩
    · rename_i h0
      exact .inr ⟨Nat.le_refl _, by omega, h0⟩
def sub' (A : Mx) (rl cl : List Nat) : Mx := fun i j => A (rl.getD i 0) (cl.getD j 0)
/-- What a row of more is developed into. -/
def wt (A : Mx) (s x : Nat) (rl cl : List Nat) : Nat → Int := fun r => sg (r + 1) * det s (cut (sub' A (x :: rl) (0 :: cl)) (r + 1) 0)
theorem bord (A : Mx) (s x k : Nat) (rl cl : List Nat) :
    det (s + 1) (sub' A (x :: rl) (k :: cl)) = A x k * det s (sub' A rl cl) + isum (fun r => wt A s x rl cl r * A (rl.getD r 0) k) s := by
  rw [det, isum_front]
  congr 1
  · simp [sg, sub']; rfl
  · refine isum_congr fun r _ => ?_
    have : cut (sub' A (x :: rl) (k :: cl)) (r + 1) 0 = cut (sub' A (x :: rl) (0 :: cl)) (r + 1) 0 := by
      funext a b; simp [cut, sub', sk_zero]
    rw [this]
    simp only [wt, sub', List.getD_cons_succ, List.getD_cons_zero]
    grind
theorem bord_zero (A : Mx) {s x k j : Nat} (rl cl : List Nat) (hj : j < s) (h : cl.getD j 0 = k) : det (s + 1) (sub' A (x :: rl) (k :: cl)) = 0 := by
  rw [← det_tr]
  refine (det_form (s + 1)).eqRows (r := 0) (s := j + 1) (by omega) (by omega) (by omega) fun i _ => ?_
  simp only [tp, sub', List.getD_cons_succ, List.getD_cons_zero, h]
theorem det_row0 {n : Nat} (A : Mx) (h : ∀ j, 0 < j → j < n + 1 → A 0 j = 0) : det (n + 1) A = A 0 0 * det n (cut A 0 0) := by
  rw [det_row A (i := 0) (by omega), isum_front, isum_zero fun j hj => by rw [h (j + 1) (by omega) (by omega)]; simp]
  simp [sg]
theorem det_row01 {n : Nat} (A : Mx) (h : ∀ j, 1 < j → j < n + 2 → A 0 j = 0) : det (n + 2) A = A 0 0 * det (n + 1) (cut A 0 0) - A 0 1 * det (n + 1) (cut A 0 1) := by
  rw [det_row A (i := 0) (by omega), isum_front, isum_front, isum_zero fun j hj => by rw [h (j + 1 + 1) (by omega) (by omega)]; simp]
  simp [sg]; omega
/-- Sylvester: two rows and two columns more. -/
theorem sylv (A : Mx) (s x y c k : Nat) (rl cl : List Nat) (hd : det s (sub' A rl cl) ≠ 0) :
    det s (sub' A rl cl) * det (s + 2) (sub' A (y :: x :: rl) (k :: c :: cl)) =
      det (s + 1) (sub' A (x :: rl) (c :: cl)) * det (s + 1) (sub' A (y :: rl) (k :: cl)) - det (s + 1) (sub' A (y :: rl) (c :: cl)) * det (s + 1) (sub' A (x :: rl) (k :: cl)) := by
  let d := det s (sub' A rl cl)
  let cs := k :: c :: cl
  let n0 := sub' A (y :: x :: rl) cs
  let My : Nat → Int := fun j => det (s + 1) (sub' A (y :: rl) (cs.getD j 0 :: cl))
  let Mx' : Nat → Int := fun j => det (s + 1) (sub' A (x :: rl) (cs.getD j 0 :: cl))
  have hF := det_form (s + 2)
  -- row 1
  have e1 : det (s + 2) (rw' n0 1 Mx') = d * det (s + 2) n0 := by
    have h1 := hF.smul n0 (r := 1) (by omega) d (n0 1)
    rw [rw_self] at h1
    rw [← h1]
    have h2 := hF.addRows (A := n0) (r := 1) (by omega) (wt A s x rl cl) (fun r => r + 2) s (fun r hr => ⟨by omega, by omega⟩) (fun j => d * n0 1 j)
    rw [← h2]
    refine det_congr fun i j _ _ => ?_
    unfold rw'
    split
    · show Mx' j = _
      simp only [Mx']
      rw [bord]
      simp only [n0, sub', List.getD_cons_succ, List.getD_cons_zero, d, cs]
      rw [Int.mul_comm]
    · rfl
  have e2 : det (s + 2) (rw' (rw' n0 1 Mx') 0 My) = d * (d * det (s + 2) n0) := by
    rw [← e1]
    have h1 := hF.smul (rw' n0 1 Mx') (r := 0) (by omega) d (n0 0)
    have e0 : rw' (rw' n0 1 Mx') 0 (n0 0) = rw' n0 1 Mx' := by
      funext i j; unfold rw'; split
      · rename_i h; rw [h, if_neg (by omega)]
      · rfl
    rw [e0] at h1
    rw [← h1]
    have h2 := hF.addRows (A := rw' n0 1 Mx') (r := 0) (by omega) (wt A s y rl cl) (fun r => r + 2) s (fun r hr => ⟨by omega, by omega⟩) (fun j => d * n0 0 j)
    rw [← h2]
    refine det_congr fun i j _ _ => ?_
    unfold rw'
    split
    · show My j = _
      simp only [My]
      rw [bord]
      have : ∀ r, ¬ r + 2 = 1 := fun r => by omega
      simp only [n0, sub', List.getD_cons_succ, List.getD_cons_zero, d, cs, if_neg (this _)]
      rw [Int.mul_comm]
    · rfl
  have z : ∀ w j, 1 < j → j < s + 2 → det (s + 1) (sub' A (w :: rl) (cs.getD j 0 :: cl)) = 0 := fun w j h1 h2 => by
    obtain ⟨j, rfl⟩ : ∃ j', j = j' + 2 := ⟨j - 2, by omega⟩
    exact bord_zero A rl cl (j := j) (by omega) (by simp [cs])
  have e3 : det (s + 2) (rw' (rw' n0 1 Mx') 0 My) = My 0 * (Mx' 1 * d) - My 1 * (Mx' 0 * d) := by
    rw [det_row01 _ fun j h1 h2 => by show (if 0 = 0 then My j else _) = 0; rw [if_pos rfl]; exact z y j h1 h2]
    have f0 : rw' (rw' n0 1 Mx') 0 My 0 0 = My 0 := if_pos rfl
    have f1 : rw' (rw' n0 1 Mx') 0 My 0 1 = My 1 := if_pos rfl
    rw [f0, f1]
    congr 2
    · rw [det_row0 _ fun j h1 h2 => ?_]
      · congr 1
      · simp only [cut, sk_zero, rw']
        exact z x (j + 1) (by omega) (by omega)
    · rw [det_row0 _ fun j h1 h2 => ?_]
      · congr 1
      · have e : sk 1 j = j + 1 := if_neg (by omega)
        simp only [cut, sk_zero, rw', e]
        exact z x (j + 1) (by omega) (by omega)
  rw [e2] at e3
  have e4 : d * (d * det (s + 2) n0) = d * (Mx' 1 * My 0 - My 1 * Mx' 0) := by rw [e3]; grind
  exact Int.eq_of_mul_eq_mul_left hd e4
/-- What holds at column c. -/
structure BInv (A : Mx) (R C : Nat) (st : Bs) (c : Nat) (rl cl : List Nat) (p : Nat → Nat) : Prop where
  stepR : st.step ≤ R
  into : ∀ i, i < R → p i < R
  onto : ∀ i, i < R → ∃ j, j < R ∧ p j = i
  rows : ∀ j, j < st.step → rl.getD j 0 = p (st.step - 1 - j)
  cols : ∀ j, j < st.step → cl.getD j 0 < c
  down : ∀ j, j + 1 < st.step → cl.getD (j + 1) 0 < cl.getD j 0
  last : st.last = det st.step (sub' A rl cl)
  ne : st.last ≠ 0
  val : ∀ i k, st.step ≤ i → i < R → k < C → st.x i k = det (st.step + 1) (sub' A (p i :: rl) (k :: cl))
  zero : ∀ i k, st.step ≤ i → i < R → k < c → k < C → st.x i k = 0
  sign : det R (fun i j => A (p i) j) = (if st.odd then -1 else 1) * det R A
theorem BInv.start (A : Mx) (R C : Nat) : BInv A R C ⟨A, 1, false, 0⟩ 0 [] [] (fun i => i) :=
  ⟨Nat.zero_le _, fun _ h => h, fun i h => ⟨i, h, rfl⟩, fun j h => absurd h (Nat.not_lt_zero _), fun j h => absurd h (Nat.not_lt_zero _), fun j h => absurd h (Nat.not_lt_zero _), rfl, by simp,
    fun i k _ _ _ => by simp [det, isum, sg, sub'], fun i k _ _ h => absurd h (Nat.not_lt_zero _), by simp⟩
theorem BInv.step {A : Mx} {R C : Nat} {st : Bs} {c : Nat} {rl cl : List Nat} {p : Nat → Nat} (h : BInv A R C st c rl cl p) (hs : st.step < R) (hc : c < C) :
    ∃ rl' cl' p', BInv A R C (bstep R st c) (c + 1) rl' cl' p' := by
  obtain ⟨x, last, odd, s⟩ := st
  simp only at hs
  have hv := h.val
  have hz := h.zero
  have hlast := h.last
  simp only at hv hz hlast
  unfold bstep
  rcases pfind_spec x R c (R - s) s (by omega) with ⟨h1, h2⟩ | ⟨h1, h2, h3⟩
  · simp only [h1, if_true]
    refine ⟨rl, cl, p, h.stepR, h.into, h.onto, h.rows, fun j hj => Nat.lt_succ_of_lt (h.cols j hj), h.down, h.last, h.ne, h.val, fun i k hi hR hk hC => ?_, h.sign⟩
    by_cases e : k = c
    · subst e; exact h2 i hi hR
    · exact hz i k hi hR (by omega) hC
  · generalize pfind x R c (R - s) s = q at h1 h2 h3
    simp only [if_neg (Nat.ne_of_lt h2)]
    let t : Nat → Nat := fun i => if i = s then q else if i = q then s else i
    have tt : ∀ i, t (t i) = i := fun i => by simp only [t]; split <;> split <;> (try split) <;> omega
    have tR : ∀ i, i < R → t i < R := fun i hi => by simp only [t]; split <;> (try split) <;> omega
    have ts : ∀ i, s ≤ i → s ≤ t i := fun i hi => by simp only [t]; split <;> (try split) <;> omega
    have tl : ∀ i, i < s → t i = i := fun i hi => by simp only [t]; rw [if_neg (by omega), if_neg (by omega)]
    have hy : ∀ i k, swp x s q i k = x (t i) k := fun _ _ => rfl
    have hts : t s = q := if_pos rfl
    have hv' : ∀ i k, s ≤ i → i < R → k < C → swp x s q i k = det (s + 1) (sub' A (p (t i) :: rl) (k :: cl)) := fun i k h1 h2 h3 => by rw [hy]; exact hv _ _ (ts i h1) (tR i h2) h3
    have hz' : ∀ i k, s ≤ i → i < R → k < c → swp x s q i k = 0 := fun i k h1 h2 h3 => by rw [hy]; exact hz _ _ (ts i h1) (tR i h2) h3 (by omega)
    have hd : swp x s q s c = det (s + 1) (sub' A (p (t s) :: rl) (c :: cl)) := hv' s c (Nat.le_refl _) hs hc
    have hd0 : swp x s q s c ≠ 0 := by rw [hy, hts]; exact h3
    have hl0 : det s (sub' A rl cl) ≠ 0 := by have := h.ne; simp only at this; rwa [hlast] at this
    have hsyl : ∀ i k, s ≤ i → i < R → k < C → det s (sub' A rl cl) * det (s + 2) (sub' A (p (t i) :: p (t s) :: rl) (k :: c :: cl)) = swp x s q s c * swp x s q i k - swp x s q i c * swp x s q s k := fun i k h1 h2 h3 => by
      rw [hv' s c (Nat.le_refl _) hs hc, hv' i k h1 h2 h3, hv' i c h1 h2 hc, hv' s k (Nat.le_refl _) hs h3]
      exact sylv A s (p (t s)) (p (t i)) c k rl cl hl0
    refine ⟨p (t s) :: rl, c :: cl, fun i => p (t i), by simp only; omega, fun i hi => h.into _ (tR i hi), fun i hi => ?_, fun j hj => ?_, fun j hj => ?_, fun j hj => ?_, hd, hd0, fun i k hi hR hk => ?_, fun i k hi hR hk hC => ?_, ?_⟩
    · obtain ⟨j, hj, e⟩ := h.onto i hi
      exact ⟨t j, tR j hj, by rw [tt, e]⟩
    · simp only at hj ⊢
      cases j with
      | zero => rw [List.getD_cons_zero]; congr 2
      | succ j =>
        rw [List.getD_cons_succ]
        have := h.rows j (by simp only; omega)
        simp only at this
        rw [this, show s + 1 - 1 - (j + 1) = s - 1 - j by omega, tl _ (by omega)]
    · simp only at hj
      cases j with
      | zero => rw [List.getD_cons_zero]; omega
      | succ j => rw [List.getD_cons_succ]; have := h.cols j (by simp only; omega); omega
    · simp only at hj
      cases j with
      | zero => rw [List.getD_cons_zero, List.getD_cons_succ]; exact h.cols 0 (by simp only; omega)
      | succ j => rw [List.getD_cons_succ, List.getD_cons_succ]; exact h.down j (by simp only; omega)
    · simp only at hi ⊢
      have hsy := hsyl i k (by omega) hR hk
      unfold elim
      rw [if_neg (by omega)]
      by_cases hkc : k < c
      · rw [if_pos hkc]
        rw [hz' i k (by omega) hR hkc, hz' s k (Nat.le_refl _) hs hkc] at hsy
        rw [hz' i k (by omega) hR hkc]
        rcases Int.mul_eq_zero.1 (show det s (sub' A rl cl) * det (s + 2) (sub' A (p (t i) :: p (t s) :: rl) (k :: c :: cl)) = 0 by rw [hsy]; omega) with h4 | h4
        · exact absurd h4 hl0
        · exact h4.symm
      · rw [if_neg hkc]
        by_cases e : k = c
        · rw [if_pos e]
          exact (bord_zero A (p (t s) :: rl) (c :: cl) (j := 0) (by omega) (by rw [e]; rfl)).symm
        · rw [if_neg e, ← hsy, hlast, Int.mul_ediv_cancel_left _ hl0]
    · simp only at hi ⊢
      unfold elim
      rw [if_neg (by omega)]
      by_cases hkc : k < c
      · rw [if_pos hkc]; exact hz' i k (by omega) hR hkc
      · rw [if_neg hkc, if_pos (by omega)]
    · have hsg := h.sign
      simp only at hsg ⊢
      by_cases e : q = s
      · rw [if_pos e]
        rw [← hsg]
        refine det_congr fun i j _ _ => ?_
        have : t i = i := by simp only [t]; split <;> (try split) <;> omega
        rw [this]
      · rw [if_neg e]
        have hw := (det_form R).swap (A := fun i j => A (p i) j) (r := s) (s := q) hs h2 (fun e' => e e'.symm)
        rw [hsg] at hw
        have : det R (fun i j => A (p (t i)) j) = - ((if odd = true then -1 else 1) * det R A) := by
          rw [← hw]
          refine det_congr fun i j _ _ => ?_
          simp only [rw', t]
          by_cases h1 : i = q
          · simp [h1, e]
          · by_cases h2 : i = s
            · have : ¬ s = q := fun e' => e e'.symm
              simp [h2, this]
            · simp [h1, h2]
        rw [this]
        cases odd <;> simp
theorem BInv.run {A : Mx} {R C : Nat} : ∀ (n : Nat) {st : Bs} {c : Nat} {rl cl : List Nat} {p : Nat → Nat}, BInv A R C st c rl cl p → c + n = C →
    ∃ c' rl' cl' p', BInv A R C (brun R n c st) c' rl' cl' p' ∧ c' ≤ C ∧ ((brun R n c st).step = R ∨ c' = C)
  | 0, st, c, rl, cl, p, h, hc => ⟨c, rl, cl, p, h, by omega, .inr (by omega)⟩
  | n + 1, st, c, rl, cl, p, h, hc => by
    unfold brun
    split
    · rename_i hs
      obtain ⟨rl', cl', p', h'⟩ := h.step hs (by omega)
      exact BInv.run n h' (by omega)
    · rename_i hs
      exact ⟨c, rl, cl, p, h, by omega, .inl (by have := h.stepR; omega)⟩
theorem bar_inv (R C : Nat) (A : Mx) : ∃ c rl cl p, BInv A R C (bar R C A) c rl cl p ∧ c ≤ C ∧ ((bar R C A).step = R ∨ c = C) :=
  BInv.run C (BInv.start A R C) (by omega)
theorem bar_rank (R C : Nat) (A : Mx) : Rk (bar R C A).step R C A := by
  obtain ⟨c, rl, cl, p, h, hc, he⟩ := bar_inv R C A
  generalize bar R C A = st at h he
  refine ⟨⟨fun a i => one (rl.getD a 0) i, fun k b => one k (cl.getD b 0), fun e => h.ne ?_⟩, st.last, h.ne, ?_⟩
  · rw [h.last, ← e]
    refine det_congr fun a b ha hb => ?_
    have hr : rl.getD a 0 < R := by rw [h.rows a ha]; exact h.into _ (by have := h.stepR; omega)
    have hcl : cl.getD b 0 < C := Nat.lt_of_lt_of_le (h.cols b hb) hc
    unfold mm
    rw [isum_one (r := cl.getD b 0) hcl fun k _ hk => by show _ * (if k = cl.getD b 0 then (1 : Int) else 0) = 0; rw [if_neg hk, Int.mul_zero]]
    rw [isum_one (r := rl.getD a 0) hr fun k _ hk => by show (if rl.getD a 0 = k then (1 : Int) else 0) * _ = 0; rw [if_neg (Ne.symm hk), Int.zero_mul]]
    simp [one, sub']
  · have hrow : ∀ i, ∃ b : Nat → Int, i < R → ∀ k, k < C → st.last * A i k = isum (fun r => b r * A (rl.getD r 0) k) st.step := by
      intro i
      by_cases hi : i < R
      · obtain ⟨j, hj, rfl⟩ := h.onto i hi
        by_cases hjs : st.step ≤ j
        · refine ⟨fun r => - wt A st.step (p j) rl cl r, fun _ k hk => ?_⟩
          have h1 := h.val j k hjs hj hk
          have h2 : st.x j k = 0 := by
            rcases he with he | he
            · omega
            · exact h.zero j k hjs hj (by omega) hk
          rw [h2, bord, ← h.last] at h1
          rw [isum_congr (g' := fun r => - (wt A st.step (p j) rl cl r * A (rl.getD r 0) k)) fun r _ => by grind, isum_neg, Int.mul_comm]
          omega
        · refine ⟨fun r => if r = st.step - 1 - j then st.last else 0, fun _ k hk => ?_⟩
          rw [isum_one (r := st.step - 1 - j) (by omega) fun r _ hr => by show (if r = st.step - 1 - j then st.last else 0) * _ = 0; rw [if_neg hr, Int.zero_mul]]
          show _ = (if st.step - 1 - j = st.step - 1 - j then st.last else 0) * _
          rw [if_pos rfl, h.rows _ (by omega), show st.step - 1 - (st.step - 1 - j) = j by omega]
      · exact ⟨fun _ => 0, fun h => absurd h hi⟩
    exact ⟨fun i => Classical.choose (hrow i), fun r k => A (rl.getD r 0) k, fun i k hi hk => Classical.choose_spec (hrow i) hi k hk⟩
def rev (n : Nat) (A : Mx) : Mx := fun i j => A (n - 1 - i) (n - 1 - j)
theorem det_rev (n : Nat) (A : Mx) : det n (rev n A) = det n A := by
  have hF : Form n (fun A => det n (rev n A)) := by
    refine ⟨fun hc => det_congr fun i j hi hj => hc _ _ (by omega) (by omega), fun A r hr a b u v => ?_, fun {A r} hr he => ?_⟩
    · have e : ∀ w, det n (rev n (rw' A r w)) = det n (rw' (rev n A) (n - 1 - r) (fun j => w (n - 1 - j))) := fun w => det_congr fun i j hi hj => by
        simp only [rev, rw']
        by_cases h : i = n - 1 - r
        · rw [if_pos h, if_pos (by omega)]
        · rw [if_neg h, if_neg (by omega)]
      rw [e, e, e]
      exact det_row_lin (rev n A) (r := n - 1 - r) (by omega) a b (fun j => u (n - 1 - j)) (fun j => v (n - 1 - j))
    · refine det_row_alt (r := n - 1 - (r + 1)) (by omega) fun j hj => ?_
      simp only [rev]
      rw [show n - 1 - (n - 1 - (r + 1)) = r + 1 by omega, show n - 1 - (n - 1 - (r + 1) + 1) = r by omega]
      exact (he _ (by omega)).symm
  have := hF.eq A
  rw [this]
  have e : det n (rev n one) = 1 := by
    rw [← det_one n]
    refine det_congr fun i j hi hj => ?_
    simp only [rev, one]
    by_cases h : i = j
    · rw [if_pos h, if_pos (by omega)]
    · rw [if_neg h, if_neg (by omega)]
  rw [e, Int.mul_one]
theorem down_all {n : Nat} {f : Nat → Nat} (h0 : ∀ j, j < n → f j < n) (hd : ∀ j, j + 1 < n → f (j + 1) < f j) : ∀ j, j < n → f j = n - 1 - j := by
  have h1 : ∀ j, j < n → f j + j ≤ n - 1 := by
    intro j
    induction j with
    | zero => intro h; have := h0 0 h; omega
    | succ j ih => intro h; have := ih (by omega); have := hd j h; omega
  have h2 : ∀ m j, j + m + 1 = n → m ≤ f j := by
    intro m
    induction m with
    | zero => intro j _; omega
    | succ m ih => intro j h; have := ih (j + 1) (by omega); have := hd j (by omega); omega
  intro j hj
  have := h1 j hj
  have := h2 (n - 1 - j) j (by omega)
  omega
theorem bar_det (n : Nat) (A : Mx) : det n A = if (bar n n A).step < n then 0 else if (bar n n A).odd then - (bar n n A).last else (bar n n A).last := by
  have hrk := bar_rank n n A
  by_cases hlt : (bar n n A).step < n
  · rw [if_pos hlt]
    exact hrk.full.2 hlt
  · rw [if_neg hlt]
    obtain ⟨c, rl, cl, p, h, hc, he⟩ := bar_inv n n A
    generalize bar n n A = st at h he hlt
    have hs : st.step = n := by have := h.stepR; omega
    have hcl := down_all (n := n) (f := fun j => cl.getD j 0) (fun j hj => Nat.lt_of_lt_of_le (h.cols j (by omega)) hc) (fun j hj => h.down j (by omega))
    have e : st.last = det n (fun i j => A (p i) j) := by
      rw [h.last, hs, ← det_rev n (fun i j => A (p i) j)]
      refine det_congr fun i j hi hj => ?_
      simp only [sub', rev]
      rw [h.rows i (by omega), hcl j hj, hs]
    have hsg := h.sign
    rw [← e] at hsg
    rw [hsg]
    cases st.odd <;> simp
end Go.Proofs.Ytabdfhdddmbmlaa

namespace Go.Proofs.Ytabdfhdddmbmlaa
open Go.RowKit
theorem len_fam {t e' ty : TypeId} {size' : Nat} {vs : Nat → Value} {R C : Nat} {x : Mx} {os : List Own} {fs : List Fact} {K : Cont} [ht : TSl Try.prog t e' size'] (pos i : Nat)
    (h : nthOwn os pos = some (famO vs R C x)) (hi : i < R) (hs : isSl (vs i)) (k : C ≤ 9223372036854775807 → K (.int .i64 C) os fs) : LenK Try.prog [t] ty (vs i) os fs K := by
  obtain ⟨a, m, c, hv⟩ := hs
  refine ⟨fun G w hw => ?_⟩
  have key : ∃ (a' : Option Addr) (c' : Nat), vs i = .slice a' C c' ∧ C ≤ 9223372036854775807 := by
    rcases hw.own _ (nthOwn_mem h) i hi with ⟨h1, h2⟩ | ⟨r, cap, h1, b1, b2, b3, _⟩ | ⟨r, h1, _⟩ | ⟨_, _, _, _, _, _, ⟨r, _, _, h1, _⟩ | ⟨r, _, _, _, _, _, _, h1, _⟩⟩
    rotate_right
    · have h1' : vs i = _ := h1
      rw [hv] at h1'; simp at h1'
    rotate_right
    · have h1' : vs i = _ := h1
      rw [hv] at h1'; simp at h1'
    · have h2' : C = 0 := h2
      exact ⟨none, 0, by rw [h2']; exact h1, by omega⟩
    · have b2' : C ≤ cap := b2
      exact ⟨some ⟨r, 0, none⟩, cap, h1, by unfold maxLen at b3; omega⟩
    · have h1' : vs i = _ := h1
      rw [hv] at h1'; simp at h1'
  obtain ⟨a', c', e, hC⟩ := key
  rw [e]
  exact (len_val (P := Try.prog) (t := t) (ty := ty) (a := a') (n := C) (c := c') (os := os) (fs := fs) (K := K) (k hC)).out G w hw
theorem load_fam {vs : Nat → Value} {R C : Nat} {x : Mx} {os : List Own} {fs : List Fact} {K : Cont} (pos i j : Nat) (h : nthOwn os pos = some (famO vs R C x)) (hi : i < R) (hj : j < C) (a : Int) (ha : x i j = a)
    (k : ∀ u, K u os ((u, zd a) :: fs)) : LoadK Try.prog 33 (eptr (vs i) (j * 2)) os fs K := by
  subst ha
  exact load_own (o := famO vs R C x) pos i h hi j 0 rfl hj (Part.refl _) (load_I _ _) k
theorem index_fam {kk : IntKind} {z : Int} {vs : Nat → Value} {R C : Nat} {x : Mx} {os : List Own} {fs : List Fact} {K : Cont} (pos i : Nat) (h : nthOwn os pos = some (famO vs R C x)) (hi : i < R) (hs : isSl (vs i)) (j : Nat) (hz : z = (j : Int)) (hj : j < C)
    (k : K (eptr (vs i) (j * 2)) os fs) : IndexAddrK Try.prog 36 (vs i) (.int kk z) os fs K :=
  index_own (o := famO vs R C x) pos i h hi (fun r => by obtain ⟨a, n, c, e⟩ := hs; show vs i ≠ _; rw [e]; simp) j hz hj k
theorem store_mx {u : Value} {vs : Nat → Value} {R C : Nat} {x : Mx} {os : List Own} {fs : List Fact} {K : Cont} (pos i j : Nat) (h : nthOwn os pos = some (famO vs R C x)) (hi : i < R) (hj : j < C) (w : Int) (x' : Mx)
    (hu : Reads os fs u (zd w)) (hx : ∀ a b, a < R → b < C → x' a b = if a = i ∧ b = j then w else x a b) (k : K undef (setOwn os pos (famO vs R C x')) fs) :
    StoreK Try.prog 33 (eptr (vs i) (j * 2)) u os fs K :=
  store_fam (d := zd w) pos i (famO vs R C x') h hi j hj rfl (by kernel_rfl) hu rfl rfl (fun a ha => ⟨rfl, rfl, fun b hb => by
    show zd (x' a b) = if a = i ∧ b = j then zd w else zd (x a b)
    rw [hx a b ha hb]; split <;> rfl⟩) k
theorem Seals.famcong {vs vs' : Nat → Value} {R C : Nat} {x x' : Mx} {os : List Own} {fs : List Fact} (pos : Nat) (h : nthOwn os pos = some (famO vs R C x)) (s : Nat → Nat) (hs : ∀ i, i < R → s i < R ∧ vs' i = vs (s i) ∧ ∀ k, k < C → x' i k = x (s i) k)
    (hinj : ∀ i j, i < R → j < R → s i = s j → i = j) : Seals os fs (setOwn os pos (famO vs' R C x')) fs :=
  Seals.re (o' := famO vs' R C x') pos h s rfl (fun i hi => ⟨(hs i hi).1, (hs i hi).2.1, rfl, fun k hk => by
    show zd _ = zd _
    rw [(hs i hi).2.2 k hk]⟩) hinj
theorem quot_meets (v w : Value) (x y : Int) (a b : Nat) (hx : sz x a) (hy : sz y b) (ha : a ≤ 137438953472) (hb : b ≤ 137438953472) (h0 : y ≠ 0) :
    Meets Try.prog 99 [v, w] [(v, zd x), (w, zd y)] (fun r os fs => os = [] ∧ fs = [(r, zd (x / y))]) := by
  refine meets_of_vc Try.func99 (by kernel_rfl) rfl (by kernel_rfl) (Nat.le_of_ble_eq_true rfl) ?_
  refine box_rule (Reads.fact (d := zd x) mM) fun p hp => ?_
  refine box_rule (Reads.fact (d := zd y) mM) fun q hq => ?_
  refine alloc_rule (d := I false []) fun o ho => ?_
  refine load_box (d := zd x) 2 rfl hp rfl (load_I _ _) fun u1 => ?_
  refine load_box (d := zd y) 1 rfl hq rfl (load_I _ _) fun u2 => ?_
  refine call_fn (zDivModZ u1 u2 x y a b hx hy ha hb h0) (Seals.refl _ _) mS ?_
  rintro _ _ _ ⟨rfl, z, m, rfl, rfl⟩
  refine alloc_rule (d := I false []) fun c1 h1 => ?_
  refine alloc_rule (d := I false []) fun c2 h2 => ?_
  refine store_box (d := zd (x / y)) 1 rfl h1 rfl (by kernel_rfl) ?_ ?_; exact Reads.fact mM
  refine store_box (d := zd (x % y)) 0 rfl h2 rfl (by kernel_rfl) ?_ ?_; exact Reads.fact mM
  refine load_box (d := zd (x / y)) 1 rfl h1 rfl (load_I _ _) fun u3 => ?_
  refine store_box (d := zd (x / y)) 2 rfl ho rfl (by kernel_rfl) ?_ ?_; exact Reads.fact mM
  refine load_box (d := zd (x / y)) 2 rfl ho rfl (load_I _ _) fun r => ?_
  refine fin ⟨rfl, rfl⟩ (Seals.trans (Seals.trans (Seals.trans (Seals.trans (Seals.trans (Seals.drop 0 _ _) (Seals.drop 0 _ _)) (Seals.drop 0 _ _)) (Seals.drop 0 _ _)) (Seals.drop 0 _ _)) (Seals.sub mS))
theorem barAt_meets (p : Value) (m : List Row) (i k : Nat) (hi : i < m.length) (hk : k < (m.getD i []).length) :
    Meets Try.prog 98 [.int .i64 (i : Nat), .int .i64 (k : Nat), p] [(p, .ptr (W m))] (fun r os fs => os = [] ∧ fs = [(r, J ((m.getD i []).getD k z0))]) := by
  refine meets_of_vc Try.func98 (by kernel_rfl) rfl (by kernel_rfl) (Nat.le_of_ble_eq_true rfl) ?_
  refine alloc_rule (d := I false []) fun o ho => ?_
  refine load_fact (d := W m) mM (load_W _) fun x1 => ?_
  refine index_fact mM i rfl hi fun a1 => ?_
  refine load_fact (d := V (m.getD i [])) mM (load_V _) fun x2 => ?_
  refine index_fact mM k rfl hk fun a2 => ?_
  refine load_fact (d := J ((m.getD i []).getD k z0)) mM (load_J _) fun x3 => ?_
  refine store_box (d := J ((m.getD i []).getD k z0)) 0 rfl ho rfl (by kernel_rfl) ?_ ?_; exact Reads.fact mM
  refine load_box (d := J ((m.getD i []).getD k z0)) 0 rfl ho rfl (load_J _) fun r => ?_
  exact fin ⟨rfl, rfl⟩ (Seals.trans (Seals.drop 0 _ _) (Seals.sub mS))
/-- Limbs after so many columns. -/
def Eb (k : Nat) : Nat → Nat
  | 0 => k + 1
  | c + 1 => 2 * Eb k c + 1
theorem Eb_mono (k : Nat) {a b : Nat} (h : a ≤ b) : Eb k a ≤ Eb k b := by
  induction h with
  | refl => exact Nat.le_refl _
  | step h ih => simp only [Eb]; omega
theorem sz_elim {a b c d l : Int} {e : Nat} (ha : sz a e) (hb : sz b e) (hc : sz c e) (hd : sz d e) : sz ((a * b - c * d) / l) (2 * e + 1) := by
  refine sz_div (sz_sub ?_ ?_)
  · rw [Nat.two_mul]; exact ha.mul hb
  · rw [Nat.two_mul]; exact hc.mul hd
/-- What holds of the numbers at column c. -/
structure BSz (k R C : Nat) (st : Bs) (c : Nat) : Prop where
  x : ∀ i j, i < R → j < C → sz (st.x i j) (Eb k c)
  l : sz st.last (Eb k c)
  ne : st.last ≠ 0
theorem mx_at {m : List Row} {k : Nat} (hf : Fits k m) (i j : Nat) : sz (((ww m).getD i []).getD j 0) k := by
  rw [ww_get]
  by_cases h : j < (m.getD i []).length
  · rw [vv_get _ _ h]
    exact sz_jv ((hf.get i).get j).1 ((hf.get i).get j).2
  · rw [List.getD_eq_getElem?_getD, List.getElem?_eq_none (by rw [vv_len]; omega)]
    exact sz_zero _
/-- A matrix of rows. -/
def mx (m : List (List Int)) : Mx := fun i j => (m.getD i []).getD j 0
end Go.Proofs.Ytabdfhdddmbmlaa

namespace Go.Proofs.Ytabdfhdddmbmlaa
open Go.RowKit
theorem pfind_here {x : Mx} {R c p : Nat} (h : p < R) (h0 : x p c ≠ 0) : pfind x R c (R - p) p = p := by
  rw [show R - p = (R - p - 1) + 1 by omega, pfind, if_neg h0]
theorem pfind_next {x : Mx} {R c p : Nat} (h : p < R) (h0 : x p c = 0) : pfind x R c (R - p) p = pfind x R c (R - (p + 1)) (p + 1) := by
  rw [show R - p = (R - (p + 1)) + 1 by omega, pfind, if_pos h0]
/-- s and p changed about. -/
def ex (s p i : Nat) : Nat := if i = s then p else if i = p then s else i
theorem ex_lt {s p i R : Nat} (hs : s < R) (hp : p < R) (hi : i < R) : ex s p i < R := by unfold ex; split <;> (try split) <;> omega
theorem ex_ex (s p i : Nat) : ex s p (ex s p i) = i := by unfold ex; split <;> split <;> (try split) <;> omega
theorem ex_inj {s p i j : Nat} (h : ex s p i = ex s p j) : i = j := by rw [← ex_ex s p i, h, ex_ex]
theorem ex_same (s i : Nat) : ex s s i = i := by unfold ex; split <;> (try split) <;> omega
def rowMix (z y : Mx) (i : Nat) : Mx := fun a b => if a < i then z a b else y a b
def cellMix (z y : Mx) (i c k : Nat) : Mx := fun a b => if a < i then z a b else if a = i ∧ c < b ∧ b < k then z a b else y a b
theorem BSz.step {k R C : Nat} {x : Mx} {last : Int} {odd od : Bool} {s c p : Nat} (h : BSz k R C ⟨x, last, odd, s⟩ c) (hs : s < R) (hp : p < R) (hc : c < C) (h0 : swp x s p s c ≠ 0) :
    BSz k R C ⟨elim (swp x s p) s c last, swp x s p s c, od, s + 1⟩ (c + 1) := by
  have hx : ∀ i j, i < R → j < C → sz (swp x s p i j) (Eb k c) := fun i j hi hj => h.x (ex s p i) j (ex_lt hs hp hi) hj
  refine ⟨fun i j hi hj => ?_, (hx s c hs hc).mono (by simp only [Eb]; omega), h0⟩
  have hm : Eb k c ≤ Eb k (c + 1) := by simp only [Eb]; omega
  simp only [elim]
  split
  · exact (hx i j hi hj).mono hm
  · split
    · exact (hx i j hi hj).mono hm
    · split
      · exact sz_zero _
      · exact sz_elim (hx s c hs hc) (hx i j hi hj) (hx i c hi hc) (hx s j hs hj)
theorem BSz.skip {k R C : Nat} {st : Bs} {c : Nat} (h : BSz k R C st c) : BSz k R C st (c + 1) :=
  ⟨fun i j hi hj => (h.x i j hi hj).mono (by simp only [Eb]; omega), h.l.mono (by simp only [Eb]; omega), h.ne⟩
theorem brun_more {R n c : Nat} {st : Bs} (h : st.step < R) : brun R (n + 1) c st = brun R n (c + 1) (bstep R st c) := by rw [brun, if_pos h]
theorem brun_full {R n c : Nat} {st : Bs} (h : R ≤ st.step) : brun R n c st = st := by
  cases n with
  | zero => rfl
  | succ n => rw [brun, if_neg (by omega)]
theorem bstep_none {R c : Nat} {x : Mx} {last : Int} {odd : Bool} {s : Nat} (h : pfind x R c (R - s) s = R) : bstep R ⟨x, last, odd, s⟩ c = ⟨x, last, odd, s⟩ := by
  unfold bstep; rw [if_pos h]
theorem bstep_some {R c p : Nat} {x : Mx} {last : Int} {odd : Bool} {s : Nat} (h : pfind x R c (R - s) s = p) (hp : p < R) :
    bstep R ⟨x, last, odd, s⟩ c = ⟨elim (swp x s p) s c last, swp x s p s c, if p = s then odd else !odd, s + 1⟩ := by
  unfold bstep; simp only [h]; rw [if_neg (by omega)]
def bareissR (R C : Nat) (A : Mx) : Value → List Own → List Fact → Prop := fun r os fs =>
  os = [] ∧ sz (bar R C A).last 17179869184 ∧ ∃ q, r = .tuple #[.int .i64 ((bar R C A).step : Nat), q, .bool (bar R C A).odd] ∧ fs = [(q, zd (bar R C A).last)]
theorem outer_ex {vs : Nat → Value} {s p i : Nat} (h : p ≠ s) : upd (upd (fun i => .one (vs i)) p (.one (vs s))) s (.one (vs p)) i = .one (vs (ex s p i)) := by
  unfold upd ex
  by_cases h1 : i = s
  · simp [h1]
  · by_cases h2 : i = p
    · subst h2; simp [h]
    · simp [h1, h2]
theorem bareiss_meets (v : Value) (m : List Row) (k : Nat) (hr : right m) (hf : Fits k m) (lm : m.length ≤ 1048576) (lc : (m.getD 0 []).length ≤ 1048576) (hk : Eb k (m.getD 0 []).length ≤ 17179869184) :
    Meets Try.prog 84 [v] [(v, W m)] (bareissR m.length (m.getD 0 []).length (mx (ww m))) := by
  have hrow : ∀ i, i < m.length → (m.getD i []).length = (m.getD 0 []).length := fun i hi => (hr.get hi).2
  have hR0 := hr.1
  generalize hC : (m.getD 0 []).length = C at *
  generalize hR : m.length = R at *
  have hC0 : 0 < C := by rw [← hC]; exact (hr.get (by omega)).1
  have hA : ∀ i j, i < R → j < C → mx (ww m) i j = jv ((m.getD i []).getD j z0) := fun i j hi hj => by
    unfold mx; rw [ww_get, vv_get _ _ (by rw [hrow i hi]; exact hj)]
  have hk0 : k + 1 ≤ Eb k C := Eb_mono k (Nat.zero_le C)
  refine meets_of_vc Try.func84 (by kernel_rfl) rfl (by kernel_rfl) (Nat.le_of_ble_eq_true rfl) ?_
  refine box_fact (Reads.fact (d := W m) mM) fun p0 => ?_
  refine alloc_rule (d := I false []) fun o ho => ?_
  refine draw_rule [0, 1, 2, 3, 4, 5, 6, 7, 8] [0, 1, 2, 3, 4, 5, 6, 7, 8] (by kernel_rfl) (by kernel_rfl) ?_
  refine load_fact (d := W m) mM (load_W _) fun x1 => ?_
  refine len_fact mM fun _ => ?_
  refine load_fact (d := W m) mM (load_W _) fun x2 => ?_
  refine index_fact mM 0 rfl (by omega) fun a1 => ?_
  refine load_fact (d := V (m.getD 0 [])) mM (load_V _) fun x3 => ?_
  refine len_fact mM fun _ => ?_
  rw [hR, hC]
  refine call_fn (mmade_meets R C 98 [p0] [(p0, .ptr (W m))] (fun i j => (m.getD i []).getD j z0) (fun i j hi hj => barAt_meets p0 m i j (by omega) (by rw [hrow i hi]; exact hj))
    (fun i j _ _ => ⟨((hf.get i).get j).1, Nat.le_trans ((hf.get i).get j).2 (by omega)⟩) (by omega) (by omega)) (Seals.refl _ _) mS ?_
  rintro v' _ _ ⟨hv, vs0, hvs0, rfl, rfl⟩
  refine call_fn (zof_meets 1 (by decide) (by decide)) (Seals.refl _ _) mS ?_
  rintro u0 _ _ ⟨rfl, rfl⟩
  refine alloc_rule (d := I false []) fun l hl => ?_
  refine store_box (d := zd 1) 0 rfl hl rfl (by kernel_rfl) ?_ ?_; exact Reads.fact mM
  refine loop_rule (X := Bs × Nat × (Nat → Value)) (fun x => ([(3, o), (5, v'), (6, l), (7, .bool x.1.odd), (8, .int .i64 (x.1.step : Nat)), (9, .int .i64 (x.2.1 : Nat))], [own1 l 2 1 (fun _ => zd x.1.last), famO x.2.2 R C x.1.x, outer v' R x.2.2, own1 o 2 1 (fun _ => I false [])], []))
    (fun x => x.2.1 ≤ C ∧ x.1.step ≤ R ∧ (∀ i, i < R → isSl (x.2.2 i)) ∧ BSz k R C x.1 x.2.1 ∧ brun R (C - x.2.1) x.2.1 x.1 = bar R C (mx (ww m))) (fun x => C - x.2.1) rfl ?_ ?_
  · refine again (⟨mx (ww m), 1, false, 0⟩, 0, vs0) ⟨Nat.zero_le _, Nat.zero_le _, hvs0, ⟨fun i j _ _ => (mx_at hf i j).mono (by simp only [Eb]; omega), ?_, by simp⟩, rfl⟩ trivial mF
      (Seals.trans (Seals.box0 rfl) (Seals.trans (Seals.famcong (os := [_, _, _, _]) 1 rfl (fun i => i) (fun a ha => ⟨ha, rfl, fun b hb => hA a b ha hb⟩) fun _ _ _ _ e => e) (Seals.nil _ _)))
    exact Nat.lt_of_lt_of_le (show (1 : Int).natAbs < 18446744073709551616 ^ 1 by decide) (Nat.pow_le_pow_right (by decide) (by simp only [Eb]; omega))
  · rintro ⟨⟨x, last, odd, s⟩, c, vs⟩ ⟨h1, h2, hvs, hsz, hrun⟩
    simp only at h1 h2 hvs hsz hrun ⊢
    have hEb : Eb k c ≤ 17179869184 := Nat.le_trans (Eb_mono k h1) hk
    refine index_elem 2 rfl hv 0 rfl (by omega) ?_
    refine load_one_elem 2 rfl 0 (by omega) (u := vs 0) rfl ?_
    refine len_fam 1 0 rfl (by omega) (hvs 0 (by omega)) fun _ => ?_
    refine cmp_split _ rfl (fun hc => ?_) (fun hc => ?_)
    rotate_left
    · have hcC : c = C := by omega
      have hfin : bar R C (mx (ww m)) = ⟨x, last, odd, s⟩ := by rw [← hrun, hcC, Nat.sub_self, brun]
      refine draw_ord [0, 3, 1, 4, 2, 5] (by kernel_rfl) ?_
      refine ord_split 2 4 (by kernel_rfl) (by kernel_rfl) (by kernel_rfl) ?_ ?_
      · refine ord_go [0, 1, 2, 3, 4, 5] (by kernel_rfl) (by kernel_rfl) ?_
        refine load_box (d := zd last) 0 rfl hl rfl (load_I _ _) fun u1 => ?_
        refine store_box (d := zd last) 3 rfl ho rfl (by kernel_rfl) ?_ ?_; exact Reads.fact mM
        refine load_box (d := zd last) 3 rfl ho rfl (load_I _ _) fun r => ?_
        refine fin ⟨rfl, by rw [hfin]; exact hsz.l.mono (Nat.le_trans (Eb_mono k h1) hk), r, ?_, ?_⟩ (Seals.trans (Seals.trans (Seals.trans (Seals.trans (Seals.drop 0 _ _) (Seals.drop 0 _ _)) (Seals.drop 0 _ _)) (Seals.drop 0 _ _)) (Seals.sub (fs' := [(r, zd last)]) mS))
        · rw [hfin]; rfl
        · rw [hfin]
      · refine ord_go [0, 1, 3, 4, 2, 5] (by kernel_rfl) (by kernel_rfl) ?_
        refine load_box (d := zd last) 0 rfl hl rfl (load_I _ _) fun u1 => ?_
        refine store_box (d := zd last) 3 rfl ho rfl (by kernel_rfl) ?_ ?_; exact Reads.fact mM
        refine load_box (d := zd last) 3 rfl ho rfl (load_I _ _) fun r => ?_
        refine fin ⟨rfl, by rw [hfin]; exact hsz.l.mono (Nat.le_trans (Eb_mono k h1) hk), r, ?_, ?_⟩ (Seals.trans (Seals.trans (Seals.trans (Seals.trans (Seals.drop 0 _ _) (Seals.drop 0 _ _)) (Seals.drop 0 _ _)) (Seals.drop 0 _ _)) (Seals.sub (fs' := [(r, zd last)]) mS))
        · rw [hfin]; rfl
        · rw [hfin]
    have hcC : c < C := by omega
    refine len_own 2 rfl hv fun _ => ?_
    refine cmp_split _ rfl (fun hs => ?_) (fun hs => ?_)
    rotate_left
    · have hfin : bar R C (mx (ww m)) = ⟨x, last, odd, s⟩ := by rw [← hrun, brun_full (by simp only; omega)]
      refine draw_ord [0, 3, 1, 4, 2, 5] (by kernel_rfl) ?_
      refine ord_split 2 4 (by kernel_rfl) (by kernel_rfl) (by kernel_rfl) ?_ ?_
      · refine ord_go [0, 1, 2, 3, 4, 5] (by kernel_rfl) (by kernel_rfl) ?_
        refine load_box (d := zd last) 0 rfl hl rfl (load_I _ _) fun u1 => ?_
        refine store_box (d := zd last) 3 rfl ho rfl (by kernel_rfl) ?_ ?_; exact Reads.fact mM
        refine load_box (d := zd last) 3 rfl ho rfl (load_I _ _) fun r => ?_
        refine fin ⟨rfl, by rw [hfin]; exact hsz.l.mono (Nat.le_trans (Eb_mono k h1) hk), r, ?_, ?_⟩ (Seals.trans (Seals.trans (Seals.trans (Seals.trans (Seals.drop 0 _ _) (Seals.drop 0 _ _)) (Seals.drop 0 _ _)) (Seals.drop 0 _ _)) (Seals.sub (fs' := [(r, zd last)]) mS))
        · rw [hfin]; rfl
        · rw [hfin]
      · refine ord_go [0, 1, 3, 4, 2, 5] (by kernel_rfl) (by kernel_rfl) ?_
        refine load_box (d := zd last) 0 rfl hl rfl (load_I _ _) fun u1 => ?_
        refine store_box (d := zd last) 3 rfl ho rfl (by kernel_rfl) ?_ ?_; exact Reads.fact mM
        refine load_box (d := zd last) 3 rfl ho rfl (load_I _ _) fun r => ?_
        refine fin ⟨rfl, by rw [hfin]; exact hsz.l.mono (Nat.le_trans (Eb_mono k h1) hk), r, ?_, ?_⟩ (Seals.trans (Seals.trans (Seals.trans (Seals.trans (Seals.drop 0 _ _) (Seals.drop 0 _ _)) (Seals.drop 0 _ _)) (Seals.drop 0 _ _)) (Seals.sub (fs' := [(r, zd last)]) mS))
        · rw [hfin]; rfl
        · rw [hfin]
    have hsR : s < R := by omega
    have hfin : brun R (C - (c + 1)) (c + 1) (bstep R ⟨x, last, odd, s⟩ c) = bar R C (mx (ww m)) := by
      rw [← hrun, show C - c = (C - (c + 1)) + 1 by omega, brun_more hsR]
    refine loop_rule (X := Nat) (fun p => ([(3, o), (5, v'), (6, l), (7, .bool odd), (8, .int .i64 (s : Nat)), (9, .int .i64 (c : Nat)), (10, .int .i64 (p : Nat))], [own1 l 2 1 (fun _ => zd last), famO vs R C x, outer v' R vs, own1 o 2 1 (fun _ => I false [])], []))
      (fun p => s ≤ p ∧ p < R ∧ pfind x R c (R - s) s = pfind x R c (R - p) p) (fun p => R - p) rfl ?_ ?_
    · exact again s ⟨Nat.le_refl _, hsR, rfl⟩ trivial mF (Seals.nil _ _)
    · rintro p ⟨hp1, hpR, hpf⟩
      refine index_elem 2 rfl hv p rfl (by omega) ?_
      refine load_one_elem 2 rfl p (by omega) (u := vs p) rfl ?_
      refine index_fam 1 p rfl (by omega) (hvs p (by omega)) c rfl (by omega) ?_
      refine load_fam 1 p c rfl (by omega) (by omega) (x p c) rfl fun u1 => ?_
      refine call_fn (zSignZ u1 (x p c) _ (hsz.x p c hpR hcC) (by omega)) (Seals.refl _ _) mS ?_
      rintro _ _ _ ⟨rfl, rfl, rfl⟩
      refine cmp_split _ rfl (fun h0 => ?_) (fun h0 => ?_)
      · have h0' : x p c = 0 := Int.sign_eq_zero_iff_zero.1 h0
        refine ar rfl mI ?_
        refine len_own 2 rfl hv fun _ => ?_
        refine cmp_split _ rfl (fun hq => ?_) (fun hq => ?_)
        · have hb := bstep_none (last := last) (odd := odd) (show pfind x R c (R - s) s = R by rw [hpf, pfind_next hpR h0', show R - (p + 1) = 0 by omega]; rfl)
          rw [hb] at hfin
          refine ar rfl mI ?_
          exact again (⟨x, last, odd, s⟩, c + 1, vs) ⟨by simp only; omega, h2, hvs, hsz.skip, hfin⟩ (by simp only; omega) mF (Seals.nil _ _)
        · exact again (p + 1) ⟨by omega, by omega, by rw [hpf, pfind_next hpR h0']⟩ (by simp only; omega) mF (Seals.nil _ _)
      · have h0' : x p c ≠ 0 := fun e => h0 (Int.sign_eq_zero_iff_zero.2 e)
        have hb := bstep_some (last := last) (odd := odd) (show pfind x R c (R - s) s = p by rw [hpf, pfind_here hpR h0']) hpR
        rw [hb] at hfin
        have h0 : swp x s p s c ≠ 0 := by unfold swp; rw [if_pos rfl]; exact h0'
        have hys : ∀ i j, i < R → j < C → sz (swp x s p i j) (Eb k c) := fun i j hi hj => hsz.x (ex s p i) j (ex_lt hsR hpR hi) hj
        have hstep : ∀ od, BSz k R C ⟨elim (swp x s p) s c last, swp x s p s c, od, s + 1⟩ (c + 1) := fun od => hsz.step hsR hpR hcC h0
        have hyx : ∀ i j, swp x s p i j = x (ex s p i) j := fun _ _ => rfl
        obtain ⟨vs', hv's⟩ : ∃ vs' : Nat → Value, ∀ i, vs' i = vs (ex s p i) := ⟨_, fun _ => rfl⟩
        have hvs' : ∀ i, i < R → isSl (vs' i) := fun i hi => by rw [hv's]; exact hvs _ (ex_lt hsR hpR hi)
        clear hrun hpf h0'
        generalize swp x s p = y at *
        generalize hz : elim y s c last = z at *
        have hzs : ∀ a b, a ≤ s → z a b = y a b := fun a b ha => by rw [← hz]; unfold elim; rw [if_pos ha]
        have hfc : ∀ i, i < R → ex s p i < R ∧ vs' i = vs (ex s p i) ∧ ∀ j, j < C → rowMix z y (s + 1) i j = x (ex s p i) j := fun i hi => ⟨ex_lt hsR hpR hi, hv's i, fun j _ => by
          unfold rowMix
          split
          · rw [hzs i j (by omega), hyx]
          · rw [hyx]⟩
        refine cmp_split _ rfl (fun hne => ?_) (fun hne => ?_)
        · have hps : p ≠ s := by omega
          refine draw_ord [0, 1, 4, 5, 6, 7, 8, 9, 10, 11, 12, 13, 2, 3, 14, 15] (by kernel_rfl) ?_
          refine ord_split 2 13 (by kernel_rfl) (by kernel_rfl) (by kernel_rfl) ?_ ?_
          · refine ord_split 3 13 (by kernel_rfl) (by kernel_rfl) (by kernel_rfl) ?_ ?_
            · refine ord_go [0, 1, 2, 3, 4, 5, 6, 7, 8, 9, 10, 11, 12, 13, 14, 15] (by kernel_rfl) (by kernel_rfl) ?_
              refine index_elem 2 rfl hv s rfl (by omega) ?_
              refine load_one_elem 2 rfl s (by omega) (u := vs s) rfl ?_
              refine index_elem 2 rfl hv p rfl (by omega) ?_
              refine load_one_elem 2 rfl p (by omega) (u := vs p) rfl ?_
              refine index_elem 2 rfl hv p rfl (by omega) ?_
              refine store_elem (d := .one (vs s)) 2 rfl p (by omega) rfl (by kernel_rfl) (Reads.one (hvs s (by omega)).one) ?_
              refine index_elem 2 rfl hv s rfl (by omega) ?_
              refine store_elem (d := .one (vs p)) 2 rfl s (by omega) rfl (by kernel_rfl) (Reads.one (hvs p (by omega)).one) ?_
              have hod : (if p = s then odd else !odd) = (!odd) := by rw [if_neg hps]
              refine ar rfl mI ?_
              refine loop_rule (X := Nat) (fun i => ([(3, o), (5, v'), (6, l), (7, .bool (!odd)), (8, .int .i64 (s : Nat)), (9, .int .i64 (c : Nat)), (11, .int .i64 (i : Nat))], [own1 l 2 1 (fun _ => zd last), famO vs' R C (rowMix z y i), outer v' R vs', own1 o 2 1 (fun _ => I false [])], []))
                (fun i => s + 1 ≤ i ∧ i ≤ R) (fun i => R - i) rfl ?_ ?_
              · exact again (s + 1) ⟨Nat.le_refl _, by omega⟩ trivial mF (Seals.trans (Seals.own_cong (os := [_, _, _, _]) 2 (fun i => .one (vs' i)) rfl rfl fun i _ => by rw [outer_ex hps, hv's]) (Seals.trans (Seals.famcong (os := [_, _, _, _]) 1 rfl (ex s p) hfc fun _ _ _ _ e => ex_inj e) (Seals.nil _ _)))
              · rintro i ⟨hi1, hi2⟩
                refine len_own 2 rfl hv fun _ => ?_
                refine cmp_split _ rfl (fun hi => ?_) (fun hi => ?_)
                · have hiR : i < R := by omega
                  refine ar rfl mI ?_
                  refine loop_rule (X := Nat) (fun k' => ([(3, o), (5, v'), (6, l), (7, .bool (!odd)), (8, .int .i64 (s : Nat)), (9, .int .i64 (c : Nat)), (11, .int .i64 (i : Nat)), (12, .int .i64 (k' : Nat))], [own1 l 2 1 (fun _ => zd last), famO vs' R C (cellMix z y i c k'), outer v' R vs', own1 o 2 1 (fun _ => I false [])], []))
                    (fun k' => c + 1 ≤ k' ∧ k' ≤ C) (fun k' => C - k') rfl ?_ ?_
                  · refine again (c + 1) ⟨Nat.le_refl _, by omega⟩ trivial mF (Seals.famcong (os := [_, _, _, _]) 1 rfl (fun i => i) (fun a ha => ⟨ha, rfl, fun b hb => ?_⟩) fun _ _ _ _ e => e)
                    unfold cellMix rowMix
                    rw [if_neg (show ¬ (a = i ∧ c < b ∧ b < c + 1) by omega)]
                  · rintro k' ⟨hk1, hk2⟩
                    refine index_elem 2 rfl hv 0 rfl (by omega) ?_
                    refine load_one_elem 2 rfl 0 (by omega) (u := vs' 0) rfl ?_
                    refine len_fam 1 0 rfl (by omega) (hvs' 0 (by omega)) fun _ => ?_
                    refine cmp_split _ rfl (fun hc2 => ?_) (fun hc2 => ?_)
                    · have hkC : k' < C := by omega
                      have y1 := hys s c hsR hcC
                      have y2 := hys i k' hiR hkC
                      have y3 := hys i c hiR hcC
                      have y4 := hys s k' hsR hkC
                      refine draw_rule [0, 1, 2, 3, 4, 5, 6, 7, 8, 9, 10, 11, 12, 13, 14, 15, 16, 17, 18, 20, 21, 22, 23, 24, 25, 26, 27, 28, 29, 30, 31, 32, 33, 36, 19, 34, 35, 37, 38, 39] [0, 1, 2, 3, 4, 5, 6, 7, 8, 9, 10, 11, 12, 13, 14, 15, 16, 17, 18, 19, 20, 21, 22, 23, 24, 25, 26, 27, 28, 29, 30, 31, 32, 33, 34, 35, 36, 37, 38, 39] (by kernel_rfl) (by kernel_rfl) ?_
                      refine index_elem 2 rfl hv i rfl (by omega) ?_
                      refine load_one_elem 2 rfl i (by omega) (u := vs' i) rfl ?_
                      refine index_elem 2 rfl hv s rfl (by omega) ?_
                      refine load_one_elem 2 rfl s (by omega) (u := vs' s) rfl ?_
                      refine index_fam 1 s rfl (by omega) (hvs' s (by omega)) c rfl (by omega) ?_
                      refine load_fam 1 s c rfl (by omega) (by omega) (y s c) ?_ fun u1 => ?_
                      · unfold cellMix; rw [if_pos (by omega), hzs _ _ (by omega)]
                      refine index_elem 2 rfl hv i rfl (by omega) ?_
                      refine load_one_elem 2 rfl i (by omega) (u := vs' i) rfl ?_
                      refine index_fam 1 i rfl (by omega) (hvs' i (by omega)) k' rfl (by omega) ?_
                      refine load_fam 1 i k' rfl (by omega) (by omega) (y i k') ?_ fun u2 => ?_
                      · unfold cellMix; rw [if_neg (by omega), if_neg (by omega)]
                      refine index_elem 2 rfl hv i rfl (by omega) ?_
                      refine load_one_elem 2 rfl i (by omega) (u := vs' i) rfl ?_
                      refine index_fam 1 i rfl (by omega) (hvs' i (by omega)) c rfl (by omega) ?_
                      refine load_fam 1 i c rfl (by omega) (by omega) (y i c) ?_ fun u3 => ?_
                      · unfold cellMix; rw [if_neg (by omega), if_neg (by omega)]
                      refine index_elem 2 rfl hv s rfl (by omega) ?_
                      refine load_one_elem 2 rfl s (by omega) (u := vs' s) rfl ?_
                      refine index_fam 1 s rfl (by omega) (hvs' s (by omega)) k' rfl (by omega) ?_
                      refine load_fam 1 s k' rfl (by omega) (by omega) (y s k') ?_ fun u4 => ?_
                      · unfold cellMix; rw [if_pos (by omega), hzs _ _ (by omega)]
                      refine load_box (d := zd last) 0 rfl hl rfl (load_I _ _) fun w4 => ?_
                      refine call_fn (zMulZ u1 u2 (y s c) (y i k') _ _ y1 y2 (by omega) (by omega)) (Seals.refl _ _) mS ?_
                      rintro w1 _ _ ⟨rfl, rfl⟩
                      refine call_fn (zMulZ u3 u4 (y i c) (y s k') _ _ y3 y4 (by omega) (by omega)) (Seals.refl _ _) mS ?_
                      rintro w2 _ _ ⟨rfl, rfl⟩
                      refine call_fn (zSubZ w1 w2 (y s c * y i k') (y i c * y s k') _ _ (y1.mul y2) (y3.mul y4) (by omega) (by omega)) (Seals.refl _ _) mS ?_
                      rintro w3 _ _ ⟨rfl, rfl⟩
                      refine call_fn (quot_meets w3 w4 (y s c * y i k' - y i c * y s k') last _ _ (sz_sub (y1.mul y2) (y3.mul y4)) hsz.l (by omega) (by omega) hsz.ne) (Seals.refl _ _) mS ?_
                      rintro w5 _ _ ⟨rfl, rfl⟩
                      refine index_fam 1 i rfl (by omega) (hvs' i (by omega)) k' rfl (by omega) ?_
                      refine store_mx 1 i k' rfl (by omega) (by omega) _ (cellMix z y i c (k' + 1)) (Reads.fact mM) (fun a b ha hb => ?_) ?_
                      · unfold cellMix
                        by_cases e : a = i ∧ b = k'
                        · rw [if_pos e, e.1, e.2, if_neg (by omega), if_pos (by omega), ← hz]
                          unfold elim; rw [if_neg (by omega), if_neg (by omega), if_neg (by omega)]
                        · rw [if_neg e]
                          by_cases e1 : a < i
                          · rw [if_pos e1, if_pos e1]
                          · rw [if_neg e1, if_neg e1]
                            by_cases e2 : a = i ∧ c < b ∧ b < k'
                            · rw [if_pos e2, if_pos (by omega)]
                            · rw [if_neg e2, if_neg (by omega)]
                      refine ar rfl mI ?_
                      exact again (k' + 1) ⟨by omega, by omega⟩ (by simp only; omega) mF (Seals.nil _ _)
                    · have hkC : k' = C := by omega
                      refine index_elem 2 rfl hv i rfl (by omega) ?_
                      refine load_one_elem 2 rfl i (by omega) (u := vs' i) rfl ?_
                      refine build0 (da := .one (.bool false)) (db := U (lims 0)) (fun S w => ⟨[.bool false], [.slice none 0 0], rfl, rd_false S w, by rw [lims_zero]; exact rd_nil S w 1 _⟩) fun zz => ?_
                      refine index_fam 1 i rfl (by omega) (hvs' i (by omega)) c rfl (by omega) ?_
                      refine store_mx 1 i c rfl (by omega) (by omega) 0 (rowMix z y (i + 1)) (Reads.fact (d := zd 0) mM) (fun a b ha hb => ?_) ?_
                      · unfold cellMix rowMix
                        by_cases e : a = i ∧ b = c
                        · rw [if_pos e, e.1, e.2, if_pos (by omega), ← hz]
                          unfold elim; rw [if_neg (by omega), if_neg (by omega), if_pos rfl]
                        · rw [if_neg e]
                          by_cases e1 : a < i
                          · rw [if_pos e1, if_pos (by omega)]
                          · rw [if_neg e1]
                            by_cases e2 : a = i ∧ c < b ∧ b < k'
                            · rw [if_pos e2, if_pos (by omega)]
                            · rw [if_neg e2]
                              by_cases e3 : a = i
                              · rw [if_pos (by omega), ← hz]
                                unfold elim; rw [if_neg (by omega), if_pos (by omega)]
                              · rw [if_neg (by omega)]
                      refine ar rfl mI ?_
                      exact again (i + 1) ⟨by omega, by omega⟩ (by simp only; omega) mF (Seals.nil _ _)
                · have hiR : R = i := by omega
                  subst hiR
                  refine index_elem 2 rfl hv s rfl (by omega) ?_
                  refine load_one_elem 2 rfl s (by omega) (u := vs' s) rfl ?_
                  refine index_fam 1 s rfl (by omega) (hvs' s (by omega)) c rfl (by omega) ?_
                  refine load_fam 1 s c rfl (by omega) (by omega) (y s c) ?_ fun u1 => ?_
                  · unfold rowMix; rw [if_pos (by omega), hzs _ _ (by omega)]
                  refine store_box (d := zd (y s c)) 0 rfl hl rfl (by kernel_rfl) ?_ ?_; exact Reads.fact mM
                  refine ar rfl mI ?_
                  refine ar rfl mI ?_
                  refine again (⟨z, y s c, (!odd), s + 1⟩, c + 1, vs') ⟨by simp only; omega, by simp only; omega, hvs', ?_, ?_⟩ (by simp only; omega) mF (Seals.trans (Seals.box0 rfl) (Seals.trans (Seals.famcong (os := [_, _, _, _]) 1 rfl (fun i => i) (fun a ha => ⟨ha, rfl, fun b hb => ?_⟩) fun _ _ _ _ e => e) (Seals.nil _ _)))
                  · exact hstep _
                  · simp only
                    rw [← hod]; exact hfin
                  · unfold rowMix; rw [if_pos ha]
            · refine ord_go [0, 1, 2, 4, 5, 6, 7, 8, 9, 10, 11, 12, 13, 3, 14, 15] (by kernel_rfl) (by kernel_rfl) ?_
              refine index_elem 2 rfl hv s rfl (by omega) ?_
              refine load_one_elem 2 rfl s (by omega) (u := vs s) rfl ?_
              refine index_elem 2 rfl hv p rfl (by omega) ?_
              refine load_one_elem 2 rfl p (by omega) (u := vs p) rfl ?_
              refine index_elem 2 rfl hv p rfl (by omega) ?_
              refine store_elem (d := .one (vs s)) 2 rfl p (by omega) rfl (by kernel_rfl) (Reads.one (hvs s (by omega)).one) ?_
              refine index_elem 2 rfl hv s rfl (by omega) ?_
              refine store_elem (d := .one (vs p)) 2 rfl s (by omega) rfl (by kernel_rfl) (Reads.one (hvs p (by omega)).one) ?_
              have hod : (if p = s then odd else !odd) = (!odd) := by rw [if_neg hps]
              refine ar rfl mI ?_
              refine loop_rule (X := Nat) (fun i => ([(3, o), (5, v'), (6, l), (7, .bool (!odd)), (8, .int .i64 (s : Nat)), (9, .int .i64 (c : Nat)), (11, .int .i64 (i : Nat))], [own1 l 2 1 (fun _ => zd last), famO vs' R C (rowMix z y i), outer v' R vs', own1 o 2 1 (fun _ => I false [])], []))
                (fun i => s + 1 ≤ i ∧ i ≤ R) (fun i => R - i) rfl ?_ ?_
              · exact again (s + 1) ⟨Nat.le_refl _, by omega⟩ trivial mF (Seals.trans (Seals.own_cong (os := [_, _, _, _]) 2 (fun i => .one (vs' i)) rfl rfl fun i _ => by rw [outer_ex hps, hv's]) (Seals.trans (Seals.famcong (os := [_, _, _, _]) 1 rfl (ex s p) hfc fun _ _ _ _ e => ex_inj e) (Seals.nil _ _)))
              · rintro i ⟨hi1, hi2⟩
                refine len_own 2 rfl hv fun _ => ?_
                refine cmp_split _ rfl (fun hi => ?_) (fun hi => ?_)
                · have hiR : i < R := by omega
                  refine ar rfl mI ?_
                  refine loop_rule (X := Nat) (fun k' => ([(3, o), (5, v'), (6, l), (7, .bool (!odd)), (8, .int .i64 (s : Nat)), (9, .int .i64 (c : Nat)), (11, .int .i64 (i : Nat)), (12, .int .i64 (k' : Nat))], [own1 l 2 1 (fun _ => zd last), famO vs' R C (cellMix z y i c k'), outer v' R vs', own1 o 2 1 (fun _ => I false [])], []))
                    (fun k' => c + 1 ≤ k' ∧ k' ≤ C) (fun k' => C - k') rfl ?_ ?_
                  · refine again (c + 1) ⟨Nat.le_refl _, by omega⟩ trivial mF (Seals.famcong (os := [_, _, _, _]) 1 rfl (fun i => i) (fun a ha => ⟨ha, rfl, fun b hb => ?_⟩) fun _ _ _ _ e => e)
                    unfold cellMix rowMix
                    rw [if_neg (show ¬ (a = i ∧ c < b ∧ b < c + 1) by omega)]
                  · rintro k' ⟨hk1, hk2⟩
                    refine index_elem 2 rfl hv 0 rfl (by omega) ?_
                    refine load_one_elem 2 rfl 0 (by omega) (u := vs' 0) rfl ?_
                    refine len_fam 1 0 rfl (by omega) (hvs' 0 (by omega)) fun _ => ?_
                    refine cmp_split _ rfl (fun hc2 => ?_) (fun hc2 => ?_)
                    · have hkC : k' < C := by omega
                      have y1 := hys s c hsR hcC
                      have y2 := hys i k' hiR hkC
                      have y3 := hys i c hiR hcC
                      have y4 := hys s k' hsR hkC
                      refine draw_rule [0, 1, 2, 3, 4, 5, 6, 7, 8, 9, 10, 11, 12, 13, 14, 15, 16, 17, 18, 20, 21, 22, 23, 24, 25, 26, 27, 28, 29, 30, 31, 32, 33, 36, 19, 34, 35, 37, 38, 39] [0, 1, 2, 3, 4, 5, 6, 7, 8, 9, 10, 11, 12, 13, 14, 15, 16, 17, 18, 19, 20, 21, 22, 23, 24, 25, 26, 27, 28, 29, 30, 31, 32, 33, 34, 35, 36, 37, 38, 39] (by kernel_rfl) (by kernel_rfl) ?_
                      refine index_elem 2 rfl hv i rfl (by omega) ?_
                      refine load_one_elem 2 rfl i (by omega) (u := vs' i) rfl ?_
                      refine index_elem 2 rfl hv s rfl (by omega) ?_
                      refine load_one_elem 2 rfl s (by omega) (u := vs' s) rfl ?_
                      refine index_fam 1 s rfl (by omega) (hvs' s (by omega)) c rfl (by omega) ?_
                      refine load_fam 1 s c rfl (by omega) (by omega) (y s c) ?_ fun u1 => ?_
                      · unfold cellMix; rw [if_pos (by omega), hzs _ _ (by omega)]
                      refine index_elem 2 rfl hv i rfl (by omega) ?_
                      refine load_one_elem 2 rfl i (by omega) (u := vs' i) rfl ?_
                      refine index_fam 1 i rfl (by omega) (hvs' i (by omega)) k' rfl (by omega) ?_
                      refine load_fam 1 i k' rfl (by omega) (by omega) (y i k') ?_ fun u2 => ?_
                      · unfold cellMix; rw [if_neg (by omega), if_neg (by omega)]
                      refine index_elem 2 rfl hv i rfl (by omega) ?_
                      refine load_one_elem 2 rfl i (by omega) (u := vs' i) rfl ?_
                      refine index_fam 1 i rfl (by omega) (hvs' i (by omega)) c rfl (by omega) ?_
                      refine load_fam 1 i c rfl (by omega) (by omega) (y i c) ?_ fun u3 => ?_
                      · unfold cellMix; rw [if_neg (by omega), if_neg (by omega)]
                      refine index_elem 2 rfl hv s rfl (by omega) ?_
                      refine load_one_elem 2 rfl s (by omega) (u := vs' s) rfl ?_
                      refine index_fam 1 s rfl (by omega) (hvs' s (by omega)) k' rfl (by omega) ?_
                      refine load_fam 1 s k' rfl (by omega) (by omega) (y s k') ?_ fun u4 => ?_
                      · unfold cellMix; rw [if_pos (by omega), hzs _ _ (by omega)]
                      refine load_box (d := zd last) 0 rfl hl rfl (load_I _ _) fun w4 => ?_
                      refine call_fn (zMulZ u1 u2 (y s c) (y i k') _ _ y1 y2 (by omega) (by omega)) (Seals.refl _ _) mS ?_
                      rintro w1 _ _ ⟨rfl, rfl⟩
                      refine call_fn (zMulZ u3 u4 (y i c) (y s k') _ _ y3 y4 (by omega) (by omega)) (Seals.refl _ _) mS ?_
                      rintro w2 _ _ ⟨rfl, rfl⟩
                      refine call_fn (zSubZ w1 w2 (y s c * y i k') (y i c * y s k') _ _ (y1.mul y2) (y3.mul y4) (by omega) (by omega)) (Seals.refl _ _) mS ?_
                      rintro w3 _ _ ⟨rfl, rfl⟩
                      refine call_fn (quot_meets w3 w4 (y s c * y i k' - y i c * y s k') last _ _ (sz_sub (y1.mul y2) (y3.mul y4)) hsz.l (by omega) (by omega) hsz.ne) (Seals.refl _ _) mS ?_
                      rintro w5 _ _ ⟨rfl, rfl⟩
                      refine index_fam 1 i rfl (by omega) (hvs' i (by omega)) k' rfl (by omega) ?_
                      refine store_mx 1 i k' rfl (by omega) (by omega) _ (cellMix z y i c (k' + 1)) (Reads.fact mM) (fun a b ha hb => ?_) ?_
                      · unfold cellMix
                        by_cases e : a = i ∧ b = k'
                        · rw [if_pos e, e.1, e.2, if_neg (by omega), if_pos (by omega), ← hz]
                          unfold elim; rw [if_neg (by omega), if_neg (by omega), if_neg (by omega)]
                        · rw [if_neg e]
                          by_cases e1 : a < i
                          · rw [if_pos e1, if_pos e1]
                          · rw [if_neg e1, if_neg e1]
                            by_cases e2 : a = i ∧ c < b ∧ b < k'
                            · rw [if_pos e2, if_pos (by omega)]
                            · rw [if_neg e2, if_neg (by omega)]
                      refine ar rfl mI ?_
                      exact again (k' + 1) ⟨by omega, by omega⟩ (by simp only; omega) mF (Seals.nil _ _)
                    · have hkC : k' = C := by omega
                      refine index_elem 2 rfl hv i rfl (by omega) ?_
                      refine load_one_elem 2 rfl i (by omega) (u := vs' i) rfl ?_
                      refine build0 (da := .one (.bool false)) (db := U (lims 0)) (fun S w => ⟨[.bool false], [.slice none 0 0], rfl, rd_false S w, by rw [lims_zero]; exact rd_nil S w 1 _⟩) fun zz => ?_
                      refine index_fam 1 i rfl (by omega) (hvs' i (by omega)) c rfl (by omega) ?_
                      refine store_mx 1 i c rfl (by omega) (by omega) 0 (rowMix z y (i + 1)) (Reads.fact (d := zd 0) mM) (fun a b ha hb => ?_) ?_
                      · unfold cellMix rowMix
                        by_cases e : a = i ∧ b = c
                        · rw [if_pos e, e.1, e.2, if_pos (by omega), ← hz]
                          unfold elim; rw [if_neg (by omega), if_neg (by omega), if_pos rfl]
                        · rw [if_neg e]
                          by_cases e1 : a < i
                          · rw [if_pos e1, if_pos (by omega)]
                          · rw [if_neg e1]
                            by_cases e2 : a = i ∧ c < b ∧ b < k'
                            · rw [if_pos e2, if_pos (by omega)]
                            · rw [if_neg e2]
                              by_cases e3 : a = i
                              · rw [if_pos (by omega), ← hz]
                                unfold elim; rw [if_neg (by omega), if_pos (by omega)]
                              · rw [if_neg (by omega)]
                      refine ar rfl mI ?_
                      exact again (i + 1) ⟨by omega, by omega⟩ (by simp only; omega) mF (Seals.nil _ _)
                · have hiR : R = i := by omega
                  subst hiR
                  refine index_elem 2 rfl hv s rfl (by omega) ?_
                  refine load_one_elem 2 rfl s (by omega) (u := vs' s) rfl ?_
                  refine index_fam 1 s rfl (by omega) (hvs' s (by omega)) c rfl (by omega) ?_
                  refine load_fam 1 s c rfl (by omega) (by omega) (y s c) ?_ fun u1 => ?_
                  · unfold rowMix; rw [if_pos (by omega), hzs _ _ (by omega)]
                  refine store_box (d := zd (y s c)) 0 rfl hl rfl (by kernel_rfl) ?_ ?_; exact Reads.fact mM
                  refine ar rfl mI ?_
                  refine ar rfl mI ?_
                  refine again (⟨z, y s c, (!odd), s + 1⟩, c + 1, vs') ⟨by simp only; omega, by simp only; omega, hvs', ?_, ?_⟩ (by simp only; omega) mF (Seals.trans (Seals.box0 rfl) (Seals.trans (Seals.famcong (os := [_, _, _, _]) 1 rfl (fun i => i) (fun a ha => ⟨ha, rfl, fun b hb => ?_⟩) fun _ _ _ _ e => e) (Seals.nil _ _)))
                  · exact hstep _
                  · simp only
                    rw [← hod]; exact hfin
                  · unfold rowMix; rw [if_pos ha]
          · refine ord_split 3 13 (by kernel_rfl) (by kernel_rfl) (by kernel_rfl) ?_ ?_
            · refine ord_go [0, 1, 3, 4, 5, 6, 7, 8, 9, 10, 11, 12, 13, 2, 14, 15] (by kernel_rfl) (by kernel_rfl) ?_
              refine index_elem 2 rfl hv s rfl (by omega) ?_
              refine load_one_elem 2 rfl s (by omega) (u := vs s) rfl ?_
              refine index_elem 2 rfl hv p rfl (by omega) ?_
              refine load_one_elem 2 rfl p (by omega) (u := vs p) rfl ?_
              refine index_elem 2 rfl hv p rfl (by omega) ?_
              refine store_elem (d := .one (vs s)) 2 rfl p (by omega) rfl (by kernel_rfl) (Reads.one (hvs s (by omega)).one) ?_
              refine index_elem 2 rfl hv s rfl (by omega) ?_
              refine store_elem (d := .one (vs p)) 2 rfl s (by omega) rfl (by kernel_rfl) (Reads.one (hvs p (by omega)).one) ?_
              have hod : (if p = s then odd else !odd) = (!odd) := by rw [if_neg hps]
              refine ar rfl mI ?_
              refine loop_rule (X := Nat) (fun i => ([(3, o), (5, v'), (6, l), (7, .bool (!odd)), (8, .int .i64 (s : Nat)), (9, .int .i64 (c : Nat)), (11, .int .i64 (i : Nat))], [own1 l 2 1 (fun _ => zd last), famO vs' R C (rowMix z y i), outer v' R vs', own1 o 2 1 (fun _ => I false [])], []))
                (fun i => s + 1 ≤ i ∧ i ≤ R) (fun i => R - i) rfl ?_ ?_
              · exact again (s + 1) ⟨Nat.le_refl _, by omega⟩ trivial mF (Seals.trans (Seals.own_cong (os := [_, _, _, _]) 2 (fun i => .one (vs' i)) rfl rfl fun i _ => by rw [outer_ex hps, hv's]) (Seals.trans (Seals.famcong (os := [_, _, _, _]) 1 rfl (ex s p) hfc fun _ _ _ _ e => ex_inj e) (Seals.nil _ _)))
              · rintro i ⟨hi1, hi2⟩
                refine len_own 2 rfl hv fun _ => ?_
                refine cmp_split _ rfl (fun hi => ?_) (fun hi => ?_)
                · have hiR : i < R := by omega
                  refine ar rfl mI ?_
                  refine loop_rule (X := Nat) (fun k' => ([(3, o), (5, v'), (6, l), (7, .bool (!odd)), (8, .int .i64 (s : Nat)), (9, .int .i64 (c : Nat)), (11, .int .i64 (i : Nat)), (12, .int .i64 (k' : Nat))], [own1 l 2 1 (fun _ => zd last), famO vs' R C (cellMix z y i c k'), outer v' R vs', own1 o 2 1 (fun _ => I false [])], []))
                    (fun k' => c + 1 ≤ k' ∧ k' ≤ C) (fun k' => C - k') rfl ?_ ?_
                  · refine again (c + 1) ⟨Nat.le_refl _, by omega⟩ trivial mF (Seals.famcong (os := [_, _, _, _]) 1 rfl (fun i => i) (fun a ha => ⟨ha, rfl, fun b hb => ?_⟩) fun _ _ _ _ e => e)
                    unfold cellMix rowMix
                    rw [if_neg (show ¬ (a = i ∧ c < b ∧ b < c + 1) by omega)]
                  · rintro k' ⟨hk1, hk2⟩
                    refine index_elem 2 rfl hv 0 rfl (by omega) ?_
                    refine load_one_elem 2 rfl 0 (by omega) (u := vs' 0) rfl ?_
                    refine len_fam 1 0 rfl (by omega) (hvs' 0 (by omega)) fun _ => ?_
                    refine cmp_split _ rfl (fun hc2 => ?_) (fun hc2 => ?_)
                    · have hkC : k' < C := by omega
                      have y1 := hys s c hsR hcC
                      have y2 := hys i k' hiR hkC
                      have y3 := hys i c hiR hcC
                      have y4 := hys s k' hsR hkC
                      refine draw_rule [0, 1, 2, 3, 4, 5, 6, 7, 8, 9, 10, 11, 12, 13, 14, 15, 16, 17, 18, 20, 21, 22, 23, 24, 25, 26, 27, 28, 29, 30, 31, 32, 33, 36, 19, 34, 35, 37, 38, 39] [0, 1, 2, 3, 4, 5, 6, 7, 8, 9, 10, 11, 12, 13, 14, 15, 16, 17, 18, 19, 20, 21, 22, 23, 24, 25, 26, 27, 28, 29, 30, 31, 32, 33, 34, 35, 36, 37, 38, 39] (by kernel_rfl) (by kernel_rfl) ?_
                      refine index_elem 2 rfl hv i rfl (by omega) ?_
                      refine load_one_elem 2 rfl i (by omega) (u := vs' i) rfl ?_
                      refine index_elem 2 rfl hv s rfl (by omega) ?_
                      refine load_one_elem 2 rfl s (by omega) (u := vs' s) rfl ?_
                      refine index_fam 1 s rfl (by omega) (hvs' s (by omega)) c rfl (by omega) ?_
                      refine load_fam 1 s c rfl (by omega) (by omega) (y s c) ?_ fun u1 => ?_
                      · unfold cellMix; rw [if_pos (by omega), hzs _ _ (by omega)]
                      refine index_elem 2 rfl hv i rfl (by omega) ?_
                      refine load_one_elem 2 rfl i (by omega) (u := vs' i) rfl ?_
                      refine index_fam 1 i rfl (by omega) (hvs' i (by omega)) k' rfl (by omega) ?_
                      refine load_fam 1 i k' rfl (by omega) (by omega) (y i k') ?_ fun u2 => ?_
                      · unfold cellMix; rw [if_neg (by omega), if_neg (by omega)]
                      refine index_elem 2 rfl hv i rfl (by omega) ?_
                      refine load_one_elem 2 rfl i (by omega) (u := vs' i) rfl ?_
                      refine index_fam 1 i rfl (by omega) (hvs' i (by omega)) c rfl (by omega) ?_
                      refine load_fam 1 i c rfl (by omega) (by omega) (y i c) ?_ fun u3 => ?_
                      · unfold cellMix; rw [if_neg (by omega), if_neg (by omega)]
                      refine index_elem 2 rfl hv s rfl (by omega) ?_
                      refine load_one_elem 2 rfl s (by omega) (u := vs' s) rfl ?_
                      refine index_fam 1 s rfl (by omega) (hvs' s (by omega)) k' rfl (by omega) ?_
                      refine load_fam 1 s k' rfl (by omega) (by omega) (y s k') ?_ fun u4 => ?_
                      · unfold cellMix; rw [if_pos (by omega), hzs _ _ (by omega)]
                      refine load_box (d := zd last) 0 rfl hl rfl (load_I _ _) fun w4 => ?_
                      refine call_fn (zMulZ u1 u2 (y s c) (y i k') _ _ y1 y2 (by omega) (by omega)) (Seals.refl _ _) mS ?_
                      rintro w1 _ _ ⟨rfl, rfl⟩
                      refine call_fn (zMulZ u3 u4 (y i c) (y s k') _ _ y3 y4 (by omega) (by omega)) (Seals.refl _ _) mS ?_
                      rintro w2 _ _ ⟨rfl, rfl⟩
                      refine call_fn (zSubZ w1 w2 (y s c * y i k') (y i c * y s k') _ _ (y1.mul y2) (y3.mul y4) (by omega) (by omega)) (Seals.refl _ _) mS ?_
                      rintro w3 _ _ ⟨rfl, rfl⟩
                      refine call_fn (quot_meets w3 w4 (y s c * y i k' - y i c * y s k') last _ _ (sz_sub (y1.mul y2) (y3.mul y4)) hsz.l (by omega) (by omega) hsz.ne) (Seals.refl _ _) mS ?_
                      rintro w5 _ _ ⟨rfl, rfl⟩
                      refine index_fam 1 i rfl (by omega) (hvs' i (by omega)) k' rfl (by omega) ?_
                      refine store_mx 1 i k' rfl (by omega) (by omega) _ (cellMix z y i c (k' + 1)) (Reads.fact mM) (fun a b ha hb => ?_) ?_
                      · unfold cellMix
                        by_cases e : a = i ∧ b = k'
                        · rw [if_pos e, e.1, e.2, if_neg (by omega), if_pos (by omega), ← hz]
                          unfold elim; rw [if_neg (by omega), if_neg (by omega), if_neg (by omega)]
                        · rw [if_neg e]
                          by_cases e1 : a < i
                          · rw [if_pos e1, if_pos e1]
                          · rw [if_neg e1, if_neg e1]
                            by_cases e2 : a = i ∧ c < b ∧ b < k'
                            · rw [if_pos e2, if_pos (by omega)]
                            · rw [if_neg e2, if_neg (by omega)]
                      refine ar rfl mI ?_
                      exact again (k' + 1) ⟨by omega, by omega⟩ (by simp only; omega) mF (Seals.nil _ _)
                    · have hkC : k' = C := by omega
                      refine index_elem 2 rfl hv i rfl (by omega) ?_
                      refine load_one_elem 2 rfl i (by omega) (u := vs' i) rfl ?_
                      refine build0 (da := .one (.bool false)) (db := U (lims 0)) (fun S w => ⟨[.bool false], [.slice none 0 0], rfl, rd_false S w, by rw [lims_zero]; exact rd_nil S w 1 _⟩) fun zz => ?_
                      refine index_fam 1 i rfl (by omega) (hvs' i (by omega)) c rfl (by omega) ?_
                      refine store_mx 1 i c rfl (by omega) (by omega) 0 (rowMix z y (i + 1)) (Reads.fact (d := zd 0) mM) (fun a b ha hb => ?_) ?_
                      · unfold cellMix rowMix
                        by_cases e : a = i ∧ b = c
                        · rw [if_pos e, e.1, e.2, if_pos (by omega), ← hz]
                          unfold elim; rw [if_neg (by omega), if_neg (by omega), if_pos rfl]
                        · rw [if_neg e]
                          by_cases e1 : a < i
                          · rw [if_pos e1, if_pos (by omega)]
                          · rw [if_neg e1]
                            by_cases e2 : a = i ∧ c < b ∧ b < k'
                            · rw [if_pos e2, if_pos (by omega)]
                            · rw [if_neg e2]
                              by_cases e3 : a = i
                              · rw [if_pos (by omega), ← hz]
                                unfold elim; rw [if_neg (by omega), if_pos (by omega)]
                              · rw [if_neg (by omega)]
                      refine ar rfl mI ?_
                      exact again (i + 1) ⟨by omega, by omega⟩ (by simp only; omega) mF (Seals.nil _ _)
                · have hiR : R = i := by omega
                  subst hiR
                  refine index_elem 2 rfl hv s rfl (by omega) ?_
                  refine load_one_elem 2 rfl s (by omega) (u := vs' s) rfl ?_
                  refine index_fam 1 s rfl (by omega) (hvs' s (by omega)) c rfl (by omega) ?_
                  refine load_fam 1 s c rfl (by omega) (by omega) (y s c) ?_ fun u1 => ?_
                  · unfold rowMix; rw [if_pos (by omega), hzs _ _ (by omega)]
                  refine store_box (d := zd (y s c)) 0 rfl hl rfl (by kernel_rfl) ?_ ?_; exact Reads.fact mM
                  refine ar rfl mI ?_
                  refine ar rfl mI ?_
                  refine again (⟨z, y s c, (!odd), s + 1⟩, c + 1, vs') ⟨by simp only; omega, by simp only; omega, hvs', ?_, ?_⟩ (by simp only; omega) mF (Seals.trans (Seals.box0 rfl) (Seals.trans (Seals.famcong (os := [_, _, _, _]) 1 rfl (fun i => i) (fun a ha => ⟨ha, rfl, fun b hb => ?_⟩) fun _ _ _ _ e => e) (Seals.nil _ _)))
                  · exact hstep _
                  · simp only
                    rw [← hod]; exact hfin
                  · unfold rowMix; rw [if_pos ha]
            · refine ord_go [0, 1, 4, 5, 6, 7, 8, 9, 10, 11, 12, 13, 2, 3, 14, 15] (by kernel_rfl) (by kernel_rfl) ?_
              refine index_elem 2 rfl hv s rfl (by omega) ?_
              refine load_one_elem 2 rfl s (by omega) (u := vs s) rfl ?_
              refine index_elem 2 rfl hv p rfl (by omega) ?_
              refine load_one_elem 2 rfl p (by omega) (u := vs p) rfl ?_
              refine index_elem 2 rfl hv p rfl (by omega) ?_
              refine store_elem (d := .one (vs s)) 2 rfl p (by omega) rfl (by kernel_rfl) (Reads.one (hvs s (by omega)).one) ?_
              refine index_elem 2 rfl hv s rfl (by omega) ?_
              refine store_elem (d := .one (vs p)) 2 rfl s (by omega) rfl (by kernel_rfl) (Reads.one (hvs p (by omega)).one) ?_
              have hod : (if p = s then odd else !odd) = (!odd) := by rw [if_neg hps]
              refine ar rfl mI ?_
              refine loop_rule (X := Nat) (fun i => ([(3, o), (5, v'), (6, l), (7, .bool (!odd)), (8, .int .i64 (s : Nat)), (9, .int .i64 (c : Nat)), (11, .int .i64 (i : Nat))], [own1 l 2 1 (fun _ => zd last), famO vs' R C (rowMix z y i), outer v' R vs', own1 o 2 1 (fun _ => I false [])], []))
                (fun i => s + 1 ≤ i ∧ i ≤ R) (fun i => R - i) rfl ?_ ?_
              · exact again (s + 1) ⟨Nat.le_refl _, by omega⟩ trivial mF (Seals.trans (Seals.own_cong (os := [_, _, _, _]) 2 (fun i => .one (vs' i)) rfl rfl fun i _ => by rw [outer_ex hps, hv's]) (Seals.trans (Seals.famcong (os := [_, _, _, _]) 1 rfl (ex s p) hfc fun _ _ _ _ e => ex_inj e) (Seals.nil _ _)))
              · rintro i ⟨hi1, hi2⟩
                refine len_own 2 rfl hv fun _ => ?_
                refine cmp_split _ rfl (fun hi => ?_) (fun hi => ?_)
                · have hiR : i < R := by omega
                  refine ar rfl mI ?_
                  refine loop_rule (X := Nat) (fun k' => ([(3, o), (5, v'), (6, l), (7, .bool (!odd)), (8, .int .i64 (s : Nat)), (9, .int .i64 (c : Nat)), (11, .int .i64 (i : Nat)), (12, .int .i64 (k' : Nat))], [own1 l 2 1 (fun _ => zd last), famO vs' R C (cellMix z y i c k'), outer v' R vs', own1 o 2 1 (fun _ => I false [])], []))
                    (fun k' => c + 1 ≤ k' ∧ k' ≤ C) (fun k' => C - k') rfl ?_ ?_
                  · refine again (c + 1) ⟨Nat.le_refl _, by omega⟩ trivial mF (Seals.famcong (os := [_, _, _, _]) 1 rfl (fun i => i) (fun a ha => ⟨ha, rfl, fun b hb => ?_⟩) fun _ _ _ _ e => e)
                    unfold cellMix rowMix
                    rw [if_neg (show ¬ (a = i ∧ c < b ∧ b < c + 1) by omega)]
                  · rintro k' ⟨hk1, hk2⟩
                    refine index_elem 2 rfl hv 0 rfl (by omega) ?_
                    refine load_one_elem 2 rfl 0 (by omega) (u := vs' 0) rfl ?_
                    refine len_fam 1 0 rfl (by omega) (hvs' 0 (by omega)) fun _ => ?_
                    refine cmp_split _ rfl (fun hc2 => ?_) (fun hc2 => ?_)
                    · have hkC : k' < C := by omega
                      have y1 := hys s c hsR hcC
                      have y2 := hys i k' hiR hkC
                      have y3 := hys i c hiR hcC
                      have y4 := hys s k' hsR hkC
                      refine draw_rule [0, 1, 2, 3, 4, 5, 6, 7, 8, 9, 10, 11, 12, 13, 14, 15, 16, 17, 18, 20, 21, 22, 23, 24, 25, 26, 27, 28, 29, 30, 31, 32, 33, 36, 19, 34, 35, 37, 38, 39] [0, 1, 2, 3, 4, 5, 6, 7, 8, 9, 10, 11, 12, 13, 14, 15, 16, 17, 18, 19, 20, 21, 22, 23, 24, 25, 26, 27, 28, 29, 30, 31, 32, 33, 34, 35, 36, 37, 38, 39] (by kernel_rfl) (by kernel_rfl) ?_
                      refine index_elem 2 rfl hv i rfl (by omega) ?_
                      refine load_one_elem 2 rfl i (by omega) (u := vs' i) rfl ?_
                      refine index_elem 2 rfl hv s rfl (by omega) ?_
                      refine load_one_elem 2 rfl s (by omega) (u := vs' s) rfl ?_
                      refine index_fam 1 s rfl (by omega) (hvs' s (by omega)) c rfl (by omega) ?_
                      refine load_fam 1 s c rfl (by omega) (by omega) (y s c) ?_ fun u1 => ?_
                      · unfold cellMix; rw [if_pos (by omega), hzs _ _ (by omega)]
                      refine index_elem 2 rfl hv i rfl (by omega) ?_
                      refine load_one_elem 2 rfl i (by omega) (u := vs' i) rfl ?_
                      refine index_fam 1 i rfl (by omega) (hvs' i (by omega)) k' rfl (by omega) ?_
                      refine load_fam 1 i k' rfl (by omega) (by omega) (y i k') ?_ fun u2 => ?_
                      · unfold cellMix; rw [if_neg (by omega), if_neg (by omega)]
                      refine index_elem 2 rfl hv i rfl (by omega) ?_
                      refine load_one_elem 2 rfl i (by omega) (u := vs' i) rfl ?_
                      refine index_fam 1 i rfl (by omega) (hvs' i (by omega)) c rfl (by omega) ?_
                      refine load_fam 1 i c rfl (by omega) (by omega) (y i c) ?_ fun u3 => ?_
                      · unfold cellMix; rw [if_neg (by omega), if_neg (by omega)]
                      refine index_elem 2 rfl hv s rfl (by omega) ?_
                      refine load_one_elem 2 rfl s (by omega) (u := vs' s) rfl ?_
                      refine index_fam 1 s rfl (by omega) (hvs' s (by omega)) k' rfl (by omega) ?_
                      refine load_fam 1 s k' rfl (by omega) (by omega) (y s k') ?_ fun u4 => ?_
                      · unfold cellMix; rw [if_pos (by omega), hzs _ _ (by omega)]
                      refine load_box (d := zd last) 0 rfl hl rfl (load_I _ _) fun w4 => ?_
                      refine call_fn (zMulZ u1 u2 (y s c) (y i k') _ _ y1 y2 (by omega) (by omega)) (Seals.refl _ _) mS ?_
                      rintro w1 _ _ ⟨rfl, rfl⟩
                      refine call_fn (zMulZ u3 u4 (y i c) (y s k') _ _ y3 y4 (by omega) (by omega)) (Seals.refl _ _) mS ?_
                      rintro w2 _ _ ⟨rfl, rfl⟩
                      refine call_fn (zSubZ w1 w2 (y s c * y i k') (y i c * y s k') _ _ (y1.mul y2) (y3.mul y4) (by omega) (by omega)) (Seals.refl _ _) mS ?_
                      rintro w3 _ _ ⟨rfl, rfl⟩
                      refine call_fn (quot_meets w3 w4 (y s c * y i k' - y i c * y s k') last _ _ (sz_sub (y1.mul y2) (y3.mul y4)) hsz.l (by omega) (by omega) hsz.ne) (Seals.refl _ _) mS ?_
                      rintro w5 _ _ ⟨rfl, rfl⟩
                      refine index_fam 1 i rfl (by omega) (hvs' i (by omega)) k' rfl (by omega) ?_
                      refine store_mx 1 i k' rfl (by omega) (by omega) _ (cellMix z y i c (k' + 1)) (Reads.fact mM) (fun a b ha hb => ?_) ?_
                      · unfold cellMix
                        by_cases e : a = i ∧ b = k'
                        · rw [if_pos e, e.1, e.2, if_neg (by omega), if_pos (by omega), ← hz]
                          unfold elim; rw [if_neg (by omega), if_neg (by omega), if_neg (by omega)]
                        · rw [if_neg e]
                          by_cases e1 : a < i
                          · rw [if_pos e1, if_pos e1]
                          · rw [if_neg e1, if_neg e1]
                            by_cases e2 : a = i ∧ c < b ∧ b < k'
                            · rw [if_pos e2, if_pos (by omega)]
                            · rw [if_neg e2, if_neg (by omega)]
                      refine ar rfl mI ?_
                      exact again (k' + 1) ⟨by omega, by omega⟩ (by simp only; omega) mF (Seals.nil _ _)
                    · have hkC : k' = C := by omega
                      refine index_elem 2 rfl hv i rfl (by omega) ?_
                      refine load_one_elem 2 rfl i (by omega) (u := vs' i) rfl ?_
                      refine build0 (da := .one (.bool false)) (db := U (lims 0)) (fun S w => ⟨[.bool false], [.slice none 0 0], rfl, rd_false S w, by rw [lims_zero]; exact rd_nil S w 1 _⟩) fun zz => ?_
                      refine index_fam 1 i rfl (by omega) (hvs' i (by omega)) c rfl (by omega) ?_
                      refine store_mx 1 i c rfl (by omega) (by omega) 0 (rowMix z y (i + 1)) (Reads.fact (d := zd 0) mM) (fun a b ha hb => ?_) ?_
                      · unfold cellMix rowMix
                        by_cases e : a = i ∧ b = c
                        · rw [if_pos e, e.1, e.2, if_pos (by omega), ← hz]
                          unfold elim; rw [if_neg (by omega), if_neg (by omega), if_pos rfl]
                        · rw [if_neg e]
                          by_cases e1 : a < i
                          · rw [if_pos e1, if_pos (by omega)]
                          · rw [if_neg e1]
                            by_cases e2 : a = i ∧ c < b ∧ b < k'
                            · rw [if_pos e2, if_pos (by omega)]
                            · rw [if_neg e2]
                              by_cases e3 : a = i
                              · rw [if_pos (by omega), ← hz]
                                unfold elim; rw [if_neg (by omega), if_pos (by omega)]
                              · rw [if_neg (by omega)]
                      refine ar rfl mI ?_
                      exact again (i + 1) ⟨by omega, by omega⟩ (by simp only; omega) mF (Seals.nil _ _)
                · have hiR : R = i := by omega
                  subst hiR
                  refine index_elem 2 rfl hv s rfl (by omega) ?_
                  refine load_one_elem 2 rfl s (by omega) (u := vs' s) rfl ?_
                  refine index_fam 1 s rfl (by omega) (hvs' s (by omega)) c rfl (by omega) ?_
                  refine load_fam 1 s c rfl (by omega) (by omega) (y s c) ?_ fun u1 => ?_
                  · unfold rowMix; rw [if_pos (by omega), hzs _ _ (by omega)]
                  refine store_box (d := zd (y s c)) 0 rfl hl rfl (by kernel_rfl) ?_ ?_; exact Reads.fact mM
                  refine ar rfl mI ?_
                  refine ar rfl mI ?_
                  refine again (⟨z, y s c, (!odd), s + 1⟩, c + 1, vs') ⟨by simp only; omega, by simp only; omega, hvs', ?_, ?_⟩ (by simp only; omega) mF (Seals.trans (Seals.box0 rfl) (Seals.trans (Seals.famcong (os := [_, _, _, _]) 1 rfl (fun i => i) (fun a ha => ⟨ha, rfl, fun b hb => ?_⟩) fun _ _ _ _ e => e) (Seals.nil _ _)))
                  · exact hstep _
                  · simp only
                    rw [← hod]; exact hfin
                  · unfold rowMix; rw [if_pos ha]
        · have hps : p = s := by omega
          have hod : (if p = s then odd else !odd) = (odd) := by rw [if_pos hps]
          refine ar rfl mI ?_
          refine loop_rule (X := Nat) (fun i => ([(3, o), (5, v'), (6, l), (7, .bool (odd)), (8, .int .i64 (s : Nat)), (9, .int .i64 (c : Nat)), (11, .int .i64 (i : Nat))], [own1 l 2 1 (fun _ => zd last), famO vs' R C (rowMix z y i), outer v' R vs', own1 o 2 1 (fun _ => I false [])], []))
            (fun i => s + 1 ≤ i ∧ i ≤ R) (fun i => R - i) rfl ?_ ?_
          · exact again (s + 1) ⟨Nat.le_refl _, by omega⟩ trivial mF (Seals.trans (Seals.own_cong (os := [_, _, _, _]) 2 (fun i => .one (vs' i)) rfl rfl fun i _ => by rw [hv's, hps, ex_same]) (Seals.trans (Seals.famcong (os := [_, _, _, _]) 1 rfl (ex s p) hfc fun _ _ _ _ e => ex_inj e) (Seals.nil _ _)))
          · rintro i ⟨hi1, hi2⟩
            refine len_own 2 rfl hv fun _ => ?_
            refine cmp_split _ rfl (fun hi => ?_) (fun hi => ?_)
            · have hiR : i < R := by omega
              refine ar rfl mI ?_
              refine loop_rule (X := Nat) (fun k' => ([(3, o), (5, v'), (6, l), (7, .bool (odd)), (8, .int .i64 (s : Nat)), (9, .int .i64 (c : Nat)), (11, .int .i64 (i : Nat)), (12, .int .i64 (k' : Nat))], [own1 l 2 1 (fun _ => zd last), famO vs' R C (cellMix z y i c k'), outer v' R vs', own1 o 2 1 (fun _ => I false [])], []))
                (fun k' => c + 1 ≤ k' ∧ k' ≤ C) (fun k' => C - k') rfl ?_ ?_
              · refine again (c + 1) ⟨Nat.le_refl _, by omega⟩ trivial mF (Seals.famcong (os := [_, _, _, _]) 1 rfl (fun i => i) (fun a ha => ⟨ha, rfl, fun b hb => ?_⟩) fun _ _ _ _ e => e)
                unfold cellMix rowMix
                rw [if_neg (show ¬ (a = i ∧ c < b ∧ b < c + 1) by omega)]
              · rintro k' ⟨hk1, hk2⟩
                refine index_elem 2 rfl hv 0 rfl (by omega) ?_
                refine load_one_elem 2 rfl 0 (by omega) (u := vs' 0) rfl ?_
                refine len_fam 1 0 rfl (by omega) (hvs' 0 (by omega)) fun _ => ?_
                refine cmp_split _ rfl (fun hc2 => ?_) (fun hc2 => ?_)
                · have hkC : k' < C := by omega
                  have y1 := hys s c hsR hcC
                  have y2 := hys i k' hiR hkC
                  have y3 := hys i c hiR hcC
                  have y4 := hys s k' hsR hkC
                  refine draw_rule [0, 1, 2, 3, 4, 5, 6, 7, 8, 9, 10, 11, 12, 13, 14, 15, 16, 17, 18, 20, 21, 22, 23, 24, 25, 26, 27, 28, 29, 30, 31, 32, 33, 36, 19, 34, 35, 37, 38, 39] [0, 1, 2, 3, 4, 5, 6, 7, 8, 9, 10, 11, 12, 13, 14, 15, 16, 17, 18, 19, 20, 21, 22, 23, 24, 25, 26, 27, 28, 29, 30, 31, 32, 33, 34, 35, 36, 37, 38, 39] (by kernel_rfl) (by kernel_rfl) ?_
                  refine index_elem 2 rfl hv i rfl (by omega) ?_
                  refine load_one_elem 2 rfl i (by omega) (u := vs' i) rfl ?_
                  refine index_elem 2 rfl hv s rfl (by omega) ?_
                  refine load_one_elem 2 rfl s (by omega) (u := vs' s) rfl ?_
                  refine index_fam 1 s rfl (by omega) (hvs' s (by omega)) c rfl (by omega) ?_
                  refine load_fam 1 s c rfl (by omega) (by omega) (y s c) ?_ fun u1 => ?_
                  · unfold cellMix; rw [if_pos (by omega), hzs _ _ (by omega)]
                  refine index_elem 2 rfl hv i rfl (by omega) ?_
                  refine load_one_elem 2 rfl i (by omega) (u := vs' i) rfl ?_
                  refine index_fam 1 i rfl (by omega) (hvs' i (by omega)) k' rfl (by omega) ?_
                  refine load_fam 1 i k' rfl (by omega) (by omega) (y i k') ?_ fun u2 => ?_
                  · unfold cellMix; rw [if_neg (by omega), if_neg (by omega)]
                  refine index_elem 2 rfl hv i rfl (by omega) ?_
                  refine load_one_elem 2 rfl i (by omega) (u := vs' i) rfl ?_
                  refine index_fam 1 i rfl (by omega) (hvs' i (by omega)) c rfl (by omega) ?_
                  refine load_fam 1 i c rfl (by omega) (by omega) (y i c) ?_ fun u3 => ?_
                  · unfold cellMix; rw [if_neg (by omega), if_neg (by omega)]
                  refine index_elem 2 rfl hv s rfl (by omega) ?_
                  refine load_one_elem 2 rfl s (by omega) (u := vs' s) rfl ?_
                  refine index_fam 1 s rfl (by omega) (hvs' s (by omega)) k' rfl (by omega) ?_
                  refine load_fam 1 s k' rfl (by omega) (by omega) (y s k') ?_ fun u4 => ?_
                  · unfold cellMix; rw [if_pos (by omega), hzs _ _ (by omega)]
                  refine load_box (d := zd last) 0 rfl hl rfl (load_I _ _) fun w4 => ?_
                  refine call_fn (zMulZ u1 u2 (y s c) (y i k') _ _ y1 y2 (by omega) (by omega)) (Seals.refl _ _) mS ?_
                  rintro w1 _ _ ⟨rfl, rfl⟩
                  refine call_fn (zMulZ u3 u4 (y i c) (y s k') _ _ y3 y4 (by omega) (by omega)) (Seals.refl _ _) mS ?_
                  rintro w2 _ _ ⟨rfl, rfl⟩
                  refine call_fn (zSubZ w1 w2 (y s c * y i k') (y i c * y s k') _ _ (y1.mul y2) (y3.mul y4) (by omega) (by omega)) (Seals.refl _ _) mS ?_
                  rintro w3 _ _ ⟨rfl, rfl⟩
                  refine call_fn (quot_meets w3 w4 (y s c * y i k' - y i c * y s k') last _ _ (sz_sub (y1.mul y2) (y3.mul y4)) hsz.l (by omega) (by omega) hsz.ne) (Seals.refl _ _) mS ?_
                  rintro w5 _ _ ⟨rfl, rfl⟩
                  refine index_fam 1 i rfl (by omega) (hvs' i (by omega)) k' rfl (by omega) ?_
                  refine store_mx 1 i k' rfl (by omega) (by omega) _ (cellMix z y i c (k' + 1)) (Reads.fact mM) (fun a b ha hb => ?_) ?_
                  · unfold cellMix
                    by_cases e : a = i ∧ b = k'
                    · rw [if_pos e, e.1, e.2, if_neg (by omega), if_pos (by omega), ← hz]
                      unfold elim; rw [if_neg (by omega), if_neg (by omega), if_neg (by omega)]
                    · rw [if_neg e]
                      by_cases e1 : a < i
                      · rw [if_pos e1, if_pos e1]
                      · rw [if_neg e1, if_neg e1]
                        by_cases e2 : a = i ∧ c < b ∧ b < k'
                        · rw [if_pos e2, if_pos (by omega)]
                        · rw [if_neg e2, if_neg (by omega)]
                  refine ar rfl mI ?_
                  exact again (k' + 1) ⟨by omega, by omega⟩ (by simp only; omega) mF (Seals.nil _ _)
                · have hkC : k' = C := by omega
                  refine index_elem 2 rfl hv i rfl (by omega) ?_
                  refine load_one_elem 2 rfl i (by omega) (u := vs' i) rfl ?_
                  refine build0 (da := .one (.bool false)) (db := U (lims 0)) (fun S w => ⟨[.bool false], [.slice none 0 0], rfl, rd_false S w, by rw [lims_zero]; exact rd_nil S w 1 _⟩) fun zz => ?_
                  refine index_fam 1 i rfl (by omega) (hvs' i (by omega)) c rfl (by omega) ?_
                  refine store_mx 1 i c rfl (by omega) (by omega) 0 (rowMix z y (i + 1)) (Reads.fact (d := zd 0) mM) (fun a b ha hb => ?_) ?_
                  · unfold cellMix rowMix
                    by_cases e : a = i ∧ b = c
                    · rw [if_pos e, e.1, e.2, if_pos (by omega), ← hz]
                      unfold elim; rw [if_neg (by omega), if_neg (by omega), if_pos rfl]
                    · rw [if_neg e]
                      by_cases e1 : a < i
                      · rw [if_pos e1, if_pos (by omega)]
                      · rw [if_neg e1]
                        by_cases e2 : a = i ∧ c < b ∧ b < k'
                        · rw [if_pos e2, if_pos (by omega)]
                        · rw [if_neg e2]
                          by_cases e3 : a = i
                          · rw [if_pos (by omega), ← hz]
                            unfold elim; rw [if_neg (by omega), if_pos (by omega)]
                          · rw [if_neg (by omega)]
                  refine ar rfl mI ?_
                  exact again (i + 1) ⟨by omega, by omega⟩ (by simp only; omega) mF (Seals.nil _ _)
            · have hiR : R = i := by omega
              subst hiR
              refine index_elem 2 rfl hv s rfl (by omega) ?_
              refine load_one_elem 2 rfl s (by omega) (u := vs' s) rfl ?_
              refine index_fam 1 s rfl (by omega) (hvs' s (by omega)) c rfl (by omega) ?_
              refine load_fam 1 s c rfl (by omega) (by omega) (y s c) ?_ fun u1 => ?_
              · unfold rowMix; rw [if_pos (by omega), hzs _ _ (by omega)]
              refine store_box (d := zd (y s c)) 0 rfl hl rfl (by kernel_rfl) ?_ ?_; exact Reads.fact mM
              refine ar rfl mI ?_
              refine ar rfl mI ?_
              refine again (⟨z, y s c, (odd), s + 1⟩, c + 1, vs') ⟨by simp only; omega, by simp only; omega, hvs', ?_, ?_⟩ (by simp only; omega) mF (Seals.trans (Seals.box0 rfl) (Seals.trans (Seals.famcong (os := [_, _, _, _]) 1 rfl (fun i => i) (fun a ha => ⟨ha, rfl, fun b hb => ?_⟩) fun _ _ _ _ e => e) (Seals.nil _ _)))
              · exact hstep _
              · simp only
                rw [← hod]; exact hfin
              · unfold rowMix; rw [if_pos ha]
end Go.Proofs.Ytabdfhdddmbmlaa

namespace Go.Proofs.Ytabdfhdddmbmlaa
open Go.RowKit
theorem mdet_meets (v : Value) (m : List Row) (k : Nat) (hr : square m) (hf : Fits k m) (lm : m.length ≤ 1048576) (hk : Eb k m.length ≤ 17179869184) :
    Meets Try.prog 58 [v] [(v, W m)] (fun r os fs => os = [] ∧ fs = [(r, zd (det m.length (mx (ww m))))]) := by
  have hsq := hr.2
  refine meets_of_vc Try.func58 (by kernel_rfl) rfl (by kernel_rfl) (Nat.le_of_ble_eq_true rfl) ?_
  refine alloc_rule (d := I false []) fun o ho => ?_
  refine call_fn (bareiss_meets v m k hr.1 hf lm (by omega) (by rw [← hsq]; exact hk)) (Seals.refl _ _) mS ?_
  rintro _ _ _ ⟨rfl, hsz, q, rfl, rfl⟩
  rw [← hsq] at hsz ⊢
  have hd := bar_det m.length (mx (ww m))
  generalize bar m.length m.length (mx (ww m)) = st at *
  refine alloc_rule (d := I false []) fun l hl => ?_
  refine store_box (d := zd st.last) 0 rfl hl rfl (by kernel_rfl) ?_ ?_; exact Reads.fact mM
  refine len_fact mM fun _ => ?_
  refine cmp_split _ rfl (fun hlt => ?_) (fun hlt => ?_)
  · rw [if_pos (by omega)] at hd
    refine build0 (da := .one (.bool false)) (db := U (lims 0)) (fun S w => ⟨[.bool false], [.slice none 0 0], rfl, rd_false S w, by rw [lims_zero]; exact rd_nil S w 1 _⟩) fun z => ?_
    refine store_box (d := zd 0) 1 rfl ho rfl (by kernel_rfl) ?_ ?_; exact Reads.fact mM
    refine load_box (d := zd 0) 1 rfl ho rfl (load_I _ _) fun r => ?_
    rw [hd]
    exact fin ⟨rfl, rfl⟩ (Seals.trans (Seals.drop 0 _ _) (Seals.trans (Seals.drop 0 _ _) (Seals.sub mS)))
  · rw [if_neg (by omega)] at hd
    cases hodd : st.odd with
    | true =>
      rw [hodd, if_pos rfl] at hd
      refine load_box (d := zd st.last) 0 rfl hl rfl (load_I _ _) fun u => ?_
      refine call_fn (zNegZ u st.last _ hsz (by omega)) (Seals.refl _ _) mS ?_
      rintro w _ _ ⟨rfl, rfl⟩
      refine store_box (d := zd (-st.last)) 1 rfl ho rfl (by kernel_rfl) ?_ ?_; exact Reads.fact mM
      refine load_box (d := zd (-st.last)) 1 rfl ho rfl (load_I _ _) fun r => ?_
      rw [hd]
      exact fin ⟨rfl, rfl⟩ (Seals.trans (Seals.drop 0 _ _) (Seals.trans (Seals.drop 0 _ _) (Seals.sub mS)))
    | false =>
      rw [hodd, if_neg (by simp)] at hd
      refine load_box (d := zd st.last) 0 rfl hl rfl (load_I _ _) fun u => ?_
      refine call_fn (zNormZ u st.last _ hsz (by omega)) (Seals.refl _ _) mS ?_
      rintro w _ _ ⟨rfl, rfl⟩
      refine store_box (d := zd st.last) 1 rfl ho rfl (by kernel_rfl) ?_ ?_; exact Reads.fact mM
      refine load_box (d := zd st.last) 1 rfl ho rfl (load_I _ _) fun r => ?_
      rw [hd]
      exact fin ⟨rfl, rfl⟩ (Seals.trans (Seals.drop 0 _ _) (Seals.trans (Seals.drop 0 _ _) (Seals.sub mS)))
theorem mDet_meets (v : Value) (m : List Row) (k : Nat) (hf : Fits k m) (lm : m.length ≤ 1048576) (hk : Eb k m.length ≤ 17179869184) :
    Meets Try.prog 29 [v] [(v, W m)] (fun r os fs => os = [] ∧ ∃ q, r = .tuple #[q, .int .i64 (if square m then 0 else 1)] ∧ fs = [(q, zd (if square m then det m.length (mx (ww m)) else 0))]) := by
  refine meets_of_vc Try.func29 (by kernel_rfl) rfl (by kernel_rfl) (Nat.le_of_ble_eq_true rfl) ?_
  refine alloc_rule (d := I false []) fun o ho => ?_
  refine call_fn (mSquare_meets v m) (Seals.refl _ _) mS ?_
  rintro _ _ _ ⟨rfl, rfl, rfl⟩
  by_cases hs : square m
  · rw [decide_eq_true hs, if_pos hs, if_pos hs]
    refine call_fn (mdet_meets v m k hs hf lm hk) (Seals.refl _ _) mS ?_
    rintro w _ _ ⟨rfl, rfl⟩
    refine store_box (d := zd (det m.length (mx (ww m)))) 0 rfl ho rfl (by kernel_rfl) ?_ ?_; exact Reads.fact mM
    refine load_box (d := zd (det m.length (mx (ww m)))) 0 rfl ho rfl (load_I _ _) fun r => ?_
    exact fin ⟨rfl, r, rfl, rfl⟩ (Seals.trans (Seals.drop 0 _ _) (Seals.sub mS))
  · rw [decide_eq_false hs, if_neg hs, if_neg hs]
    refine build0 (da := .one (.bool false)) (db := U (lims 0)) (fun S w => ⟨[.bool false], [.slice none 0 0], rfl, rd_false S w, by rw [lims_zero]; exact rd_nil S w 1 _⟩) fun z => ?_
    refine store_box (d := zd 0) 0 rfl ho rfl (by kernel_rfl) ?_ ?_; exact Reads.fact mM
    refine load_box (d := zd 0) 0 rfl ho rfl (load_I _ _) fun r => ?_
    exact fin ⟨rfl, r, rfl, rfl⟩ (Seals.trans (Seals.drop 0 _ _) (Seals.sub mS))
end Go.Proofs.Ytabdfhdddmbmlaa

namespace Go.Proofs.Ytabdfhdddmbmlaa
open Go.RowKit
theorem info_n : (Try.prog.info? 3).map (fun i => (i.zero, i.size, i.bytes)) = some (some (.int .i64 0), 1, 8) := by kernel_rfl
instance tzN : TZero Try.prog 3 (.one (.int .i64 0)) := tzero info_n fun _ _ => ⟨rfl, rfl⟩
/-- A matrix, told: square and fitting. -/
theorem matL_square {n : Nat} (x : Mx) (h : 0 < n) : square ((matL n n x).map (·.map cn)) := by
  have hl : ((matL n n x).map (·.map cn)).length = n := by rw [List.length_map, matL_len]
  have hr : ∀ r, r ∈ (matL n n x).map (·.map cn) → r.length = n := fun r hr => by
    obtain ⟨r', h1, rfl⟩ := List.mem_map.1 hr
    obtain ⟨i, _, rfl⟩ := List.mem_map.1 h1
    simp
  have h0 : (((matL n n x).map (·.map cn)).getD 0 []).length = n := hr _ (getD_mem [] (by omega))
  exact ⟨⟨by omega, fun r h => by rw [hr r h, h0]; exact ⟨by omega, rfl⟩⟩, by rw [hl, h0]⟩
theorem matL_fits {R C k : Nat} {x : Mx} (h : ∀ i j, i < R → j < C → sz (x i j) k) : Fits k ((matL R C x).map (·.map cn)) := fun r hr => by
  obtain ⟨r', h1, rfl⟩ := List.mem_map.1 hr
  obtain ⟨i, h2, rfl⟩ := List.mem_map.1 h1
  refine Fit_cn fun y hy => ?_
  obtain ⟨j, h3, rfl⟩ := List.mem_map.1 hy
  exact h i j (List.mem_range.1 h2) (List.mem_range.1 h3)
theorem matL_mx {R C i j : Nat} (x : Mx) (hi : i < R) (hj : j < C) : mx (ww ((matL R C x).map (·.map cn))) i j = x i j := by
  rw [ww_cn]; exact matL_at x hi hj
/-- The determinant of a matrix of one's own making. -/
theorem mdet_of (v : Value) (n k : Nat) (x : Mx) (h0 : 0 < n) (hx : ∀ i j, i < n → j < n → sz (x i j) k) (hn : n ≤ 1048576) (hk : Eb k n ≤ 17179869184) :
    Meets Try.prog 58 [v] [(v, wd (matL n n x))] (fun r os fs => os = [] ∧ fs = [(r, zd (det n x))]) := by
  have hl : ((matL n n x).map (·.map cn)).length = n := by rw [List.length_map, matL_len]
  have h := mdet_meets v ((matL n n x).map (·.map cn)) k (matL_square x h0) (matL_fits hx) (by omega) (by rw [hl]; exact hk)
  rw [hl, det_congr (B := x) fun i j hi hj => matL_mx x hi hj] at h
  exact h
/-- A sum of n products' size: the determinant's. -/
theorem det_sz : ∀ (n : Nat) {x : Mx} {k : Nat}, n < 1048576 → (∀ i j, i < n → j < n → sz (x i j) k) → sz (det n x) ((k + 1) * n + 1)
  | 0, x, k, _, _ => by unfold det; exact Nat.lt_of_lt_of_le (show (1 : Int).natAbs < 18446744073709551616 ^ 1 by decide) (Nat.pow_le_pow_right (by decide) (by omega))
  | n + 1, x, k, hn, h => by
    unfold det
    refine (isum_sz (e := k + ((k + 1) * n + 1)) (fun i hi => sg_sz i (sz.mul (h i 0 hi (by omega)) (det_sz n (by omega) fun a b ha hb => h _ _ (sk_lt ha) (sk_lt hb)))) (by omega)).mono ?_
    rw [Nat.mul_add]; omega
end Go.Proofs.Ytabdfhdddmbmlaa

namespace Go.Proofs.Ytabdfhdddmbmlaa
open Go.RowKit
theorem solAt_meets (pc pb pa : Value) (m : List Row) (b : Row) (c i j : Nat) (hi : i < m.length) (hj : j < (m.getD i []).length) (hb : i < b.length) :
    Meets Try.prog 72 [.int .i64 (i : Nat), .int .i64 (j : Nat), pc, pb, pa] [(pc, .ptr (.one (.int .i64 (c : Nat)))), (pb, .ptr (V b)), (pa, .ptr (W m))]
      (fun r os fs => os = [] ∧ fs = [(r, J (if j = c then b.getD i z0 else (m.getD i []).getD j z0))]) := by
  refine meets_of_vc Try.func72 (by kernel_rfl) rfl (by kernel_rfl) (Nat.le_of_ble_eq_true rfl) ?_
  refine alloc_rule (d := I false []) fun o ho => ?_
  refine load_one (u := .int .i64 (c : Nat)) mM ?_
  refine cmp_split _ rfl (fun h => ?_) (fun h => ?_)
  · rw [if_pos (by omega)]
    refine load_fact (d := V b) mM (load_V _) fun x1 => ?_
    refine index_fact mM i rfl hb fun a1 => ?_
    refine load_fact (d := J (b.getD i z0)) mM (load_J _) fun x2 => ?_
    refine store_box (d := J (b.getD i z0)) 0 rfl ho rfl (by kernel_rfl) ?_ ?_; exact Reads.fact mM
    refine load_box (d := J (b.getD i z0)) 0 rfl ho rfl (load_J _) fun r => ?_
    exact fin ⟨rfl, rfl⟩ (Seals.trans (Seals.drop 0 _ _) (Seals.sub mS))
  · rw [if_neg (by omega)]
    refine load_fact (d := W m) mM (load_W _) fun x1 => ?_
    refine index_fact mM i rfl hi fun a1 => ?_
    refine load_fact (d := V (m.getD i [])) mM (load_V _) fun x2 => ?_
    refine index_fact mM j rfl hj fun a2 => ?_
    refine load_fact (d := J ((m.getD i []).getD j z0)) mM (load_J _) fun x3 => ?_
    refine store_box (d := J ((m.getD i []).getD j z0)) 0 rfl ho rfl (by kernel_rfl) ?_ ?_; exact Reads.fact mM
    refine load_box (d := J ((m.getD i []).getD j z0)) 0 rfl ho rfl (load_J _) fun r => ?_
    exact fin ⟨rfl, rfl⟩ (Seals.trans (Seals.drop 0 _ _) (Seals.sub mS))
/-- What solves, its divisor, what is told. -/
def msolve (m : List Row) (b : Row) : List Int × Int × Int :=
  if ¬ (square m ∧ b.length = m.length) then ([], 0, 1)
  else if det m.length (mx (ww m)) = 0 then ([], 0, 8)
  else ((List.range m.length).map fun c => det m.length (cw (mx (ww m)) c fun i => (vv b).getD i 0), det m.length (mx (ww m)), 0)
theorem Eb_lin (k : Nat) : ∀ c, (k + 1) * (c + 1) ≤ Eb k c := fun c => by
  induction c with
  | zero => simp [Eb]
  | succ c ih => simp only [Eb]; rw [Nat.mul_add]; have : k + 1 ≤ (k + 1) * (c + 1) := Nat.le_mul_of_pos_right _ (by omega); omega
theorem Knw.vd_of {os : List Own} {fs : List Fact} {v : Value} {n : Nat} {g : Nat → Int} (h : Knw os fs v (.sl 2 n fun i => J ((((List.range n).map g).map cn).getD i z0))) : Knw os fs v (vd ((List.range n).map g)) :=
  h.cast (by unfold vd V LD; simp)
end Go.Proofs.Ytabdfhdddmbmlaa

namespace Go.Proofs.Ytabdfhdddmbmlaa
open Go.RowKit
end Go.Proofs.Ytabdfhdddmbmlaa

namespace Go.Proofs.Ytabdfhdddmbmlaa
open Go.RowKit
end Go.Proofs.Ytabdfhdddmbmlaa

namespace Go.Proofs.Ytabdfhdddmbmlaa
open Go.RowKit
/-- Whatever order is drawn, it comes to one of the states of I; from these it goes on. -/
theorem draw_join {P : Program} {N id : Nat} {L : List Oper} {f : Fr} {os : List Own} {fs : List Fact} {K : Next1} {X : Type} (I : X → Fr × List Own × List Fact) (ok : X → Prop)
    (h : DrawK P N id L f os fs fun f os fs => AtK I ok f os fs fun _ => True) (k : ∀ x, ok x → K (I x).1 (I x).2.1 (I x).2.2) : DrawK P N id L f os fs K := by
  refine ⟨fun G Q hQ a w hk hw => ?_⟩
  let Q' : Post := fun e => match e with
    | .normal => fun f os fs => AtK I ok f os fs fun _ => True
    | e => Q e
  refine wp_mono (h.out G Q' rfl a w hk hw) ?_
  rintro e a' w' ⟨f', os', fs', hk', hw', hq⟩
  cases e with
  | normal =>
    obtain ⟨⟨x, hx, _, g1, g2⟩⟩ := hq
    exact ⟨_, _, _, hk'.sub g1, g2 G w' hw', by rw [hQ]; exact k x hx⟩
  | exit id => exact ⟨f', os', fs', hk', hw', hq⟩
  | goto l => exact ⟨f', os', fs', hk', hw', hq⟩
  | ret => exact ⟨f', os', fs', hk', hw', hq⟩
  | panic ch => exact ⟨f', os', fs', hk', hw', hq⟩
  | outgrown => exact ⟨f', os', fs', hk', hw', hq⟩
end Go.Proofs.Ytabdfhdddmbmlaa

namespace Go.Proofs.Ytabdfhdddmbmlaa
open Go.RowKit
theorem get_cn (m : List (List Int)) (i : Nat) : ((m.map (·.map cn)).getD i []) = (m.getD i []).map cn := by
  by_cases h : i < m.length
  · simp [List.getD_eq_getElem?_getD, h]
  · simp [List.getD_eq_getElem?_getD, h]
theorem right_cn (m : List (List Int)) : right (m.map (·.map cn)) ↔ right m := by
  unfold right
  rw [List.length_map, get_cn, List.length_map]
  constructor
  · rintro ⟨h1, h2⟩
    exact ⟨h1, fun r hr => by have := h2 _ (List.mem_map.2 ⟨r, hr, rfl⟩); rwa [List.length_map] at this⟩
  · rintro ⟨h1, h2⟩
    refine ⟨h1, fun r hr => ?_⟩
    obtain ⟨r', hr', rfl⟩ := List.mem_map.1 hr
    rw [List.length_map]; exact h2 r' hr'
/-- All numbers are of at most e limbs. -/
def szM (e : Nat) (m : List (List Int)) : Prop := ∀ r, r ∈ m → ∀ x, x ∈ r → sz x e
def szR (e : Nat) (l : List Int) : Prop := ∀ x, x ∈ l → sz x e
theorem szM.fits {e : Nat} {m : List (List Int)} (h : szM e m) : Fits e (m.map (·.map cn)) := fun r hr => by
  obtain ⟨r', hr', rfl⟩ := List.mem_map.1 hr
  exact Fit_cn fun x hx => h r' hr' x hx
-- Told matrices.
theorem exactW (v w : Value) (x y : Int) : Meets Try.prog 15 [v, w] [(v, zd x), (w, zd y)] (fun r os fs => os = [] ∧ fs = [] ∧ r = .bool (decide (x = y))) := by
  have h := exact_meets v w (cn x) (cn y)
  have e : (cn x = cn y) ↔ x = y := ⟨fun h => by rw [← jv_cn x, h, jv_cn], fun h => by rw [h]⟩
  rw [decide_eq_decide.2 e] at h
  exact h
theorem map_cn_inj {l m : List Int} : l.map cn = m.map cn ↔ l = m := ⟨fun h => by rw [← vv_cn l, h, vv_cn], fun h => by rw [h]⟩
theorem mapm_cn_inj {l m : List (List Int)} : l.map (·.map cn) = m.map (·.map cn) ↔ l = m := ⟨fun h => by rw [← ww_cn l, h, ww_cn], fun h => by rw [h]⟩
theorem exactAllW (v w : Value) (x y : List Int) : Meets Try.prog 24 [v, w] [(v, vd x), (w, vd y)] (fun r os fs => os = [] ∧ fs = [] ∧ r = .bool (decide (x = y))) := by
  have h := exactAll_meets v w (x.map cn) (y.map cn)
  rw [decide_eq_decide.2 map_cn_inj] at h
  exact h
/-- Small numbers. -/
def IL (l : List Int) : Dat := .sl 1 l.length fun i => .one (.int .i64 (l.getD i 0))
theorem lit_IL {P : Program} {t e : TypeId} {os : List Own} {fs : List Fact} {K : Cont} [ht : TSl P t e 1] [he : TEl P e 1 8] {n : Nat} (l : List Int) {ps : List (Nat × Value)} (hps : ps = enumP 0 (l.map fun x => Value.int .i64 x)) (hn : n = l.length) (hl : l.length ≤ 1000) (k : ∀ v, K v os ((v, IL l) :: fs)) :
    BuildSliceK P t n ps os fs K := by
  have hr : ∀ l : List Int, ReadsAll os fs 1 (l.map fun x => Value.int .i64 x) (l.map fun x => Dat.one (.int .i64 x)) := fun l => by
    induction l with
    | nil => trivial
    | cons x l ih => exact ⟨Reads.one rfl, rfl, ih⟩
  have h1 := buildSlice_fact (P := P) (t := t) (os := os) (fs := fs) (K := fun u os' fs' => ∃ os'' fs'', Seals os' fs' os'' fs'' ∧ K u os'' fs'') (n := n) (l.map fun x => Value.int .i64 x) (l.map fun x => Dat.one (.int .i64 x)) hps (by rw [hn, List.length_map]) (by omega) (by decide) (hr l)
  refine ⟨Grw.sealed (h1 fun v => ⟨_, _, ?_, k v⟩).out⟩
  exact Seals.knw_cong hn fun i hi => by
    have hi' : i < l.length := by omega
    simp [List.getD_eq_getElem?_getD, hi']
end Go.Proofs.Ytabdfhdddmbmlaa

namespace Go.Proofs.Ytabdfhdddmbmlaa
-- The rank.
def at' (S : List (List Int)) (j k : Nat) : Int := (S.getD j []).getD k 0
/-- Steps: each begins where those behind it have a nought. -/
structure Steps (C : Nat) (S : List (List Int)) : Prop where
  len : ∀ s, s ∈ S → s.length = C
  lead : ∀ s, s ∈ S → lead0 s < C
  stair : ∀ i j, i < j → j < S.length → at' S j (lead0 (S.getD i [])) = 0
theorem lead0_ne {l : List Int} (h : lead0 l < l.length) : l.getD (lead0 l) 0 ≠ 0 := by
  induction l with
  | nil => simp at h
  | cons x l ih =>
    unfold lead0 at h ⊢
    by_cases hx : x = 0
    · simp only [hx, if_true] at h ⊢
      rw [List.getD_cons_succ]
      exact ih (by simpa using h)
    · simp only [hx, if_false]
      simpa using hx
theorem lead0_all {l : List Int} (h : lead0 l = l.length) (k : Nat) : l.getD k 0 = 0 := by
  induction l generalizing k with
  | nil => simp
  | cons x l ih =>
    unfold lead0 at h
    by_cases hx : x = 0
    · simp only [hx, if_true, List.length_cons] at h
      cases k with
      | zero => simpa using hx
      | succ k => rw [List.getD_cons_succ]; exact ih (by omega) k
    · simp [hx] at h
theorem at_snoc_lt {S : List (List Int)} {s : List Int} {j : Nat} (h : j < S.length) : (S ++ [s]).getD j [] = S.getD j [] := by
  simp [List.getD_eq_getElem?_getD, List.getElem?_append_left h]
theorem at_snoc_eq (S : List (List Int)) (s : List Int) : (S ++ [s]).getD S.length [] = s := by
  simp [List.getD_eq_getElem?_getD]
theorem Steps.init {C : Nat} {S : List (List Int)} {s : List Int} (h : Steps C (S ++ [s])) : Steps C S :=
  ⟨fun x hx => h.len x (by simp [hx]), fun x hx => h.lead x (by simp [hx]), fun i j hij hj => by
    have := h.stair i j hij (by simp; omega)
    unfold at' at this ⊢
    rwa [at_snoc_lt hj, at_snoc_lt (by omega)] at this⟩
theorem dep_snoc (S : List (List Int)) (s r : List Int) : dep (S ++ [s]) r = red1 s (dep S r) := by
  unfold dep; rw [List.foldl_append]; rfl
theorem dep_len (S : List (List Int)) (r : List Int) : (dep S r).length = r.length := by
  unfold dep
  induction S generalizing r with
  | nil => rfl
  | cons s S ih => rw [List.foldl_cons, ih, red1_len]
theorem dep_spec {C : Nat} (r : List Int) (hr : r.length = C) : ∀ (n : Nat) (S : List (List Int)), S.length = n → Steps C S →
    (∃ D : Int, D ≠ 0 ∧ ∃ g : Nat → Int, ∀ k, k < C → (dep S r).getD k 0 = D * r.getD k 0 - isum (fun j => g j * at' S j k) S.length) ∧ ∀ j, j < S.length → (dep S r).getD (lead0 (S.getD j [])) 0 = 0
  | 0, S, hn, _ => by
    have : S = [] := List.eq_nil_of_length_eq_zero hn
    subst this
    exact ⟨⟨1, by decide, fun _ => 0, fun k _ => by simp [dep, isum]⟩, fun j hj => by simp at hj⟩
  | n + 1, S, hn, hS => by
    obtain ⟨S', s, rfl⟩ : ∃ S' s, S = S' ++ [s] := by
      refine ⟨S.dropLast, S.getLast (by intro e; simp [e] at hn), ?_⟩
      rw [List.dropLast_concat_getLast]
    have hn' : S'.length = n := by simpa using hn
    obtain ⟨⟨D, hD, g, hg⟩, hz⟩ := dep_spec r hr n S' hn' hS.init
    have hs : s.length = C := hS.len s (by simp)
    have hl : lead0 s < C := hS.lead s (by simp)
    have hsp : s.getD (lead0 s) 0 ≠ 0 := lead0_ne (by omega)
    have hdl : (dep S' r).length = C := by rw [dep_len, hr]
    rw [dep_snoc]
    constructor
    · refine ⟨s.getD (lead0 s) 0 * D, Int.mul_ne_zero hsp hD, fun j => if j = S'.length then (dep S' r).getD (lead0 s) 0 else s.getD (lead0 s) 0 * g j, fun k hk => ?_⟩
      rw [red1_get _ _ (by omega), hg k hk, List.length_append, List.length_singleton, isum]
      have e1 : at' (S' ++ [s]) S'.length k = s.getD k 0 := by unfold at'; rw [at_snoc_eq]
      have e2 : isum (fun j => (if j = S'.length then (dep S' r).getD (lead0 s) 0 else s.getD (lead0 s) 0 * g j) * at' (S' ++ [s]) j k) S'.length = s.getD (lead0 s) 0 * isum (fun j => g j * at' S' j k) S'.length := by
        rw [← isum_mul]
        refine isum_congr fun j hj => ?_
        rw [if_neg (by omega)]
        unfold at'
        rw [at_snoc_lt hj, Int.mul_assoc]
      rw [e2, e1]
      simp only [if_true]
      grind
    · intro j hj
      rw [List.length_append, List.length_singleton] at hj
      by_cases e : j = S'.length
      · rw [e, at_snoc_eq, red1_get s (dep S' r) (k := lead0 s) (by omega)]
        grind
      · have hj' : j < S'.length := by omega
        have hlj : lead0 (S'.getD j []) < C := hS.lead _ (List.mem_append.2 (.inl (getD_mem [] hj')))
        have hst := hS.stair j S'.length hj' (by simp)
        unfold at' at hst
        rw [at_snoc_eq, at_snoc_lt hj'] at hst
        rw [at_snoc_lt hj', red1_get s (dep S' r) (k := lead0 (S'.getD j [])) (by omega), hz j hj', hst]
        simp
/-- What the first rows have come to. -/
structure RInv (C : Nat) (A : Mx) (i : Nat) (S : List (List Int)) : Prop where
  steps : Steps C S
  made : ∃ X : Mx, ∀ j k, j < S.length → k < C → at' S j k = isum (fun t => X j t * A t k) i
  told : ∀ t, t < i → ∃ d : Int, d ≠ 0 ∧ ∃ b : Nat → Int, ∀ k, k < C → d * A t k = isum (fun j => b j * at' S j k) S.length
theorem RInv.next {C : Nat} {A : Mx} {i : Nat} {S : List (List Int)} {r : List Int} (h : RInv C A i S) (hr : r.length = C) (hA : ∀ k, k < C → A i k = r.getD k 0) : RInv C A (i + 1) (rstep S r) := by
  obtain ⟨⟨D, hD, g, hg⟩, hz⟩ := dep_spec r hr S.length S rfl h.steps
  obtain ⟨X, hX⟩ := h.made
  unfold rstep
  split
  · rename_i he
    refine ⟨h.steps, ⟨fun j t => if t = i then 0 else X j t, fun j k hj hk => ?_⟩, fun t ht => ?_⟩
    · rw [hX j k hj hk, isum]
      dsimp only
      rw [if_pos rfl, Int.zero_mul, Int.add_zero]
      exact isum_congr fun t ht => by rw [if_neg (by omega)]
    · by_cases e : t = i
      · subst e
        refine ⟨D, hD, g, fun k hk => ?_⟩
        have := hg k hk
        rw [lead0_all he] at this
        rw [hA k hk]; omega
      · exact h.told t (by omega)
  · rename_i he
    have hlen : (dep S r).length = C := by rw [dep_len, hr]
    have hlead : lead0 (dep S r) < C := by have := lead0_le (dep S r); omega
    refine ⟨⟨fun s hs => ?_, fun s hs => ?_, fun a b hab hb => ?_⟩, ⟨fun j t => if j = S.length then (if t = i then D else - isum (fun l => g l * X l t) S.length) else (if t = i then 0 else X j t), fun j k hj hk => ?_⟩, fun t ht => ?_⟩
    · rcases List.mem_append.1 hs with hs | hs
      · exact h.steps.len s hs
      · rw [List.mem_singleton.1 hs, hlen]
    · rcases List.mem_append.1 hs with hs | hs
      · exact h.steps.lead s hs
      · rw [List.mem_singleton.1 hs]; exact hlead
    · rw [List.length_append, List.length_singleton] at hb
      by_cases e : b = S.length
      · unfold at'
        rw [e, at_snoc_eq, at_snoc_lt (by omega)]
        exact hz a (by omega)
      · have := h.steps.stair a b hab (by omega)
        unfold at' at this ⊢
        rwa [at_snoc_lt (by omega), at_snoc_lt (by omega)]
    · rw [List.length_append, List.length_singleton] at hj
      by_cases e : j = S.length
      · unfold at'
        rw [e, at_snoc_eq, hg k hk, isum]
        dsimp only
        rw [if_pos rfl, if_pos rfl, hA k hk]
        have e2 : isum (fun t => (if S.length = S.length then (if t = i then D else - isum (fun l => g l * X l t) S.length) else (if t = i then 0 else X S.length t)) * A t k) i = - isum (fun l => g l * at' S l k) S.length := by
          rw [← isum_neg]
          rw [isum_congr (g' := fun l => isum (fun t => - (g l * X l t * A t k)) i) (n := S.length) fun l hl => by
            rw [hX l k hl hk, isum_neg, ← isum_mul]
            congr 1
            exact isum_congr fun t _ => by grind]
          rw [isum_swap]
          refine isum_congr fun t ht => ?_
          rw [if_pos rfl, if_neg (by omega), isum_neg]
          rw [Int.neg_mul]
          congr 1
          rw [← isum_mul_right]
        rw [e2]; omega
      · have hj' : j < S.length := by omega
        unfold at'
        rw [at_snoc_lt hj']
        have := hX j k hj' hk
        unfold at' at this
        rw [this, isum]
        dsimp only
        rw [if_neg e, if_pos rfl, Int.zero_mul, Int.add_zero]
        exact isum_congr fun t ht => by rw [if_neg e, if_neg (by omega)]
    · by_cases e : t = i
      · subst e
        refine ⟨D, hD, fun j => if j = S.length then 1 else g j, fun k hk => ?_⟩
        rw [List.length_append, List.length_singleton, isum]
        dsimp only
        rw [if_pos rfl]
        have e1 : at' (S ++ [dep S r]) S.length k = (dep S r).getD k 0 := by unfold at'; rw [at_snoc_eq]
        have e2 : isum (fun j => (if j = S.length then 1 else g j) * at' (S ++ [dep S r]) j k) S.length = isum (fun j => g j * at' S j k) S.length := isum_congr fun j hj => by
          rw [if_neg (by omega)]
          unfold at'
          rw [at_snoc_lt hj]
        rw [e1, e2, hg k hk, hA k hk]; omega
      · obtain ⟨d, hd, b, hb⟩ := h.told t (by omega)
        refine ⟨d, hd, fun j => if j = S.length then 0 else b j, fun k hk => ?_⟩
        rw [hb k hk, List.length_append, List.length_singleton, isum]
        dsimp only
        rw [if_pos rfl, Int.zero_mul, Int.add_zero]
        refine isum_congr fun j hj => ?_
        rw [if_neg (by omega)]
        unfold at'
        rw [at_snoc_lt hj]
end Go.Proofs.Ytabdfhdddmbmlaa

namespace Go.Proofs.Ytabdfhdddmbmlaa
open Go.RowKit
instance (x : Int) (e : Nat) : Decidable (sz x e) := inferInstanceAs (Decidable (_ < _))
end Go.Proofs.Ytabdfhdddmbmlaa

namespace Go.Proofs.Ytabdfhdddmbmlaa
open Go.RowKit
/-- Each limb of each number is one. -/
def limM (m : List Row) : Prop := ∀ r, r ∈ m → ∀ x, x ∈ r → Lim x.2
theorem small.fits {n k c : Nat} {m : List Row} (h : small n k c m) (hl : limM m) : Fits c m := fun r hr x hx => ⟨hl r hr x hx, (h.2 r hr).2 x hx⟩
theorem small.cols {n k c : Nat} {m : List Row} (h : small n k c m) : (m.getD 0 []).length ≤ k := by
  by_cases h0 : 0 < m.length
  · exact (h.2 _ (getD_mem [] h0)).1
  · simp [List.getD_eq_getElem?_getD, show m.length = 0 by omega, List.eq_nil_of_length_eq_zero (show m.length = 0 by omega)]
end Go.Proofs.Ytabdfhdddmbmlaa

namespace Go.Proofs.Ytabdfhdddmbmlaa
open Go.RowKit
def smallR (n c : Nat) (r : Row) : Prop := r.length ≤ n ∧ ∀ x, x ∈ r → x.2.length ≤ c
instance (n c : Nat) (r : Row) : Decidable (smallR n c r) := inferInstanceAs (Decidable (_ ∧ _))
end Go.Proofs.Ytabdfhdddmbmlaa

namespace Go.Proofs.Ytabdfhdddmbmlaa
open Go.RowKit Go.ChangeShapes Go.WideShapes Go.ChangeAt Go.Deep
section
variable {H : Type} {enc : TypeId × Value → H} {w : World} {base : Nat} {spare : Nat → Bool} {held : Bool}
theorem rd_u64 {fuel : Nat} {cs : List Value} {x : DataW H × List MemPlace} (h : DataW.trod enc Try.prog w base spare held fuel 46 cs = some x) : ∃ n : Nat, n < 18446744073709551616 ∧ cs = [.int .u64 (n : Int)] := by
  obtain ⟨n, rfl, _, hw⟩ := DataW.trod_int Try.underlying46 h
  have : 0 ≤ n ∧ n < 18446744073709551616 := by
    simp [Lit.wf, IntKind.min, IntKind.max, IntKind.signed, IntKind.bits] at hw
    omega
  exact ⟨n.toNat, by omega, by rw [Int.toNat_of_nonneg this.1]⟩
/-- A slice, if each element reads. -/
theorem rd_slice {α : Type} (f : α → Dat) (z : α) (ok : α → Prop) {t e : TypeId} {size : Nat} (ht : Try.prog.underlying t = some (.slice e)) (hc : Try.prog.cellsOf e = size) (hs : 0 < size)
    (el : ∀ n cs x, cs.length = size → DataW.trod enc Try.prog w base spare held n e cs = some x → ∃ a, ok a ∧ RdC (fun b => b < w.heap.size) w (f a) cs)
    {fuel : Nat} {cs : List Value} {x : DataW H × List MemPlace} (h : DataW.trod enc Try.prog w base spare held fuel t cs = some x) :
    ∃ l : List α, (∀ a, a ∈ l → ok a) ∧ RdC (fun b => b < w.heap.size) w (LD size f z l) cs := by
  rcases open_slice ht h with ⟨rfl, _⟩ | ⟨a, len, cap, m, n, D, Pl, rfl, hb, hl, hm, hmm, _, hx⟩
  · exact ⟨[], (fun _ h => by simp at h), rd_nil _ _ _ _⟩
  · have hle : len ≤ m := by rw [hmm]; split <;> omega
    rw [hc] at hx
    have hspot : 0 < len → a.spot = none := fun h0 => by
      obtain ⟨cs', h1, h2⟩ := hx 0 (by omega)
      obtain ⟨_, hlen, hcell⟩ := World.cells?_some h1
      have h0 := hcell 0 hs
      rw [List.getElem?_eq_getElem (by omega)] at h0
      have := World.cell?_spot h0
      simpa [Addr.add] using this
    have hel : ∀ i, ∃ y : α, i < len → ok y ∧ ∃ cs', RdC (fun b => b < w.heap.size) w (f y) cs' ∧ cs'.length = size ∧ a.spot = none ∧ CellsAt (fun b => b < w.heap.size) w a.block (a.off + i * size) cs' := by
      intro i
      by_cases hi : i < len
      · obtain ⟨cs', h1, h2⟩ := hx i (by omega)
        obtain ⟨_, hlen, hcell⟩ := World.cells?_some h1
        obtain ⟨y, hy1, hy2⟩ := el n cs' _ hlen h2
        have hsp := hspot (by omega)
        refine ⟨y, fun _ => ⟨hy1, cs', hy2, hlen, hsp, fun j hj => ?_⟩⟩
        have h0 := hcell j (by omega)
        have ha : (a.add (i * size)).add j = ⟨a.block, a.off + i * size + j, none⟩ := by
          obtain ⟨b, o, s⟩ := a
          simp only at hsp
          subst hsp
          rw [add_none, add_none]
        rw [ha] at h0
        refine ⟨?_, h0⟩
        rw [List.getElem?_eq_getElem hj] at h0
        unfold World.cell? at h0
        simp only at h0
        split at h0
        · rename_i heq
          exact (Array.getElem?_eq_some_iff.1 heq).1
        · simp at h0
      · exact ⟨z, fun h => absurd h hi⟩
    have hch := fun i => Classical.choose_spec (hel i)
    let g : Nat → α := fun i => Classical.choose (hel i)
    have hg : ∀ i, i < len → ((List.range len).map g).getD i z = g i := fun i hi => by simp [List.getD_eq_getElem?_getD, hi]
    refine ⟨(List.range len).map g, fun y hy => ?_, ?_⟩
    · obtain ⟨i, hi, rfl⟩ := List.mem_map.1 hy
      exact (hch i (List.mem_range.1 hi)).1
    · unfold LD
      rw [List.length_map, List.length_range]
      refine ⟨some a, cap, rfl, hl, hm, fun h => by simp at h, fun b hb' hpos => ?_, fun i hi => ?_⟩
      · simp only [Option.some.injEq] at hb'
        subst hb'
        obtain ⟨_, _, _, _, hsp, _⟩ := hch 0 hpos
        exact hsp
      · obtain ⟨_, cs', q1, q2, _, q3⟩ := hch i hi
        refine ⟨a, cs', rfl, ?_, q2, q3⟩
        show RdC _ _ (f (((List.range len).map g).getD i z)) cs'
        rw [hg i hi]; exact q1
theorem rd_limbs {fuel : Nat} {cs : List Value} {x : DataW H × List MemPlace} (h : DataW.trod enc Try.prog w base spare held fuel 31 cs = some x) : ∃ l : List Nat, Lim l ∧ RdC (fun b => b < w.heap.size) w (U l) cs := by
  obtain ⟨l, h1, h2⟩ := rd_slice (size := 1) (fun n : Nat => .one (.int .u64 (n : Int))) 0 (fun n => n < 18446744073709551616) Try.underlying31 (by kernel_rfl) (by decide) (fun n cs x _ h => by
    obtain ⟨n, hn, rfl⟩ := rd_u64 h
    exact ⟨n, hn, rfl, rfl⟩) h
  exact ⟨l, h1, h2⟩
theorem rd_int2 {P : Program} {t tb tl : TypeId} {f0 f1 : Field} (ht : P.underlying t = some (.struct #[f0, f1])) (h0t : f0.type = tb) (h0o : f0.offset = 0) (h1t : f1.type = tl) (h1o : f1.offset = 1)
    (cb : P.cellsOf tb = 1) (cl : P.cellsOf tl = 1) (hb : P.underlying tb = some .bool) (el : ∀ (n : Nat) (cs : List Value) (x : DataW H × List MemPlace), DataW.trod enc P w base spare held n tl cs = some x → ∃ l : List Nat, Lim l ∧ RdC (fun b => b < w.heap.size) w (U l) cs)
    {fuel : Nat} {cs : List Value} {x : DataW H × List MemPlace} (hl : cs.length = 2) (h : DataW.trod enc P w base spare held fuel t cs = some x) : ∃ y : Bool × List Nat, Lim y.2 ∧ RdC (fun b => b < w.heap.size) w (J y) cs := by
  obtain ⟨y0, y1, n, _, hlen, h0, h1⟩ := trod_struct2 ht h
  rw [h0t, h0o, cb] at h0
  rw [h1t, h1o, cl] at h1
  match cs, hl with
  | [c0, c1], _ =>
    obtain ⟨s, hs, _⟩ := DataW.trod_bool hb h0
    obtain ⟨l, hl1, hl2⟩ := el _ _ _ h1
    have hc0 : c0 = .bool s := by simpa using hs
    subst hc0
    exact ⟨(s, l), hl1, [.bool s], [c1], rfl, ⟨rfl, rfl⟩, hl2⟩
theorem rd_int {fuel : Nat} {cs : List Value} {x : DataW H × List MemPlace} (hl : cs.length = 2) (h : DataW.trod enc Try.prog w base spare held fuel 33 cs = some x) : ∃ y : Bool × List Nat, Lim y.2 ∧ RdC (fun b => b < w.heap.size) w (J y) cs :=
  rd_int2 Try.underlying33 rfl rfl rfl rfl (tb := 4) (tl := 31) (by kernel_rfl) (by kernel_rfl) Try.underlying4 (fun _ _ _ h => rd_limbs h) hl h
theorem rd_row {fuel : Nat} {cs : List Value} {x : DataW H × List MemPlace} (h : DataW.trod enc Try.prog w base spare held fuel 36 cs = some x) : ∃ r : Row, (∀ y, y ∈ r → Lim y.2) ∧ RdC (fun b => b < w.heap.size) w (V r) cs := by
  obtain ⟨l, h1, h2⟩ := rd_slice (size := 2) J z0 (fun y => Lim y.2) Try.underlying36 (by kernel_rfl) (by decide) (fun n cs x hl h => rd_int hl h) h
  exact ⟨l, h1, h2⟩
theorem rd_rows {fuel : Nat} {cs : List Value} {x : DataW H × List MemPlace} (h : DataW.trod enc Try.prog w base spare held fuel 22 cs = some x) : ∃ m : List Row, limM m ∧ RdC (fun b => b < w.heap.size) w (W m) cs := by
  obtain ⟨l, h1, h2⟩ := rd_slice (size := 1) V [] (fun r => ∀ y, y ∈ r → Lim y.2) Try.underlying22 (by kernel_rfl) (by decide) (fun n cs x _ h => rd_row h) h
  exact ⟨l, h1, h2⟩
end
theorem rd_val {S : Nat → Prop} {w : World} {a : Option Addr} {n c : Nat} {d : Dat} (hd : d.flat = true) (h : RdC S w d (Value.slice a n c).cells.toList) : Rd S w (.slice a n c) d := by
  refine ⟨_, h, ?_⟩
  obtain ⟨v, h1, _, h3⟩ := RdC.single hd h
  rw [h3]
  simpa [Value.cells] using h1
theorem calls_of_meets {g : FuncId} {args : List Value} {fs : List Fact} {w : World} (h : Meets Try.prog g args fs (fun r os fs' => os = [] ∧ fs' = [] ∧ r = .bool true)) (hf : HF (fun b => b < w.heap.size) w fs) :
    Calls Try.prog g args.toArray w fun e w' => e = .returned (.bool true) ∧ Below w.heap.size w w' := by
  refine (h.calls (fun _ => False) w (fun _ h => h.elim) (hf.mono (fun _ _ => rfl) fun b hb => ⟨hb, id⟩)).mono ?_
  rintro e w' ⟨v, os', fs', rfl, ⟨rfl, rfl, rfl⟩, hh⟩
  exact ⟨rfl, hh.below⟩
theorem own0 : ownKnob Try.prog.godebug = none := by kernel_rfl
theorem laid0 : laidOutB Try.prog = true := by kernel_rfl
end Go.Proofs.Ytabdfhdddmbmlaa

namespace Go.Proofs.Ytabdfhdddmbmlaa
open Go.RowKit
end Go.Proofs.Ytabdfhdddmbmlaa

namespace Go.Proofs.Ytabdfhdddmbmlaa
/-- The value at x. -/
def pev : List Int → Int → Int
  | [], _ => 0
  | c :: l, x => c + x * pev l x
/-- Without noughts on top. -/
def nrm : List Int → List Int
  | [] => []
  | c :: l => match nrm l with
    | [] => if c = 0 then [] else [c]
    | d :: m => c :: d :: m
theorem nrm_cons (c : Int) (l : List Int) : nrm (c :: l) = if nrm l = [] ∧ c = 0 then [] else c :: nrm l := by
  rw [nrm]
  cases h : nrm l with
  | nil => by_cases hc : c = 0 <;> simp [hc]
  | cons d m => simp
theorem nrm_nrm (l : List Int) : nrm (nrm l) = nrm l := by
  induction l with
  | nil => rfl
  | cons c l ih =>
    rw [nrm_cons]
    by_cases h : nrm l = [] ∧ c = 0
    · rw [if_pos h]; rfl
    · rw [if_neg h, nrm_cons, ih, if_neg h]
theorem ev_nrm (l : List Int) (x : Int) : pev (nrm l) x = pev l x := by
  induction l with
  | nil => rfl
  | cons c l ih =>
    rw [nrm_cons]
    by_cases h : nrm l = [] ∧ c = 0
    · rw [if_pos h, h.2]
      rw [h.1] at ih
      simp only [pev] at ih ⊢
      rw [← ih]; simp
    · rw [if_neg h]; simp only [pev]; rw [ih]
/-- Lists of the same numbers, but for noughts on top. -/
theorem nrm_ext : ∀ {l m : List Int}, (∀ i, l.getD i 0 = m.getD i 0) → nrm l = nrm m
  | [], [], _ => rfl
  | [], d :: m, h => by
    have h0 : d = 0 := by have := h 0; simpa using this.symm
    have h1 := nrm_ext (l := []) (m := m) fun i => by have := h (i + 1); simpa using this
    rw [nrm_cons, ← h1, if_pos ⟨rfl, h0⟩]; rfl
  | c :: l, [], h => by
    have h0 : c = 0 := by have := h 0; simpa using this
    have h1 := nrm_ext (l := l) (m := []) fun i => by have := h (i + 1); simpa using this
    rw [nrm_cons, h1, if_pos ⟨rfl, h0⟩]; rfl
  | c :: l, d :: m, h => by
    have h0 : c = d := by have := h 0; simpa using this
    have h1 := nrm_ext (l := l) (m := m) fun i => by have := h (i + 1); simpa using this
    rw [nrm_cons, nrm_cons, h1, h0]
theorem ev_of_nrm {l m : List Int} (h : nrm l = nrm m) (x : Int) : pev l x = pev m x := by rw [← ev_nrm l, h, ev_nrm]
theorem ev_append (l m : List Int) (x : Int) : pev (l ++ m) x = pev l x + x ^ l.length * pev m x := by
  induction l with
  | nil => simp [pev]
  | cons c l ih => simp only [List.cons_append, pev, ih, List.length_cons, Int.pow_succ]; grind
theorem ev_map_mul (c : Int) (l : List Int) (x : Int) : pev (l.map fun y => c * y) x = c * pev l x := by
  induction l with
  | nil => simp [pev]
  | cons d l ih => simp only [List.map_cons, pev, ih]; grind
theorem ev_replicate (n : Nat) (x : Int) : pev (List.replicate n 0) x = 0 := by
  induction n with
  | zero => rfl
  | succ n ih => rw [List.replicate_succ, pev, ih]; simp
theorem ev_take_succ {l : List Int} {i : Nat} (h : i < l.length) (x : Int) : pev (l.take (i + 1)) x = pev (l.take i) x + x ^ i * l.getD i 0 := by
  have e : l.take (i + 1) = l.take i ++ [l.getD i 0] := by rw [List.take_add_one]; simp [List.getD_eq_getElem?_getD, h]
  rw [e, ev_append, List.length_take, Nat.min_eq_left (Nat.le_of_lt h)]
  simp [pev]
/-- The degree is less than n. -/
theorem ev_getD {l : List Int} {n : Nat} (h : l.length ≤ n) (x : Int) : pev ((List.range n).map fun i => l.getD i 0) x = pev l x := by
  have : nrm ((List.range n).map fun i => l.getD i 0) = nrm l := nrm_ext fun i => by
    by_cases hi : i < n
    · simp [List.getD_eq_getElem?_getD, hi]
    · have : l.length ≤ i := by omega
      simp [List.getD_eq_getElem?_getD, hi, this]
  exact ev_of_nrm this x
end Go.Proofs.Ytabdfhdddmbmlaa

namespace Go.Proofs.Ytabdfhdddmbmlaa
open Go.RowKit
/-- An answer that is looked at in another way. -/
theorem Meets.closed {P : Program} {g : FuncId} {args : List Value} {fs : List Fact} {R R' : Value → List Own → List Fact → Prop} (h : Meets P g args fs R)
    (hr : ∀ v os fs, R v os fs → ∃ os' fs', R' v os' fs' ∧ Seals os fs os' fs') : Meets P g args fs R' := by
  refine ⟨h.enter, fun A w hA hf => (h.calls A w hA hf).mono ?_⟩
  rintro e w' ⟨v, os', fs', he, hv, hh⟩
  obtain ⟨os2, fs2, h2, hs⟩ := hr v os' fs' hv
  exact ⟨v, os2, fs2, he, h2, hs _ _ hh⟩
/-- A told list of one's own becomes a fact. -/
theorem Seals.told {v : Value} {n : Nat} {g : Nat → Int} {e : Nat → Dat} {os : List Own} {fs : List Fact} (hv : isSl v) (he : ∀ i, i < n → e i = zd (g i)) :
    Seals (own1 v 2 n e :: os) fs os ((v, vd ((List.range n).map g)) :: fs) :=
  Seals.trans (Seals.slice (os := own1 v 2 n e :: os) 0 (fun i => J ((((List.range n).map g).map cn).getD i z0)) rfl hv fun i hi => by rw [he i hi, range_cn g hi]; rfl)
    (Seals.cons (Knw.vd_of (Knw.fact (List.Mem.head _))) (Seals.sub fun _ hF => .tail _ hF))
end Go.Proofs.Ytabdfhdddmbmlaa

namespace Go.Proofs.Ytabdfhdddmbmlaa
def Nm (l : List Int) : Prop := nrm l = l
theorem Nm.nil : Nm [] := rfl
theorem Nm.nrm (l : List Int) : Nm (nrm l) := nrm_nrm l
/-- The list of the first n values. -/
def lst (n : Nat) (f : Nat → Int) : List Int := (List.range n).map f
theorem lst_len (n : Nat) (f : Nat → Int) : (lst n f).length = n := by simp [lst]
theorem lst_get {n : Nat} {f : Nat → Int} {i : Nat} (h : i < n) : (lst n f).getD i 0 = f i := by simp [lst, List.getD_eq_getElem?_getD, h]
theorem lst_get' (n : Nat) (f : Nat → Int) (i : Nat) : (lst n f).getD i 0 = if i < n then f i else 0 := by
  by_cases h : i < n
  · rw [lst_get h, if_pos h]
  · rw [if_neg h, List.getD_eq_getElem?_getD, List.getElem?_eq_none (by rw [lst_len]; omega)]; rfl
theorem lst_congr {n : Nat} {f g : Nat → Int} (h : ∀ i, i < n → f i = g i) : lst n f = lst n g := List.map_congr_left fun i hi => h i (List.mem_range.1 hi)
theorem lst_succ (n : Nat) (f : Nat → Int) : lst (n + 1) f = f 0 :: lst n fun i => f (i + 1) := by
  simp [lst, List.range_succ_eq_map, Function.comp_def]
theorem getD_none {l : List Int} {i : Nat} (h : l.length ≤ i) : l.getD i 0 = 0 := by rw [List.getD_eq_getElem?_getD, List.getElem?_eq_none h]; rfl
theorem ev_lst_succ (n : Nat) (f : Nat → Int) (x : Int) : pev (lst (n + 1) f) x = f 0 + x * pev (lst n fun i => f (i + 1)) x := by rw [lst_succ]; rfl
theorem ev_lst_add (n : Nat) (f g : Nat → Int) (x : Int) : pev (lst n fun i => f i + g i) x = pev (lst n f) x + pev (lst n g) x := by
  induction n generalizing f g with
  | zero => rfl
  | succ n ih => rw [ev_lst_succ, ev_lst_succ, ev_lst_succ, ih]; grind
theorem ev_lst_mul (n : Nat) (c : Int) (f : Nat → Int) (x : Int) : pev (lst n fun i => c * f i) x = c * pev (lst n f) x := by
  induction n generalizing f with
  | zero => simp [lst, pev]
  | succ n ih => rw [ev_lst_succ, ev_lst_succ, ih]; grind
theorem ev_lst_zero (n : Nat) (x : Int) : pev (lst n fun _ => 0) x = 0 := by
  induction n with
  | zero => rfl
  | succ n ih => rw [ev_lst_succ, ih]; simp
theorem ev_lst {l : List Int} {n : Nat} (h : l.length ≤ n) (x : Int) : pev (lst n fun i => l.getD i 0) x = pev l x := ev_getD h x
/-- Moved up by s. -/
def up (s : Nat) (l : List Int) : List Int := List.replicate s 0 ++ l
theorem ev_up (s : Nat) (l : List Int) (x : Int) : pev (up s l) x = x ^ s * pev l x := by
  rw [up, ev_append, ev_replicate, List.length_replicate]; simp
theorem up_get (s : Nat) (l : List Int) (i : Nat) : (up s l).getD i 0 = if i < s then 0 else l.getD (i - s) 0 := by
  unfold up
  by_cases h : i < s
  · rw [if_pos h, List.getD_eq_getElem?_getD, List.getElem?_append_left (by simpa using h)]; simp [h]
  · rw [if_neg h, List.getD_eq_getElem?_getD, List.getElem?_append_right (by simpa using Nat.le_of_not_lt h)]; simp [List.getD_eq_getElem?_getD]
def padd (l m : List Int) : List Int := nrm (lst (max l.length m.length) fun i => l.getD i 0 + m.getD i 0)
def psub (l m : List Int) : List Int := nrm (lst (max l.length m.length) fun i => l.getD i 0 - m.getD i 0)
def prai (c : Int) (s : Nat) (l : List Int) : List Int := nrm (up s (l.map fun y => c * y))
theorem ev_padd (l m : List Int) (x : Int) : pev (padd l m) x = pev l x + pev m x := by
  rw [padd, ev_nrm, ev_lst_add, ev_lst (Nat.le_max_left _ _), ev_lst (Nat.le_max_right _ _)]
theorem ev_psub (l m : List Int) (x : Int) : pev (psub l m) x = pev l x - pev m x := by
  have e : (fun i => l.getD i 0 - m.getD i 0) = fun i => l.getD i 0 + (-1) * m.getD i 0 := funext fun i => by omega
  rw [psub, ev_nrm, e, ev_lst_add, ev_lst_mul, ev_lst (Nat.le_max_left _ _), ev_lst (Nat.le_max_right _ _)]; omega
theorem ev_lst_isum (n m : Nat) (f : Nat → Nat → Int) (x : Int) : pev (lst n fun y => isum (fun t => f t y) m) x = isum (fun t => pev (lst n (f t)) x) m := by
  induction m with
  | zero => exact ev_lst_zero n x
  | succ m ih => simp only [isum]; rw [ev_lst_add, ih]
theorem ev_isum (l : List Int) (x : Int) : pev l x = isum (fun i => l.getD i 0 * x ^ i) l.length := by
  have : ∀ (l : List Int), pev l x = isum (fun i => l.getD i 0 * x ^ i) l.length := by
    intro l
    have h : ∀ n, n ≤ l.length → pev (l.take n) x = isum (fun i => l.getD i 0 * x ^ i) n := by
      intro n
      induction n with
      | zero => intro _; rfl
      | succ n ih => intro hn; rw [ev_take_succ (by omega), ih (by omega), isum, Int.mul_comm]
    have := h l.length (Nat.le_refl _)
    rwa [List.take_length] at this
  exact this l
/-- The product's coefficient at y, of the first m of a. -/
def conv (a b : List Int) (m y : Nat) : Int := isum (fun t => if t ≤ y then a.getD t 0 * b.getD (y - t) 0 else 0) m
def pmul (l m : List Int) : List Int :=
  let a := nrm l
  let b := nrm m
  if a = [] ∨ b = [] then [] else nrm (lst (a.length + b.length - 1) fun y => conv a b a.length y)
theorem ev_shifted (b : List Int) (t n : Nat) (h : t + b.length ≤ n) (c x : Int) : pev (lst n fun y => if t ≤ y then c * b.getD (y - t) 0 else 0) x = c * x ^ t * pev b x := by
  have e : pev (lst n fun y => if t ≤ y then c * b.getD (y - t) 0 else 0) x = pev (up t (b.map fun y => c * y)) x := by
    refine ev_of_nrm (nrm_ext fun i => ?_) x
    rw [up_get, lst_get']
    by_cases h1 : i < t
    · rw [if_pos h1, if_neg (by omega : ¬ t ≤ i)]; split <;> rfl
    · rw [if_neg h1]
      by_cases h2 : i < n
      · rw [if_pos h2, if_pos (by omega)]
        simp [List.getD_eq_getElem?_getD]
        cases b[i - t]? <;> simp
      · rw [if_neg h2, getD_none]; rw [List.length_map]; omega
  rw [e, ev_up, ev_map_mul]; grind
theorem ev_conv (a b : List Int) (x : Int) (hb : b ≠ []) (ha : a ≠ []) : pev (lst (a.length + b.length - 1) fun y => conv a b a.length y) x = pev a x * pev b x := by
  unfold conv
  rw [ev_lst_isum]
  have h : ∀ t, t < a.length → pev (lst (a.length + b.length - 1) fun y => if t ≤ y then a.getD t 0 * b.getD (y - t) 0 else 0) x = pev b x * (a.getD t 0 * x ^ t) := fun t ht => by
    rw [ev_shifted b t _ (by have := List.length_pos_iff.2 hb; omega)]; grind
  rw [isum_congr h, isum_mul, ← ev_isum, Int.mul_comm]
theorem ev_pmul (l m : List Int) (x : Int) : pev (pmul l m) x = pev l x * pev m x := by
  unfold pmul
  simp only
  split
  · rename_i h
    rcases h with h | h
    · rw [← ev_nrm l, h]; simp [pev]
    · rw [← ev_nrm m, h]; simp [pev]
  · rename_i h
    rw [ev_nrm, ev_conv _ _ _ (fun e => h (.inr e)) (fun e => h (.inl e)), ev_nrm, ev_nrm]
end Go.Proofs.Ytabdfhdddmbmlaa

namespace Go.Proofs.Ytabdfhdddmbmlaa
open Go.RowKit
theorem szR.mono {k k' : Nat} {l : List Int} (h : szR k l) (hk : k ≤ k') : szR k' l := fun x hx => (h x hx).mono hk
theorem szR.get {k : Nat} {l : List Int} (h : szR k l) (i : Nat) : sz (l.getD i 0) k := by
  by_cases hi : i < l.length
  · exact h _ (getD_mem 0 hi)
  · rw [getD_none (by omega)]; exact sz_zero _
theorem mem_nrm {l : List Int} {x : Int} (h : x ∈ nrm l) : x ∈ l := by
  induction l with
  | nil => exact h
  | cons c l ih =>
    rw [nrm_cons] at h
    split at h
    · simp at h
    · rcases List.mem_cons.1 h with rfl | h
      · exact .head _
      · exact .tail _ (ih h)
theorem szR.nrm {k : Nat} {l : List Int} (h : szR k l) : szR k (nrm l) := fun x hx => h x (mem_nrm hx)
end Go.Proofs.Ytabdfhdddmbmlaa

namespace Go.Proofs.Ytabdfhdddmbmlaa
open Go.RowKit
theorem load_elem' {P : Program} {t : TypeId} {v : Value} {size n : Nat} {e : Nat → Dat} {os : List Own} {fs : List Fact} {K : Cont} (pos : Nat) (h : nthOwn os pos = some (own1 v size n e)) (j : Nat)
    (hj : j < n) {d : Dat} (hd : e j = d) (ht : LoadAs P t d) (k' : ∀ u, K u os ((u, d) :: fs)) : LoadK P t (eptr v (j * size)) os fs K := by
  subst hd
  exact load_elem pos h j hj ht k'
end Go.Proofs.Ytabdfhdddmbmlaa

namespace Go.Proofs.Ytabdfhdddmbmlaa
open Go.RowKit
theorem szR.map {k a : Nat} {c : Int} {l : List Int} (h : szR k l) (hc : sz c a) : szR (k + a) (l.map fun y => c * y) := fun x hx => by
  obtain ⟨y, hy, rfl⟩ := List.mem_map.1 hx
  rw [Nat.add_comm]; exact hc.mul (h y hy)
theorem szR.prai {k a : Nat} {c : Int} {l : List Int} (h : szR k l) (hc : sz c a) (s : Nat) : szR (k + a) (prai c s l) := szR.nrm fun x hx => by
  rcases List.mem_append.1 hx with h1 | h1
  · rw [(List.mem_replicate.1 h1).2]; exact sz_zero _
  · exact h.map hc x h1
theorem szR.neg {k : Nat} {l : List Int} (h : szR k l) : szR k (Go.Proofs.Ytabdfhdddmbmlaa.prai (-1) 0 l) := szR.nrm fun x hx => by
  rcases List.mem_append.1 hx with h1 | h1
  · rw [(List.mem_replicate.1 h1).2]; exact sz_zero _
  · obtain ⟨y, hy, rfl⟩ := List.mem_map.1 h1
    have := (h y hy).neg
    rwa [← Int.neg_one_mul] at this
end Go.Proofs.Ytabdfhdddmbmlaa

namespace Go.Proofs.Ytabdfhdddmbmlaa
open Go.RowKit
theorem szR.drop {k : Nat} {l : List Int} (h : szR k l) (i : Nat) : szR k (l.drop i) := fun x hx => h x (List.mem_of_mem_drop hx)
theorem zMulZJ (v w : Value) (x : Int) (y : Bool × List Nat) (a : Nat) (hx : sz x a) (ha : a ≤ 137438953472) (hy : Lim y.2) (ly : y.2.length ≤ 137438953472) :
    Meets Try.prog 51 [v, w] [(v, zd x), (w, J y)] (fun r os fs => os = [] ∧ fs = [(r, zd (x * jv y))]) := by
  have h := zMulJ v w (cn x) y (Lim_lims _) (Nat.le_trans hx.len ha) hy ly
  rw [jv_cn] at h
  exact h
end Go.Proofs.Ytabdfhdddmbmlaa

namespace Go.Proofs.Ytabdfhdddmbmlaa
def dg (l : List Int) : Nat := (nrm l).length
def ld (l : List Int) : Int := l.getD (dg l - 1) 0
/-- a is a divisor of b. -/
def Dv (a b : List Int) : Prop := ∃ u, ∀ x, pev b x = pev a x * pev u x
theorem Dv.refl (a : List Int) : Dv a a := ⟨[1], fun x => by simp [pev]⟩
theorem Dv.trans {a b c : List Int} (h : Dv a b) (k : Dv b c) : Dv a c := by
  obtain ⟨u, hu⟩ := h; obtain ⟨v, hv⟩ := k
  exact ⟨pmul u v, fun x => by rw [hv, hu, ev_pmul]; grind⟩
theorem Dv.zero (a : List Int) {b : List Int} (h : ∀ x, pev b x = 0) : Dv a b := ⟨[], fun x => by rw [h]; simp [pev]⟩
theorem Dv.mul_right {a b c d : List Int} (h : Dv a b) (e : ∀ x, pev d x = pev b x * pev c x) : Dv a d := by
  obtain ⟨u, hu⟩ := h
  exact ⟨pmul u c, fun x => by rw [e, hu, ev_pmul]; grind⟩
theorem Dv.add {a b c d : List Int} (h : Dv a b) (k : Dv a c) (e : ∀ x, pev d x = pev b x + pev c x) : Dv a d := by
  obtain ⟨u, hu⟩ := h; obtain ⟨v, hv⟩ := k
  exact ⟨padd u v, fun x => by rw [e, hu, hv, ev_padd]; grind⟩
theorem Dv.sub {a b c d : List Int} (h : Dv a b) (k : Dv a c) (e : ∀ x, pev d x = pev b x - pev c x) : Dv a d := by
  obtain ⟨u, hu⟩ := h; obtain ⟨v, hv⟩ := k
  exact ⟨psub u v, fun x => by rw [e, hu, hv, ev_psub]; grind⟩
-- Contents.
def cont (l : List Int) : Nat := l.foldr (fun c g => Nat.gcd c.natAbs g) 0
end Go.Proofs.Ytabdfhdddmbmlaa

namespace Go.Proofs.Ytabdfhdddmbmlaa
/-- A greatest common divisor, its lead not below 0. -/
def Gc (g p q : List Int) : Prop := Dv g p ∧ Dv g q ∧ (∀ h, Dv h p → Dv h q → Dv h g) ∧ 0 ≤ ld g
/-- The content, with the sign of the lead. -/
def scont (l : List Int) : Int := if ld l < 0 then - (cont l : Int) else cont l
def pprim (l : List Int) : List Int := nrm ((nrm l).map fun y => y / scont l)
end Go.Proofs.Ytabdfhdddmbmlaa

namespace Go.Proofs.Ytabdfhdddmbmlaa
open Go.RowKit
theorem szR.take {k : Nat} {l : List Int} (h : szR k l) (i : Nat) : szR k (l.take i) := fun x hx => h x (List.mem_of_mem_take hx)
theorem zAbsZ (v : Value) (x : Int) (a : Nat) (hx : sz x a) (ha : a ≤ 137438953472) :
    Meets Try.prog 40 [v] [(v, zd x)] (fun r os fs => os = [] ∧ fs = [(r, zd (x.natAbs : Nat))]) := by
  have h := zabs_meets v (decide (x < 0)) (lims x.natAbs) (Lim_lims _) (Nat.le_trans hx.len ha)
  rw [nv_lims] at h
  exact h
end Go.Proofs.Ytabdfhdddmbmlaa

namespace Go.Proofs.Ytabdfhdddmbmlaa
open Go.RowKit
end Go.Proofs.Ytabdfhdddmbmlaa

namespace Go.Proofs.Ytabdfhdddmbmlaa
open Go.RowKit
/-- What Rest tells: t and r with L^d p = q t + r, r of a lesser degree. -/
structure RestSpec (p q t r : List Int) : Prop where
  tn : Nm t
  rn : Nm r
  low : dg r < dg q
  eq : ∀ x, ld q ^ (dg p + 1 - dg q) * pev p x = pev q x * pev t x + pev r x
end Go.Proofs.Ytabdfhdddmbmlaa

namespace Go.Proofs.Ytabdfhdddmbmlaa
open Go.RowKit
end Go.Proofs.Ytabdfhdddmbmlaa

namespace Go.Proofs.Ytabdfhdddmbmlaa
end Go.Proofs.Ytabdfhdddmbmlaa

namespace Go.Proofs.Ytabdfhdddmbmlaa
open Go.RowKit
end Go.Proofs.Ytabdfhdddmbmlaa

namespace Go.Proofs.Ytabdfhdddmbmlaa
open Go.RowKit
/-- t and the errno that Divide tells. -/
structure DivSpec (p q t : List Int) (e : Int) : Prop where
  tn : Nm t
  zero : dg q = 0 → e = 2 ∧ t = []
  ok : 0 < dg q → Dv q p → e = 0 ∧ ∀ x, pev p x = pev q x * pev t x
  no : 0 < dg q → ¬ Dv q p → e = 11 ∧ t = []
def put (f : Nat → Int) (s : Nat) (c : Int) : Nat → Int := fun y => if y = s then c else f y
end Go.Proofs.Ytabdfhdddmbmlaa

namespace Go.Proofs.Ytabdfhdddmbmlaa
-- What no other one divides.
-- Derivatives.
def pder (l : List Int) : List Int := nrm (lst (l.length - 1) fun i => ((i + 1 : Nat) : Int) * l.getD (i + 1) 0)
end Go.Proofs.Ytabdfhdddmbmlaa

namespace Go.Proofs.Ytabdfhdddmbmlaa
open Go.RowKit
theorem lst_snoc (n : Nat) (f : Nat → Int) : lst (n + 1) f = lst n f ++ [f n] := by
  simp [lst, List.range_succ]
end Go.Proofs.Ytabdfhdddmbmlaa

namespace Go.Proofs.Ytabdfhdddmbmlaa
open Go.RowKit
end Go.Proofs.Ytabdfhdddmbmlaa

namespace Go.Proofs.Ytabdfhdddmbmlaa
open Go.RowKit
/-- What Simple tells. -/
structure SimSpec (p s : List Int) : Prop where
  sn : Nm s
  zero : dg p = 0 → s = []
  ok : 0 < dg p → ∃ g, Gc g (pprim p) (pder (pprim p)) ∧ ∀ x, pev (pprim p) x = pev g x * pev s x
end Go.Proofs.Ytabdfhdddmbmlaa

namespace Go.Proofs.Ytabdfhdddmbmlaa
open Go.RowKit
theorem ev_lst_snoc (n : Nat) (f : Nat → Int) (x : Int) : pev (lst (n + 1) f) x = pev (lst n f) x + x ^ n * f n := by
  rw [lst_snoc, ev_append, lst_len]; simp [pev]
/-- Of the numbers from i on, those above m are already moved. -/
def ShI (n : Nat) (a : Int) (U : Int → Int) (f : Nat → Int) (i m : Nat) : Prop :=
  ∀ x, U x = pev (lst (m - i) fun y => f (i + y)) x + x ^ (m - i) * (f m + (x - a) * pev (lst (n - 1 - m) fun y => f (m + 1 + y)) x)
def ShO (n : Nat) (a : Int) (P : Int → Int) (f : Nat → Int) (i : Nat) : Prop :=
  ∀ x, P x = pev (lst i f) (x - a) + (x - a) ^ i * pev (lst (n - i) fun y => f (i + y)) x
theorem ShI.start {n i : Nat} {a : Int} {f : Nat → Int} (h : i < n) : ShI n a (fun x => pev (lst (n - i) fun y => f (i + y)) x) f i (n - 1) := fun x => by
  have e : n - i = (n - 1 - i) + 1 := by omega
  have e2 : i + (n - 1 - i) = n - 1 := by omega
  simp only
  rw [e, ev_lst_snoc, e2, show n - 1 - (n - 1) = 0 by omega]
  simp [lst, pev]
theorem ShI.step {n i m : Nat} {a : Int} {U : Int → Int} {f : Nat → Int} (h : ShI n a U f i m) (hm : i < m) (hn : m ≤ n - 1) : ShI n a U (put f (m - 1) (f (m - 1) + a * f m)) i (m - 1) := fun x => by
  rw [h x]
  have e : m - i = (m - 1 - i) + 1 := by omega
  have e2 : i + (m - 1 - i) = m - 1 := by omega
  have e3 : n - 1 - (m - 1) = (n - 1 - m) + 1 := by omega
  have c1 : lst (m - 1 - i) (fun y => put f (m - 1) (f (m - 1) + a * f m) (i + y)) = lst (m - 1 - i) fun y => f (i + y) := lst_congr fun y hy => by unfold put; rw [if_neg (by omega)]
  have c2 : lst (n - 1 - m) (fun y => put f (m - 1) (f (m - 1) + a * f m) (m - 1 + 1 + (y + 1))) = lst (n - 1 - m) fun y => f (m + 1 + y) := lst_congr fun y hy => by unfold put; rw [if_neg (by omega)]; congr 1; omega
  have c3 : put f (m - 1) (f (m - 1) + a * f m) (m - 1 + 1 + 0) = f m := by unfold put; rw [if_neg (by omega)]; congr 1; omega
  have c4 : put f (m - 1) (f (m - 1) + a * f m) (m - 1) = f (m - 1) + a * f m := by unfold put; rw [if_pos rfl]
  rw [e, ev_lst_snoc, e2, e3, ev_lst_succ, c1, c2, c3, c4, Int.pow_succ]
  grind
theorem ShO.next {n i : Nat} {a : Int} {P : Int → Int} {f f' : Nat → Int} (h : ShO n a P f i) (hi : i < n) (hs : ShI n a (fun x => pev (lst (n - i) fun y => f (i + y)) x) f' i i) (hf : ∀ y, y < i → f' y = f y) : ShO n a P f' (i + 1) := fun x => by
  have h1 := hs x
  simp only [Nat.sub_self, Int.pow_zero] at h1
  have c1 : lst i f = lst i f' := lst_congr fun y hy => (hf y hy).symm
  rw [h x, h1, c1, ev_lst_snoc, show n - (i + 1) = n - 1 - i by omega, Int.pow_succ]
  simp only [lst, List.range_zero, List.map_nil, pev]
  grind
end Go.Proofs.Ytabdfhdddmbmlaa

namespace Go.Proofs.Ytabdfhdddmbmlaa
open Go.RowKit
theorem cmpN_range (a b : Nat) : -1 ≤ cmpN a b ∧ cmpN a b ≤ 1 ∧ (cmpN a b = 0 ↔ a = b) := by
  unfold cmpN
  split
  · omega
  · split <;> omega
end Go.Proofs.Ytabdfhdddmbmlaa

namespace Go.Proofs.Ytabdfhdddmbmlaa
/-- The product of two rows, of m places. -/
def ip (m : Nat) (u v : Nat → Int) : Int := isum (fun c => u c * v c) m
def gr (m : Nat) (b : Mx) : Mx := fun i j => ip m (b i) (b j)
/-- k - 1 .. 0. -/
def dn : Nat → List Nat
  | 0 => []
  | k + 1 => k :: dn k
/-- The table: what is left of (i, j) after k steps. -/
def mi (G : Mx) (k i j : Nat) : Int := det (k + 1) (sub' G (i :: dn k) (j :: dn k))
def dG (G : Mx) (k : Nat) : Int := det k (sub' G (dn k) (dn k))
theorem dn_get {k j : Nat} (h : j < k) : (dn k).getD j 0 = k - 1 - j := by
  induction k generalizing j with
  | zero => omega
  | succ k ih =>
    cases j with
    | zero => rw [dn, List.getD_cons_zero]; omega
    | succ j => rw [dn, List.getD_cons_succ, ih (by omega)]; omega
theorem ip_comm (m : Nat) (u v : Nat → Int) : ip m u v = ip m v u := isum_congr fun c _ => Int.mul_comm _ _
theorem gr_symm (m : Nat) (b : Mx) (i j : Nat) : gr m b i j = gr m b j i := ip_comm _ _ _
theorem dG_zero (G : Mx) : dG G 0 = 1 := rfl
theorem dG_succ (G : Mx) (k : Nat) : dG G (k + 1) = mi G k k k := rfl
theorem mi_none (G : Mx) (i j : Nat) : mi G 0 i j = G i j := by simp [mi, dn, det, isum, sg, sub']
theorem mi_symm {G : Mx} (h : ∀ i j, G i j = G j i) (k i j : Nat) : mi G k i j = mi G k j i := by
  unfold mi
  rw [← det_tr]
  exact det_congr fun x y _ _ => h _ _
theorem mi_step {G : Mx} {k : Nat} (h : dG G k ≠ 0) (i j : Nat) : dG G k * mi G (k + 1) i j = dG G (k + 1) * mi G k i j - mi G k i k * mi G k k j :=
  sylv G k k i k j (dn k) (dn k) h
theorem mi_low {G : Mx} {k i j : Nat} (hj : j < k) : mi G k i j = 0 :=
  bord_zero G (dn k) (dn k) (j := k - 1 - j) (by omega) (by rw [dn_get (by omega)]; omega)
theorem mi_low' {G : Mx} (h : ∀ i j, G i j = G j i) {k i j : Nat} (hi : i < k) : mi G k i j = 0 := by rw [mi_symm h, mi_low hi]
theorem dG_congr {G H : Mx} {k : Nat} (h : ∀ i j, i < k → j < k → G i j = H i j) : dG G k = dG H k :=
  det_congr fun x y hx hy => by
    show G ((dn k).getD x 0) ((dn k).getD y 0) = H _ _
    rw [dn_get hx, dn_get hy]; exact h _ _ (by omega) (by omega)
-- What is orthogonal.
/-- The cofactor of the r-th row of k, k - 1 .. 0, at a column ahead. -/
def cf (G : Mx) (k r : Nat) : Int := sg r * det k (cut (sub' G (dn (k + 1)) (0 :: dn k)) r 0)
theorem cf_zero (G : Mx) (k : Nat) : cf G k 0 = dG G k := by
  unfold cf dG
  rw [sg_zero, Int.one_mul]
  exact det_congr fun x y _ _ => by simp [cut, sub', sk_zero, dn]
theorem mi_cf (G : Mx) (k j : Nat) : mi G k k j = isum (fun r => G (k - r) j * cf G k r) (k + 1) := by
  unfold mi
  rw [det]
  refine isum_congr fun r hr => ?_
  have e1 : det k (cut (sub' G (k :: dn k) (j :: dn k)) r 0) = det k (cut (sub' G (dn (k + 1)) (0 :: dn k)) r 0) := det_congr fun x y _ _ => by simp [cut, sub', sk_zero, dn]
  have e2 : sub' G (k :: dn k) (j :: dn k) r 0 = G (k - r) j := by
    show G ((dn (k + 1)).getD r 0) j = _
    rw [dn_get hr]; congr 1
  rw [e1, e2]; unfold cf; grind
/-- The row k, straightened, times dG k. -/
def wv (m : Nat) (b : Mx) (k : Nat) : Nat → Int := fun c => isum (fun r => b (k - r) c * cf (gr m b) k r) (k + 1)
theorem ip_wv (m : Nat) (b : Mx) (k : Nat) (v : Nat → Int) : ip m (wv m b k) v = isum (fun r => ip m (b (k - r)) v * cf (gr m b) k r) (k + 1) := by
  unfold ip wv
  have h1 : isum (fun c => isum (fun r => b (k - r) c * cf (gr m b) k r) (k + 1) * v c) m = isum (fun c => isum (fun r => b (k - r) c * v c * cf (gr m b) k r) (k + 1)) m :=
    isum_congr fun c _ => by
      rw [← isum_mul_right]
      exact isum_congr fun r _ => by grind
  rw [h1, isum_swap]
  exact isum_congr fun r _ => isum_mul_right _ _ _
theorem wv_row (m : Nat) (b : Mx) (k j : Nat) : ip m (wv m b k) (b j) = mi (gr m b) k k j := by
  rw [ip_wv, mi_cf]; rfl
theorem wv_wv (m : Nat) (b : Mx) (k : Nat) : ip m (wv m b k) (wv m b k) = dG (gr m b) k * dG (gr m b) (k + 1) := by
  have h1 : ip m (wv m b k) (wv m b k) = isum (fun r => ip m (b (k - r)) (wv m b k) * cf (gr m b) k r) (k + 1) := ip_wv _ _ _ _
  rw [h1, isum_one (r := 0) (by omega) fun r hr h0 => by
    rw [ip_comm, wv_row, mi_low (by omega), Int.zero_mul], ip_comm, Nat.sub_zero, wv_row, cf_zero, dG_succ]
  exact Int.mul_comm _ _
theorem isum_nn {f : Nat → Int} {n : Nat} (h : ∀ i, i < n → 0 ≤ f i) : 0 ≤ isum f n := by
  induction n with
  | zero => exact Int.le_refl _
  | succ n ih => exact Int.add_nonneg (ih fun i hi => h i (by omega)) (h n (by omega))
theorem sq_nn (x : Int) : 0 ≤ x * x := by
  rcases Int.le_total 0 x with h | h
  · exact Int.mul_nonneg h h
  · have := Int.mul_nonneg (Int.neg_nonneg_of_nonpos h) (Int.neg_nonneg_of_nonpos h)
    rwa [Int.neg_mul_neg] at this
theorem ip_nn (m : Nat) (u : Nat → Int) : 0 ≤ ip m u u := isum_nn fun _ _ => sq_nn _
theorem dG_pos {m : Nat} {b : Mx} {n : Nat} (h : ∀ k, k ≤ n → dG (gr m b) k ≠ 0) : ∀ k, k ≤ n → 0 < dG (gr m b) k
  | 0, _ => by rw [dG_zero]; decide
  | k + 1, hk => by
    have h1 := dG_pos h k (by omega)
    have h2 : 0 ≤ dG (gr m b) k * dG (gr m b) (k + 1) := by rw [← wv_wv]; exact ip_nn _ _
    have h3 := h (k + 1) hk
    rcases Int.lt_trichotomy (dG (gr m b) (k + 1)) 0 with h4 | h4 | h4
    · have := Int.mul_neg_of_pos_of_neg h1 h4; omega
    · exact absurd h4 h3
    · exact h4
/-- Cauchy and Schwarz. -/
theorem cauchy (m : Nat) (u v : Nat → Int) : ip m u v * ip m u v ≤ ip m u u * ip m v v := by
  by_cases h0 : ip m u u = 0
  · have hz : ∀ c, c < m → u c = 0 := by
      intro c hc
      have key : ∀ n, isum (fun c => u c * u c) n = 0 → ∀ c, c < n → u c * u c = 0 := fun n => by
        induction n with
        | zero => intro _ c hc; omega
        | succ n ih =>
          intro hs c hc
          have h1 : 0 ≤ isum (fun c => u c * u c) n := isum_nn fun _ _ => sq_nn _
          have h2 := sq_nn (u n)
          have h3 : isum (fun c => u c * u c) n + u n * u n = 0 := hs
          by_cases e : c = n
          · rw [e]; omega
          · exact ih (by omega) c (by omega)
      rcases Int.mul_eq_zero.1 (key m h0 c hc) with h | h <;> exact h
    have : ip m u v = 0 := isum_zero fun c hc => by rw [hz c hc, Int.zero_mul]
    rw [this, h0]; simp
  · have hp : 0 < ip m u u := by have := ip_nn m u; omega
    have h1 : 0 ≤ ip m (fun c => ip m u u * v c - ip m u v * u c) (fun c => ip m u u * v c - ip m u v * u c) := ip_nn _ _
    have h2 : ip m (fun c => ip m u u * v c - ip m u v * u c) (fun c => ip m u u * v c - ip m u v * u c) = ip m u u * (ip m u u * ip m v v - ip m u v * ip m u v) := by
      generalize hA : ip m u u = A
      generalize hB : ip m u v = B
      have e : ip m (fun c => A * v c - B * u c) (fun c => A * v c - B * u c) = A * A * ip m v v - 2 * A * B * ip m u v + B * B * ip m u u := by
        unfold ip
        have e1 : isum (fun c => (A * v c - B * u c) * (A * v c - B * u c)) m = isum (fun c => A * A * (v c * v c) + (-(2 * A * B) * (u c * v c) + B * B * (u c * u c))) m := isum_congr fun c _ => by grind
        rw [e1, isum_add, isum_add, isum_mul, isum_mul, isum_mul]; grind
      rw [e, hA, hB]; grind
    rw [h2] at h1
    have := Int.nonneg_of_mul_nonneg_right (a := ip m u u) (b := ip m u u * ip m v v - ip m u v * ip m u v) (by exact h1) hp
    omega
end Go.Proofs.Ytabdfhdddmbmlaa

namespace Go.Proofs.Ytabdfhdddmbmlaa
def redq (b : Mx) (k j : Nat) (q : Int) : Mx := fun i c => if i = k then b k c - q * b j c else b i c
def sx (p : Nat) (i : Nat) : Nat := if i = p then p + 1 else if i = p + 1 then p else i
def swb (b : Mx) (p : Nat) : Mx := fun i c => b (sx p i) c
theorem sx_sx (p i : Nat) : sx p (sx p i) = i := by unfold sx; split <;> (try split) <;> (try split) <;> omega
theorem sx_at (p : Nat) : sx p p = p + 1 := if_pos rfl
theorem sx_at' (p : Nat) : sx p (p + 1) = p := by unfold sx; rw [if_neg (by omega), if_pos rfl]
theorem sx_low {p i : Nat} (h : i < p) : sx p i = i := by unfold sx; rw [if_neg (by omega), if_neg (by omega)]
theorem sx_high {p i : Nat} (h : p + 1 < i) : sx p i = i := by unfold sx; rw [if_neg (by omega), if_neg (by omega)]
theorem sx_lt {p i n : Nat} (hp : p + 1 < n) (h : i < n) : sx p i < n := by unfold sx; split <;> (try split) <;> omega
theorem ip_sub (m : Nat) (u v w : Nat → Int) (q : Int) : ip m (fun c => u c - q * v c) w = ip m u w - q * ip m v w := by
  unfold ip
  rw [isum_congr (g' := fun c => 1 * (u c * w c) + (-q) * (v c * w c)) fun c _ => by grind, isum_lin]; grind
/-- What becomes of (i, i') when q times row j is taken from row k. -/
def fq (T : Mx) (k j : Nat) (q : Int) (i i' : Nat) : Int :=
  T i i' - (if i = k then q * T j i' else 0) - (if i' = k then q * T i j else 0) + (if i = k ∧ i' = k then q * q * T j j else 0)
theorem gr_redq (m : Nat) (b : Mx) (k j : Nat) (q : Int) (hj : j ≠ k) (i i' : Nat) : gr m (redq b k j q) i i' = fq (gr m b) k j q i i' := by
  have e : ∀ i, redq b k j q i = fun c => b i c - (if i = k then q else 0) * b j c := fun i => by
    funext c; unfold redq; split
    · rename_i h; rw [h]
    · omega
  unfold gr
  rw [e i, e i', ip_sub, ip_comm m (b i) (fun c => b i' c - _ * b j c), ip_comm m (b j) (fun c => b i' c - _ * b j c), ip_sub, ip_sub]
  unfold fq
  simp only []
  rw [ip_comm m (b i') (b i), ip_comm m (b i') (b j), ip_comm m (b j) (b i)]
  by_cases h1 : i = k <;> by_cases h2 : i' = k <;> simp [h1, h2] <;> grind
theorem mi_redq {m : Nat} {b : Mx} {k j : Nat} {q : Int} (hj : j < k) : ∀ (s : Nat), (∀ t, t < s → dG (gr m b) t ≠ 0) →
    (∀ i i', mi (gr m (redq b k j q)) s i i' = fq (mi (gr m b) s) k j q i i') ∧ dG (gr m (redq b k j q)) s = dG (gr m b) s
  | 0, _ => ⟨fun i i' => by
      rw [mi_none, gr_redq m b k j q (by omega)]
      unfold fq
      simp only [mi_none], by rw [dG_zero, dG_zero]⟩
  | s + 1, h => by
    obtain ⟨ih, ig⟩ := mi_redq hj s fun t ht => h t (by omega)
    have sy := gr_symm m b
    have hs0 := h s (by omega)
    have hs1 : dG (gr m (redq b k j q)) (s + 1) = dG (gr m b) (s + 1) := by
      rw [dG_succ, dG_succ, ih]
      unfold fq
      by_cases e : s = k
      · subst e
        rw [mi_low hj, mi_low' sy hj, mi_low hj]; simp
      · simp [e]
    refine ⟨fun i i' => ?_, hs1⟩
    refine Int.eq_of_mul_eq_mul_left hs0 ?_
    have h1 := mi_step (G := gr m (redq b k j q)) (k := s) (by rw [ig]; exact hs0) i i'
    rw [ig, hs1, ih, ih, ih] at h1
    rw [h1]
    have st := mi_step (G := gr m b) (k := s) hs0
    have e1 := st i i'
    have e2 := st j i'
    have e3 := st i j
    have e4 := st j j
    have z1 : s = k → ∀ i, mi (gr m b) s i j = 0 := fun e i => mi_low (by omega)
    have z2 : s = k → ∀ i, mi (gr m b) s j i = 0 := fun e i => mi_low' sy (by omega)
    unfold fq
    by_cases e : s = k
    · have a1 := z1 e i
      have a2 := z1 e s
      have a3 := z1 e j
      have a4 := z2 e i'
      have a5 := z2 e s
      simp only [a1, a2, a3, a4, a5] at e2 e3 e4 ⊢
      by_cases h1 : i = k <;> by_cases h2 : i' = k <;> simp [h1, h2, e] at e1 e2 e3 e4 ⊢ <;> grind
    · by_cases h1 : i = k <;> by_cases h2 : i' = k <;> simp [h1, h2, e] at e1 e2 e3 e4 ⊢ <;> grind
theorem gr_swb (m : Nat) (b : Mx) (p i j : Nat) : gr m (swb b p) i j = gr m b (sx p i) (sx p j) := rfl
theorem mi_swb_low {m : Nat} {b : Mx} {p s : Nat} (hs : s ≤ p) (i j : Nat) : mi (gr m (swb b p)) s i j = mi (gr m b) s (sx p i) (sx p j) := by
  have e : ∀ (i x : Nat), x < s + 1 → sx p ((i :: dn s).getD x 0) = (sx p i :: dn s).getD x 0 := fun i x hx => by
    cases x with
    | zero => rfl
    | succ x => rw [List.getD_cons_succ, List.getD_cons_succ, dn_get (by omega), sx_low (by omega)]
  exact det_congr fun x y hx hy => by
    show gr m b (sx p _) (sx p _) = gr m b _ _
    rw [e i x hx, e j y hy]
theorem dG_swb_low {m : Nat} {b : Mx} {p s : Nat} (hs : s ≤ p) : dG (gr m (swb b p)) s = dG (gr m b) s :=
  dG_congr fun i j hi hj => by rw [gr_swb, sx_low (by omega), sx_low (by omega)]
theorem dG_swb_at (m : Nat) (b : Mx) (p : Nat) : dG (gr m (swb b p)) (p + 1) = mi (gr m b) p (p + 1) (p + 1) := by
  rw [dG_succ, mi_swb_low (Nat.le_refl _), sx_at]
theorem two_steps {D a b c d1 xi xj yi yj z Tij Ti Tj X : Int} (ha : a ≠ 0) (e1 : D * Tij = a * z - xi * xj) (e2 : D * Ti = a * yi - xi * c) (e3 : D * Tj = a * yj - c * xj) (e4 : D * d1 = a * b - c * c) (e5 : a * X = d1 * Tij - Ti * Tj) :
    D * D * X = (a * b - c * c) * z - b * (xi * xj) - a * (yi * yj) + c * (yi * xj + xi * yj) := by
  refine Int.eq_of_mul_eq_mul_left ha ?_
  have h : a * (D * D * X) = (D * d1) * (D * Tij) - (D * Ti) * (D * Tj) := by
    have : a * (D * D * X) = D * D * (a * X) := by grind
    rw [this, e5]; grind
  rw [h, e1, e2, e3, e4]; grind
/-- Two steps on, nothing tells that two rows were changed about. -/
theorem mi_swb_two {m : Nat} {b : Mx} {p : Nat} (h0 : dG (gr m b) p ≠ 0) (h1 : dG (gr m b) (p + 1) ≠ 0) (h2 : mi (gr m b) p (p + 1) (p + 1) ≠ 0) (i j : Nat) :
    mi (gr m (swb b p)) (p + 2) i j = mi (gr m b) (p + 2) (sx p i) (sx p j) := by
  have key : ∀ (b : Mx) (h0 : dG (gr m b) p ≠ 0) (h1 : dG (gr m b) (p + 1) ≠ 0) (i j : Nat), dG (gr m b) p * dG (gr m b) p * mi (gr m b) (p + 2) i j =
      (mi (gr m b) p p p * mi (gr m b) p (p + 1) (p + 1) - mi (gr m b) p (p + 1) p * mi (gr m b) p (p + 1) p) * mi (gr m b) p i j - mi (gr m b) p (p + 1) (p + 1) * (mi (gr m b) p i p * mi (gr m b) p p j) - mi (gr m b) p p p * (mi (gr m b) p i (p + 1) * mi (gr m b) p (p + 1) j) + mi (gr m b) p (p + 1) p * (mi (gr m b) p i (p + 1) * mi (gr m b) p p j + mi (gr m b) p i p * mi (gr m b) p (p + 1) j) := fun b h0 h1 i j => by
    have st := mi_step h0
    have sy : mi (gr m b) p p (p + 1) = mi (gr m b) p (p + 1) p := mi_symm (gr_symm m b) _ _ _
    exact two_steps (Tij := mi (gr m b) (p + 1) i j) (Ti := mi (gr m b) (p + 1) i (p + 1)) (Tj := mi (gr m b) (p + 1) (p + 1) j) (d1 := dG (gr m b) (p + 2)) h1
      (by rw [st, dG_succ]) (by rw [st, dG_succ, sy]) (by rw [st, dG_succ]) (by rw [dG_succ, st, dG_succ, sy]) (mi_step h1 i j)
  have ga := dG_swb_low (m := m) (b := b) (p := p) (Nat.le_refl p)
  have gb := dG_swb_at m b p
  refine Int.eq_of_mul_eq_mul_left (Int.mul_ne_zero h0 h0) ?_
  have k1 := key (swb b p) (by rw [ga]; exact h0) (by rw [gb]; exact h2) i j
  have k2 := key b h0 h1 (sx p i) (sx p j)
  rw [ga] at k1
  rw [k1, k2]
  simp only [mi_swb_low (Nat.le_refl p), sx_at, sx_at']
  have sy : mi (gr m b) p p (p + 1) = mi (gr m b) p (p + 1) p := mi_symm (gr_symm m b) _ _ _
  rw [sy]; grind
theorem dG_swb_two {m : Nat} {b : Mx} {p : Nat} (h0 : dG (gr m b) p ≠ 0) : dG (gr m (swb b p)) (p + 2) = dG (gr m b) (p + 2) := by
  have st := mi_step h0
  have sy : mi (gr m b) p p (p + 1) = mi (gr m b) p (p + 1) p := mi_symm (gr_symm m b) _ _ _
  have ga := dG_swb_low (m := m) (b := b) (p := p) (Nat.le_refl p)
  have gb := dG_swb_at m b p
  have st' := mi_step (G := gr m (swb b p)) (k := p) (by rw [ga]; exact h0) (p + 1) (p + 1)
  refine Int.eq_of_mul_eq_mul_left h0 ?_
  rw [dG_succ, dG_succ, st, ← ga, st', gb, dG_succ]
  simp only [mi_swb_low (Nat.le_refl p), sx_at, sx_at']
  rw [sy]; grind
theorem mi_swb_high {m : Nat} {b : Mx} {p : Nat} (h0 : dG (gr m b) p ≠ 0) (h1 : dG (gr m b) (p + 1) ≠ 0) (h2 : mi (gr m b) p (p + 1) (p + 1) ≠ 0) : ∀ (e : Nat), (∀ t, p + 2 ≤ t → t < p + 2 + e → dG (gr m b) t ≠ 0) →
    (∀ i j, mi (gr m (swb b p)) (p + 2 + e) i j = mi (gr m b) (p + 2 + e) (sx p i) (sx p j)) ∧ dG (gr m (swb b p)) (p + 2 + e) = dG (gr m b) (p + 2 + e)
  | 0, _ => ⟨mi_swb_two h0 h1 h2, dG_swb_two h0⟩
  | e + 1, h => by
    obtain ⟨ih, ig⟩ := mi_swb_high h0 h1 h2 e fun t h3 h4 => h t h3 (by omega)
    have hs0 := h (p + 2 + e) (by omega) (by omega)
    have hx : sx p (p + 2 + e) = p + 2 + e := sx_high (by omega)
    have hs1 : dG (gr m (swb b p)) (p + 2 + e + 1) = dG (gr m b) (p + 2 + e + 1) := by rw [dG_succ, dG_succ, ih, hx]
    refine ⟨fun i j => ?_, hs1⟩
    refine Int.eq_of_mul_eq_mul_left hs0 ?_
    have st' := mi_step (G := gr m (swb b p)) (k := p + 2 + e) (by rw [ig]; exact hs0) i j
    have st := mi_step (G := gr m b) (k := p + 2 + e) hs0 (sx p i) (sx p j)
    show dG (gr m b) (p + 2 + e) * mi (gr m (swb b p)) (p + 2 + e + 1) i j = dG (gr m b) (p + 2 + e) * mi (gr m b) (p + 2 + e + 1) (sx p i) (sx p j)
    rw [st, ← ig, st', hs1, ih, ih, ih, hx]
end Go.Proofs.Ytabdfhdddmbmlaa

namespace Go.Proofs.Ytabdfhdddmbmlaa
/-- The nearest whole number to x / y. -/
def rnd (x y : Int) : Int := (2 * x + y) / (2 * y)
theorem rnd_near {x y : Int} (h : 0 < y) : - y ≤ 2 * (x - rnd x y * y) ∧ 2 * (x - rnd x y * y) < y := by
  have h1 := Int.emod_add_mul_ediv (2 * x + y) (2 * y)
  have h2 := Int.emod_nonneg (2 * x + y) (show 2 * y ≠ 0 by omega)
  have h3 := Int.emod_lt_of_pos (2 * x + y) (show 0 < 2 * y by omega)
  have e : 2 * y * ((2 * x + y) / (2 * y)) = 2 * (rnd x y * y) := by unfold rnd; grind
  rw [e] at h1
  omega
/-- The number l(k, j). -/
def lm (m : Nat) (b : Mx) (k j : Nat) : Int := mi (gr m b) j k j
/-- d(k). -/
def dm (m : Nat) (b : Mx) (k : Nat) : Int := dG (gr m b) k
/-- Row k is brought to size: j, j - 1 .. 0 are done. -/
def redr (m k : Nat) : Nat → Mx → Mx → Mx × Mx
  | 0, b, u => (b, u)
  | j + 1, b, u => redr m k j (redq b k j (rnd (lm m b k j) (dm m b (j + 1)))) (redq u k j (rnd (lm m b k j) (dm m b (j + 1))))
def farL (m : Nat) (b : Mx) (k : Nat) : Prop := 3 * (dm m b k * dm m b k) ≤ 4 * (dm m b (k + 1) * dm m b (k - 1) + lm m b k (k - 1) * lm m b k (k - 1))
instance (m : Nat) (b : Mx) (k : Nat) : Decidable (farL m b k) := inferInstanceAs (Decidable (_ ≤ _))
def lrun (m n : Nat) : Nat → Mx → Mx → Nat → Option (Mx × Mx)
  | 0, _, _, _ => none
  | f + 1, b, u, k => if n ≤ k then some (b, u)
    else if farL m (redr m k k b u).1 k then lrun m n f (redr m k k b u).1 (redr m k k b u).2 (k + 1)
    else lrun m n f (swb (redr m k k b u).1 (k - 1)) (swb (redr m k k b u).2 (k - 1)) (max 1 (k - 1))
theorem redr_succ (m k j : Nat) (b u : Mx) : redr m k (j + 1) b u = redr m k j (redq b k j (rnd (lm m b k j) (dm m b (j + 1)))) (redq u k j (rnd (lm m b k j) (dm m b (j + 1)))) := rfl
/-- Independent. -/
def Ind (m n : Nat) (b : Mx) : Prop := ∀ t, t ≤ n → 0 < dm m b t
theorem Ind.ne {m n : Nat} {b : Mx} (h : Ind m n b) {t : Nat} (ht : t ≤ n) : dG (gr m b) t ≠ 0 := by have := h t ht; unfold dm at this; omega
section
variable {m n : Nat} {b u : Mx} {k j : Nat} {q : Int}
theorem dm_redq (h : Ind m n b) (hj : j < k) {t : Nat} (ht : t ≤ n) : dm m (redq b k j q) t = dm m b t :=
  (mi_redq hj t fun s hs => h.ne (by omega)).2
theorem Ind.redq (h : Ind m n b) (hj : j < k) : Ind m n (redq b k j q) := fun t ht => by rw [dm_redq h hj ht]; exact h t ht
theorem lm_redq (h : Ind m n b) (hj : j < k) {i t : Nat} (ht : t < i) (hi : i < n) :
    lm m (redq b k j q) i t = if i = k then (if t < j then lm m b k t - q * lm m b j t else if t = j then lm m b k j - q * dm m b (j + 1) else lm m b k t) else lm m b i t := by
  have sy := gr_symm m b
  unfold lm
  rw [(mi_redq hj t fun s hs => h.ne (by omega)).1]
  unfold fq
  by_cases e : i = k
  · have htk : t ≠ k := by omega
    simp only [e, if_true, htk, if_false, and_false]
    by_cases h1 : t < j
    · simp [h1]
    · by_cases h2 : t = j
      · subst h2; simp [dm, dG_succ]
      · rw [if_neg h1, if_neg h2, mi_low' sy (show j < t by omega)]; simp
  · simp only [e, if_false, false_and]
    by_cases h1 : t = k
    · subst h1
      rw [if_pos rfl, mi_low hj]; simp
    · rw [if_neg h1]; simp
/-- Row k is of size from j on. -/
def Size (m : Nat) (b : Mx) (k j : Nat) : Prop := ∀ t, j ≤ t → t < k → - dm m b (t + 1) ≤ 2 * lm m b k t ∧ 2 * lm m b k t < dm m b (t + 1)
theorem Size.next (h : Ind m n b) (hs : Size m b k (j + 1)) (hj : j < k) (hk : k < n) : Size m (redq b k j (rnd (lm m b k j) (dm m b (j + 1)))) k j := fun t h1 h2 => by
  rw [dm_redq h hj (by omega), lm_redq h hj h2 hk, if_pos rfl, if_neg (by omega)]
  split
  · rename_i e
    subst e
    exact rnd_near (h (t + 1) (by omega))
  · exact hs t (by omega) h2
/-- What a row's way to its size leaves. -/
structure Way (m n k : Nat) (b b' : Mx) : Prop where
  ind : Ind m n b'
  d : ∀ t, t ≤ n → dm m b' t = dm m b t
  l : ∀ i t, t < i → i < n → i ≠ k → lm m b' i t = lm m b i t
theorem redr_way (hk : k < n) : ∀ (j : Nat) (b u : Mx), j ≤ k → Ind m n b → Size m b k j → Way m n k b (redr m k j b u).1 ∧ Size m (redr m k j b u).1 k 0
  | 0, b, u, _, h, hs => ⟨⟨h, fun _ _ => rfl, fun _ _ _ _ _ => rfl⟩, hs⟩
  | j + 1, b, u, hj, h, hs => by
    obtain ⟨w, ws⟩ := redr_way hk j (redq b k j (rnd (lm m b k j) (dm m b (j + 1)))) (redq u k j (rnd (lm m b k j) (dm m b (j + 1)))) (by omega) (h.redq (by omega)) (hs.next h (by omega) hk)
    exact ⟨⟨w.ind, fun t ht => by rw [redr_succ, w.d t ht, dm_redq h (by omega) ht], fun i t h1 h2 h3 => by rw [redr_succ, w.l i t h1 h2 h3, lm_redq h (by omega) h1 h2, if_neg h3]⟩, ws⟩
theorem redr_full (hk : k < n) (h : Ind m n b) : Way m n k b (redr m k k b u).1 ∧ Size m (redr m k k b u).1 k 0 :=
  redr_way hk k b u (Nat.le_refl _) h fun t h1 h2 => by omega
-- Two rows changed about.
theorem dd {p : Nat} (h : Ind m n b) (hp : p + 1 < n) : dm m b (p + 1) * mi (gr m b) p (p + 1) (p + 1) = dm m b p * dm m b (p + 2) + lm m b (p + 1) p * lm m b (p + 1) p := by
  have st := mi_step (G := gr m b) (k := p) (h.ne (by omega)) (p + 1) (p + 1)
  rw [mi_symm (gr_symm m b) p p (p + 1)] at st
  unfold dm lm
  rw [dG_succ (gr m b) (p + 1)]
  omega
theorem dd_pos {p : Nat} (h : Ind m n b) (hp : p + 1 < n) : 0 < mi (gr m b) p (p + 1) (p + 1) := by
  have e := dd h hp
  have h1 := Int.mul_pos (h p (by omega)) (h (p + 2) (by omega))
  have h2 := sq_nn (lm m b (p + 1) p)
  have h3 : 0 < dm m b (p + 1) * mi (gr m b) p (p + 1) (p + 1) := by omega
  exact Int.pos_of_mul_pos_right_of_pos h3 (h (p + 1) (by omega))
where
  Int.pos_of_mul_pos_right_of_pos {a b : Int} (h : 0 < a * b) (ha : 0 < a) : 0 < b := by
    rcases Int.lt_trichotomy b 0 with h1 | h1 | h1
    · have := Int.mul_neg_of_pos_of_neg ha h1; omega
    · rw [h1, Int.mul_zero] at h; omega
    · exact h1
theorem dm_swb {p : Nat} (h : Ind m n b) (hp : p + 1 < n) {t : Nat} (ht : t ≤ n) : dm m (swb b p) t = if t = p + 1 then mi (gr m b) p (p + 1) (p + 1) else dm m b t := by
  unfold dm
  by_cases h1 : t ≤ p
  · rw [if_neg (by omega)]; exact dG_swb_low h1
  · by_cases h2 : t = p + 1
    · rw [if_pos h2, h2]; exact dG_swb_at _ _ _
    · rw [if_neg h2]
      obtain ⟨e, rfl⟩ : ∃ e, t = p + 2 + e := ⟨t - (p + 2), by omega⟩
      exact (mi_swb_high (h.ne (by omega)) (h.ne (by omega)) (by have := dd_pos h hp; omega) e fun s h3 h4 => h.ne (by omega)).2
theorem Ind.swb {p : Nat} (h : Ind m n b) (hp : p + 1 < n) : Ind m n (swb b p) := fun t ht => by
  rw [dm_swb h hp ht]; split
  · exact dd_pos h hp
  · exact h t ht
/-- The numbers l, when the rows p and p + 1 are changed about. -/
theorem lm_swb {p : Nat} (h : Ind m n b) (hp : p + 1 < n) {i t : Nat} (ht : t < i) (hi : i < n) :
    lm m (swb b p) i t = if i = p + 1 ∧ t = p then lm m b (p + 1) p else if t = p then mi (gr m b) p i (p + 1) else if t = p + 1 then mi (gr m (swb b p)) (p + 1) i (p + 1) else lm m b (sx p i) t := by
  unfold lm
  by_cases h1 : t < p
  · rw [if_neg (by omega), if_neg (by omega), if_neg (by omega), mi_swb_low (by omega), sx_low (i := t) h1]
  · by_cases h2 : t = p
    · subst h2
      rw [mi_swb_low (Nat.le_refl _), sx_at]
      by_cases h3 : i = t + 1
      · subst h3
        rw [if_pos ⟨rfl, rfl⟩, sx_at', mi_symm (gr_symm m b)]
      · rw [if_neg (by omega), if_pos rfl, sx_high (by omega)]
    · by_cases h4 : t = p + 1
      · rw [if_neg (by omega), if_neg h2, if_pos h4, h4]
      · rw [if_neg (by omega), if_neg h2, if_neg h4]
        obtain ⟨e, rfl⟩ : ∃ e, t = p + 2 + e := ⟨t - (p + 2), by omega⟩
        rw [(mi_swb_high (h.ne (by omega)) (h.ne (by omega)) (by have := dd_pos h hp; omega) e fun s h3 h4 => h.ne (by omega)).1, sx_high (i := p + 2 + e) (by omega)]
/-- As the program reckons them, i behind both. -/
theorem lm_swb_one {p : Nat} (h : Ind m n b) (hp : p + 1 < n) {i : Nat} (hi : p + 1 < i) (hn : i < n) :
    dm m b (p + 1) * lm m (swb b p) i (p + 1) = dm m b (p + 2) * lm m b i p - lm m b (p + 1) p * lm m b i (p + 1) := by
  rw [lm_swb h hp (by omega) hn, if_neg (by omega), if_neg (by omega), if_pos rfl]
  have h0 := h.ne (t := p) (by omega)
  have st := mi_step (G := gr m b) (k := p) h0
  have gs := dG_swb_low (m := m) (b := b) (p := p) (Nat.le_refl p)
  have st' := mi_step (G := gr m (swb b p)) (k := p) (by rw [gs]; exact h0) i (p + 1)
  rw [gs, dG_swb_at] at st'
  simp only [mi_swb_low (Nat.le_refl p), sx_at, sx_at', sx_high hi] at st'
  have e1 := st i (p + 1)
  have e2 := st (p + 1) (p + 1)
  have sy := mi_symm (gr_symm m b) p p (p + 1)
  unfold lm dm at *
  rw [dG_succ] at e1 e2 ⊢
  rw [dG_succ (gr m b) (p + 1)]
  refine Int.eq_of_mul_eq_mul_left h0 ?_
  try rw [sy] at e1
  try rw [sy] at e2
  try rw [sy] at st'
  grind
theorem lm_swb_two {p : Nat} (h : Ind m n b) (hp : p + 1 < n) {i : Nat} (hi : p + 1 < i) (hn : i < n) :
    dm m b (p + 2) * lm m (swb b p) i p = mi (gr m b) p (p + 1) (p + 1) * lm m b i (p + 1) + lm m b (p + 1) p * lm m (swb b p) i (p + 1) := by
  have h1 := lm_swb_one h hp hi hn
  have e0 : lm m (swb b p) i p = mi (gr m b) p i (p + 1) := by rw [lm_swb h hp (by omega) hn, if_neg (by omega), if_pos rfl]
  rw [e0]
  have h0 := h.ne (t := p) (by omega)
  have ha := h.ne (t := p + 1) (by omega)
  have st := mi_step (G := gr m b) (k := p) h0
  have e1 := st i (p + 1)
  have e2 := st (p + 1) (p + 1)
  have sy := mi_symm (gr_symm m b) p p (p + 1)
  generalize lm m (swb b p) i (p + 1) = X at *
  unfold lm dm at *
  rw [dG_succ (gr m b) (p + 1)] at *
  try rw [sy] at e1
  try rw [sy] at e2
  refine Int.eq_of_mul_eq_mul_left h0 (Int.eq_of_mul_eq_mul_left ha ?_)
  generalize dG (gr m b) p = D at *
  generalize dG (gr m b) (p + 1) = a at *
  grind
end
end Go.Proofs.Ytabdfhdddmbmlaa

namespace Go.Proofs.Ytabdfhdddmbmlaa
open Go.RowKit
theorem zShlJ (v : Value) (x : Bool × List Nat) (n : Int) (hx : Lim x.2) (lx : x.2.length ≤ 1099511627776) :
    Meets Try.prog 39 [v, .int .i64 n] [(v, J x)] (fun r os fs => os = [] ∧ fs = [(r, zd (jv x * 2 ^ far n))]) := by
  have e : (if x.1 then -((nv x.2 * 2 ^ far n : Nat) : Int) else ((nv x.2 * 2 ^ far n : Nat) : Int)) = jv x * 2 ^ far n := by
    unfold jv iv
    cases x.1 <;> simp [Int.neg_mul]
  have hm := fun u => made_lims u x.1 (nv x.2 * 2 ^ far n)
  rw [e] at hm
  refine meets_of_vc Try.func39 (by kernel_rfl) rfl (by kernel_rfl) (Nat.le_of_ble_eq_true rfl) ?_
  refine box_rule (Reads.fact (d := I x.1 x.2) mM) fun p hp => ?_
  refine alloc_rule (d := I false []) fun o ho => ?_
  refine draw_rule [0, 1, 2, 3, 4, 5, 6, 7] [0, 1, 2, 3, 4, 5, 6, 7] (by kernel_rfl) (by kernel_rfl) ?_
  refine field_box 1 rfl hp ?_
  refine load_box_field_one 1 rfl (Part.left (Part.refl _)) ?_
  refine field_box 1 rfl hp ?_
  refine load_box_field 1 rfl (Part.right (Part.refl _)) (load_L _) fun u1 => ?_
  refine call_fn (shl_meets u1 x.2 n hx lx) (Seals.refl _ _) mS ?_
  rintro u2 _ _ ⟨rfl, rfl⟩
  refine call_fn (hm u2) (Seals.refl _ _) mS ?_
  rintro u3 _ _ ⟨rfl, rfl⟩
  refine store_box (d := zd (jv x * 2 ^ far n)) 0 rfl ho rfl (by kernel_rfl) ?_ ?_; exact Reads.fact mM
  refine load_box (d := zd (jv x * 2 ^ far n)) 0 rfl ho rfl (load_I _ _) fun r => ?_
  exact fin ⟨rfl, rfl⟩ (Seals.trans (Seals.drop 0 _ _) (Seals.trans (Seals.drop 0 _ _) (Seals.sub (fs' := [(r, zd (jv x * 2 ^ far n))]) mS)))
theorem zShlZ (v : Value) (x : Int) (n : Int) (a : Nat) (hx : sz x a) (ha : a ≤ 1099511627776) :
    Meets Try.prog 39 [v, .int .i64 n] [(v, zd x)] (fun r os fs => os = [] ∧ fs = [(r, zd (x * 2 ^ far n))]) := by
  have h := zShlJ v (cn x) n (Lim_lims _) (Nat.le_trans hx.len ha)
  rw [jv_cn] at h
  exact h
theorem zd_pos {y : Int} (h : 0 < y) : zd y = I false (lims y.natAbs) := by
  rw [zd_I, decide_eq_false (by omega)]
theorem zDown_meets (v w : Value) (x y : Int) (a b : Nat) (hx : sz x a) (hy : sz y b) (ha : a ≤ 137438953472) (hb : b ≤ 137438953472) (h0 : 0 < y) :
    Meets Try.prog 85 [v, w] [(v, zd x), (w, zd y)] (fun r os fs => os = [] ∧ ∃ q, r = .tuple #[q, .bool true] ∧ fs = [(q, zd (x / y))]) := by
  have hc := fun u1 u2 => zDivModZ u1 u2 x y a b hx hy ha hb (by omega)
  have e := zd_pos h0
  refine meets_of_vc Try.func85 (by kernel_rfl) rfl (by kernel_rfl) (Nat.le_of_ble_eq_true rfl) ?_
  refine box_rule (Reads.fact (d := zd x) mM) fun p hp => ?_
  refine box_rule (Reads.fact (d := zd y) mM) fun q hq => ?_
  refine alloc_rule (d := I false []) fun o ho => ?_
  refine field_box 1 rfl hq ?_
  refine load_box_field_one (u := .bool false) 1 rfl (show Part 0 (zd y) (.one (.bool false)) by rw [e]; exact Part.left (Part.refl _)) ?_
  refine load_box (d := zd x) 2 rfl hp rfl (load_I _ _) fun u1 => ?_
  refine load_box (d := zd y) 1 rfl hq rfl (load_I _ _) fun u2 => ?_
  refine call_fn (hc u1 u2) (Seals.refl _ _) mS ?_
  rintro _ _ _ ⟨rfl, z, m, rfl, rfl⟩
  refine alloc_rule (d := I false []) fun c1 h1 => ?_
  refine alloc_rule (d := I false []) fun c2 h2 => ?_
  refine store_box (d := zd (x / y)) 1 rfl h1 rfl (by kernel_rfl) ?_ ?_; exact Reads.fact mM
  refine store_box (d := zd (x % y)) 0 rfl h2 rfl (by kernel_rfl) ?_ ?_; exact Reads.fact mM
  refine load_box (d := zd (x / y)) 1 rfl h1 rfl (load_I _ _) fun u3 => ?_
  refine store_box (d := zd (x / y)) 2 rfl ho rfl (by kernel_rfl) ?_ ?_; exact Reads.fact mM
  refine load_box (d := zd (x / y)) 2 rfl ho rfl (load_I _ _) fun r => ?_
  exact fin ⟨rfl, r, rfl, rfl⟩ (Seals.trans (Seals.drop 0 _ _) (Seals.trans (Seals.drop 0 _ _) (Seals.trans (Seals.drop 0 _ _) (Seals.trans (Seals.drop 0 _ _) (Seals.trans (Seals.drop 0 _ _) (Seals.sub (fs' := [(r, zd (x / y))]) mS))))))
theorem zRound_meets (v w : Value) (x y : Int) (a : Nat) (hx : sz x a) (hy : sz y a) (ha : a + 2 ≤ 137438953472) (h0 : 0 < y) :
    Meets Try.prog 62 [v, w] [(v, zd x), (w, zd y)] (fun r os fs => os = [] ∧ ∃ q, r = .tuple #[q, .bool true] ∧ fs = [(q, zd (rnd x y))]) := by
  have s1 : sz (x * 2) (a + 1) := hx.mul (sz_one' 2 (by decide))
  have s2 : sz (y * 2) (a + 1) := hy.mul (sz_one' 2 (by decide))
  have s3 : sz (x * 2 + y) (a + 2) := by
    have := sz_sub s1 ((hy.neg).mono (show a ≤ a + 1 by omega))
    rw [show x * 2 - -y = x * 2 + y by omega] at this
    exact this
  have f1 : (2 : Int) ^ far 1 = 2 := by decide
  have c1 := fun u => zShlZ u x 1 a hx (by omega)
  have c2 := fun u => zShlZ u y 1 a hy (by omega)
  rw [f1] at c1 c2
  have c3 := fun u1 u2 => zAddZ u1 u2 (x * 2) y (a + 1) a s1 hy (by omega) (by omega)
  have c4 := fun u1 u2 => zDown_meets u1 u2 (x * 2 + y) (y * 2) (a + 2) (a + 1) s3 s2 ha (by omega) (by omega)
  rw [show (x * 2 + y) / (y * 2) = rnd x y by unfold rnd; rw [Int.mul_comm x, Int.mul_comm y]] at c4
  refine meets_of_vc Try.func62 (by kernel_rfl) rfl (by kernel_rfl) (Nat.le_of_ble_eq_true rfl) ?_
  refine box_rule (Reads.fact (d := zd x) mM) fun p hp => ?_
  refine box_rule (Reads.fact (d := zd y) mM) fun q hq => ?_
  refine alloc_rule (d := I false []) fun o ho => ?_
  refine draw_rule [0, 2, 4, 1, 3, 5, 6, 7, 8, 9, 10] [0, 1, 2, 3, 4, 5, 6, 7, 8, 9, 10] (by kernel_rfl) (by kernel_rfl) ?_
  refine load_box (d := zd x) 2 rfl hp rfl (load_I _ _) fun u1 => ?_
  refine load_box (d := zd y) 1 rfl hq rfl (load_I _ _) fun u2 => ?_
  refine load_box (d := zd y) 1 rfl hq rfl (load_I _ _) fun u3 => ?_
  refine call_fn (c1 u1) (Seals.refl _ _) mS ?_
  rintro u4 _ _ ⟨rfl, rfl⟩
  refine call_fn (c3 u4 u2) (Seals.refl _ _) mS ?_
  rintro u5 _ _ ⟨rfl, rfl⟩
  refine call_fn (c2 u3) (Seals.refl _ _) mS ?_
  rintro u6 _ _ ⟨rfl, rfl⟩
  refine call_fn (c4 u5 u6) (Seals.refl _ _) mS ?_
  rintro _ _ _ ⟨rfl, z, rfl, rfl⟩
  refine store_box (d := zd (rnd x y)) 0 rfl ho rfl (by kernel_rfl) ?_ ?_; exact Reads.fact mM
  refine load_box (d := zd (rnd x y)) 0 rfl ho rfl (load_I _ _) fun r => ?_
  exact fin ⟨rfl, r, rfl, rfl⟩ (Seals.trans (Seals.drop 0 _ _) (Seals.trans (Seals.drop 0 _ _) (Seals.trans (Seals.drop 0 _ _) (Seals.sub (fs' := [(r, zd (rnd x y))]) mS))))
where
  sz_one' (x : Int) (h : x.natAbs < 18446744073709551616) : sz x 1 := by unfold sz; simpa using h
theorem cmp_sign (x y : Int) : (if x.sign < y.sign then -1 else if y.sign < x.sign then 1 else x.sign * cmpN x.natAbs y.natAbs) = (x - y).sign := by
  have sg : ∀ z : Int, z < 0 → z.sign = -1 := fun z h => Int.sign_eq_neg_one_of_neg h
  have sp : ∀ z : Int, 0 < z → z.sign = 1 := fun z h => Int.sign_eq_one_of_pos h
  have fin : ∀ c : Int, (c = -1 ∧ x - y < 0) ∨ (c = 1 ∧ 0 < x - y) ∨ (c = 0 ∧ x - y = 0) → c = (x - y).sign := fun c h => by
    rcases h with ⟨h1, h2⟩ | ⟨h1, h2⟩ | ⟨h1, h2⟩
    · rw [h1, sg _ h2]
    · rw [h1, sp _ h2]
    · rw [h1, h2]; rfl
  refine fin _ ?_
  unfold cmpN
  rcases Int.lt_trichotomy x 0 with hx | hx | hx <;> rcases Int.lt_trichotomy y 0 with hy | hy | hy
  · rw [sg _ hx, sg _ hy]; simp only [Int.lt_irrefl, if_false]; split
    · right; left; omega
    · split
      · left; omega
      · right; right; omega
  · rw [sg _ hx, hy]; left; simp; omega
  · rw [sg _ hx, sp _ hy]; left; simp; omega
  · rw [hx, sg _ hy]; right; left; simp; omega
  · rw [hx, hy]; right; right; simp
  · rw [hx, sp _ hy]; left; simp; omega
  · rw [sp _ hx, sg _ hy]; right; left; simp; omega
  · rw [sp _ hx, hy]; right; left; simp; omega
  · rw [sp _ hx, sp _ hy]; simp only [Int.lt_irrefl, if_false]; split
    · left; omega
    · split
      · right; left; omega
      · right; right; omega
/-- Cmp tells the sign of the difference. -/
theorem zCmpS (v w : Value) (s t : Bool) (a b : List Nat) (ha : Lim a) (hb : Lim b) (la : a.length ≤ 137438953472) (lb : b.length ≤ 137438953472) :
    Meets Try.prog 38 [v, w] [(v, I s a), (w, I t b)] (fun r os fs => os = [] ∧ fs = [] ∧ r = .int .i64 (iv s a - iv t b).sign) := by
  have hc := cmp_sign (iv s a) (iv t b)
  rw [iv_abs, iv_abs] at hc
  have hr := cmpN_range (nv a) (nv b)
  have hsg : ∀ x : Int, -1 ≤ x.sign ∧ x.sign ≤ 1 := fun x => by
    rcases Int.lt_trichotomy x 0 with h | h | h
    · rw [Int.sign_eq_neg_one_of_neg h]; omega
    · rw [h]; simp
    · rw [Int.sign_eq_one_of_pos h]; omega
  have h1 := hsg (iv s a)
  have h2 := hsg (iv t b)
  have hp : -1 ≤ (iv s a).sign * cmpN (nv a) (nv b) ∧ (iv s a).sign * cmpN (nv a) (nv b) ≤ 1 := by
    have : (iv s a).sign = -1 ∨ (iv s a).sign = 0 ∨ (iv s a).sign = 1 := by omega
    rcases this with h | h | h <;> rw [h] <;> omega
  refine meets_of_vc Try.func38 (by kernel_rfl) rfl (by kernel_rfl) (Nat.le_of_ble_eq_true rfl) ?_
  refine box_rule (Reads.fact (d := I s a) mM) fun p hp' => ?_
  refine box_rule (Reads.fact (d := I t b) mM) fun q hq' => ?_
  refine draw_rule [0, 2, 1, 3, 4, 5] [0, 1, 2, 3, 4, 5] (by kernel_rfl) (by kernel_rfl) ?_
  refine load_box (d := I s a) 1 rfl hp' rfl (load_I _ _) fun y1 => ?_
  refine load_box (d := I t b) 0 rfl hq' rfl (load_I _ _) fun y2 => ?_
  refine call_fn (zsign_meets y1 s a ha la) (Seals.refl _ _) mS ?_
  rintro _ _ _ ⟨rfl, rfl, rfl⟩
  refine call_fn (zsign_meets y2 t b hb lb) (Seals.refl _ _) mS ?_
  rintro _ _ _ ⟨rfl, rfl, rfl⟩
  refine cmp_split _ rfl (fun hlt => ?_) (fun hlt => ?_)
  · rw [if_pos hlt] at hc
    exact fin ⟨rfl, rfl, congrArg (Value.int .i64) hc⟩ (Seals.trans (Seals.drop 0 _ _) (Seals.trans (Seals.drop 0 _ _) (Seals.nil _ _)))
  · rw [if_neg hlt] at hc
    refine cmp_split _ rfl (fun hgt => ?_) (fun hgt => ?_)
    · rw [if_pos (by omega)] at hc
      exact fin ⟨rfl, rfl, congrArg (Value.int .i64) hc⟩ (Seals.trans (Seals.drop 0 _ _) (Seals.trans (Seals.drop 0 _ _) (Seals.nil _ _)))
    · rw [if_neg (by omega)] at hc
      refine field_box 1 rfl hp' ?_
      refine load_box_field 1 rfl (Part.right (Part.refl _)) (load_L _) fun u1 => ?_
      refine field_box 0 rfl hq' ?_
      refine load_box_field 0 rfl (Part.right (Part.refl _)) (load_L _) fun u2 => ?_
      refine call_fn (cmp_meets u1 u2 a b ha hb) (Seals.refl _ _) mS ?_
      rintro _ _ _ ⟨rfl, rfl, rfl⟩
      refine ar rfl mI ?_
      exact fin ⟨rfl, rfl, congrArg (Value.int .i64) hc⟩ (Seals.trans (Seals.drop 0 _ _) (Seals.trans (Seals.drop 0 _ _) (Seals.nil _ _)))
theorem zCmpSJ (v w : Value) (x y : Bool × List Nat) (hx : Lim x.2) (hy : Lim y.2) (lx : x.2.length ≤ 137438953472) (ly : y.2.length ≤ 137438953472) :
    Meets Try.prog 38 [v, w] [(v, J x), (w, J y)] (fun r os fs => os = [] ∧ fs = [] ∧ r = .int .i64 (jv x - jv y).sign) := zCmpS v w x.1 y.1 x.2 y.2 hx hy lx ly
theorem zCmpSZ (v w : Value) (x y : Int) (a b : Nat) (hx : sz x a) (hy : sz y b) (ha : a ≤ 137438953472) (hb : b ≤ 137438953472) :
    Meets Try.prog 38 [v, w] [(v, zd x), (w, zd y)] (fun r os fs => os = [] ∧ fs = [] ∧ r = .int .i64 (x - y).sign) := by
  have h := zCmpSJ v w (cn x) (cn y) (Lim_lims _) (Lim_lims _) (Nat.le_trans hx.len ha) (Nat.le_trans hy.len hb)
  rw [jv_cn, jv_cn] at h
  exact h
end Go.Proofs.Ytabdfhdddmbmlaa

namespace Go.Proofs.Ytabdfhdddmbmlaa
open Go.RowKit
def ptr0 (r o : Nat) : Value := .pointer (some ⟨r, o, none⟩)
theorem field_ptr {P : Program} {t : TypeId} {k off r o : Nat} {os : List Own} {fs : List Fact} {K : Cont} [ht : TFld P t k off] (k' : K (ptr0 r (o + off)) os fs) : FieldAddrK P t (ptr0 r o) k os fs K :=
  ⟨fun _ _ hw => ⟨_, fs, fun w' _ => val_run (fieldAt_run ht r o w'), k', hw⟩⟩
/-- A struct of cells. -/
def cells4 (a b c d : Value) : Dat := .cat (.one a) (.cat (.one b) (.cat (.one c) (.one d)))
def own4 (p : Value) (a b c d : Value) : Own := own1 p 4 1 fun _ => cells4 a b c d
def nth4 (a b c d : Value) : Nat → Value
  | 0 => a
  | 1 => b
  | 2 => c
  | _ => d
theorem RdC.four {S : Nat → Prop} {w : World} {a b c d : Value} {cs : List Value} : RdC S w (cells4 a b c d) cs ↔ cs = [a, b, c, d] ∧ a.oneCell' = true ∧ b.oneCell' = true ∧ c.oneCell' = true ∧ d.oneCell' = true := by
  constructor
  · rintro ⟨c1, c2, rfl, ⟨rfl, h1⟩, c3, c4, rfl, ⟨rfl, h2⟩, c5, c6, rfl, ⟨rfl, h3⟩, rfl, h4⟩
    exact ⟨rfl, h1, h2, h3, h4⟩
  · rintro ⟨rfl, h1, h2, h3, h4⟩
    exact ⟨[a], [b, c, d], rfl, ⟨rfl, h1⟩, [b], [c, d], rfl, ⟨rfl, h2⟩, [c], [d], rfl, ⟨rfl, h3⟩, rfl, h4⟩
theorem ptr_e (r o : Nat) : ptr0 r o = eptr (ptr0 r 0) o := by simp [ptr0, eptr, add_none]
theorem load4 {P : Program} {t : TypeId} {r o : Nat} {a b c d : Value} {os : List Own} {fs : List Fact} {K : Cont} [ht : TOne P t] (pos k : Nat) (h : nthOwn os pos = some (own4 (ptr0 r 0) a b c d)) (ho : o = k) (hk : k < 4)
    (k' : K (nth4 a b c d k) os fs) : LoadK P t (ptr0 r o) os fs K := by
  subst ho
  rw [ptr_e]
  have hc : o = 0 ∨ o = 1 ∨ o = 2 ∨ o = 3 := by omega
  rcases hc with rfl | rfl | rfl | rfl
  · exact load_box_field_one (e := fun _ => cells4 a b c d) pos h (Part.left (Part.refl _)) k'
  · exact load_box_field_one (e := fun _ => cells4 a b c d) pos h (Part.right (a := .one a) (Part.left (Part.refl _))) k'
  · exact load_box_field_one (e := fun _ => cells4 a b c d) pos h (Part.right (a := .one a) (Part.right (a := .one b) (Part.left (Part.refl _)))) k'
  · exact load_box_field_one (e := fun _ => cells4 a b c d) pos h (Part.right (a := .one a) (Part.right (a := .one b) (Part.right (a := .one c) (Part.refl _)))) k'
/-- A cell of a box is written. -/
theorem store_cell {P : Program} {ty : TypeId} {x : Value} {r k size : Nat} {e : Nat → Dat} {d' : Dat} {os : List Own} {fs : List Fact} {K : Cont} (pos : Nat) (h : nthOwn os pos = some (own1 (ptr0 r 0) size 1 e)) (hk : k < size) (hx : x.oneCell' = true) (ht : (P.info? ty).map (·.size) = some 1)
    (hd : ∀ S w cs, RdC S w (e 0) cs → RdC S w d' (cs.set k x)) (k' : K undef (setOwn os pos (own1 (ptr0 r 0) size 1 fun _ => d')) fs) : StoreK P ty (ptr0 r k) x os fs K := by
  refine ⟨fun G w hw => ?_⟩
  have hov := hw.own _ (nthOwn_mem h) 0 Nat.zero_lt_one
  obtain ⟨r', cap, hr⟩ := hov.row Nat.zero_lt_one
  have hrr : r' = r := by have := hr.blk; simp [own1, ptr0, vblk] at this; exact this.symm
  subst hrr
  obtain ⟨b1, b2, b3, cur, t, b4, b5, b6⟩ := hr.row
  obtain ⟨cs, c1, c2, c3⟩ := b6 0 Nat.zero_lt_one
  have hcap : 1 ≤ cap := b2
  have hfit : k + [x].length ≤ cur.size := by
    have : 1 * size ≤ cap * size := Nat.mul_le_mul_right _ hcap
    rw [b5]; simp only [List.length_cons, List.length_nil]
    have hs : (own1 (ptr0 r' 0) size 1 e).size = size := rfl
    rw [hs]; omega
  rw [show ptr0 r' k = .pointer (some ⟨r', k, none⟩) from rfl, unt_run (run_storeVar (cs := [x]) (cells_one hx) (fun u hu => by rw [List.mem_singleton.1 hu]; exact hx) (by simpa using ht) b4 hfit)]
  refine ⟨_, _, k', ?_⟩
  have hhas : (own1 (ptr0 r' 0) size 1 e).has r' := ⟨0, Nat.zero_lt_one, hr.blk⟩
  refine hw.step h rfl rfl rfl (by simp) (fun q hq hno => setRow_other w r' q _ fun e' => hno (e' ▸ hhas)) (fun b hb => .inl hb) (fun a b c ha hb _ _ => by
    have ha' : a < 1 := ha
    have hb' : b < 1 := hb
    omega) fun mono y hy => ?_
  have hy0 : y = 0 := by have : y < 1 := hy; omega
  subst hy0
  have hs : (own1 (ptr0 r' 0) size 1 e).size = size := rfl
  have hc1 : cap = 1 := by
    rcases hov with ⟨h1, h2⟩ | ⟨q, cap', h1, h2⟩ | ⟨q, h1, h2, h3⟩ | ⟨h1, _⟩
    · simp [own1, ptr0] at h1
    · simp [own1, ptr0] at h1
    · have : q = r' := by simp [own1, ptr0] at h1; exact h1.symm
      subst this
      obtain ⟨_, _, _, cur', t', q4, q5, _⟩ := h3
      rw [b4] at q4
      simp only [Option.some.injEq, Obj.cells.injEq] at q4
      obtain ⟨rfl, _⟩ := q4
      rw [q5] at b5
      exact (Nat.eq_of_mul_eq_mul_right (show 0 < (own1 (ptr0 q 0) size 1 e).size by rw [hs]; omega) b5).symm
    · simp [own1] at h1
  subst hc1
  refine .inr (.inr (.inl ⟨r', rfl, rfl, b1, Nat.le_refl _, b3, _, t, setRow_heap w r' cur _ t _ b4, ?_, fun i hi => ?_⟩))
  · simp only [List.size_toArray, List.length_append, List.length_take, List.length_drop, Array.length_toList, List.length_cons, List.length_nil] at hfit ⊢
    rw [b5] at hfit ⊢
    show _ = 1 * size
    simp only [hs] at hfit ⊢
    omega
  · have hi0 : i = 0 := by omega
    subst hi0
    have hm := mono _ cs c1
    refine ⟨cs.set k x, hd _ _ _ hm, by rw [List.length_set, c2]; rfl, fun j hj => ?_⟩
    rw [List.getElem?_toArray, seg_get _ _ _ _ (by simpa using hfit)]
    have hj' : j < size := hj
    have c3' := c3 j hj'
    rw [hs] at *
    simp only [Nat.zero_mul, Nat.zero_add, List.length_cons, List.length_nil] at *
    by_cases hjk : j = k
    · subst hjk
      rw [if_pos ⟨Nat.le_refl _, by omega⟩, Nat.sub_self]
      simp [List.getElem?_set, c2]
      exact hj'
    · rw [if_neg (by omega), Array.getElem?_toList, c3', List.getElem?_set_ne (by omega)]
theorem store4 {P : Program} {ty : TypeId} {x : Value} {r o : Nat} {a b c d : Value} {os : List Own} {fs : List Fact} {K : Cont} (pos k : Nat) (h : nthOwn os pos = some (own4 (ptr0 r 0) a b c d)) (ho : o = k) (hk : k < 4) (hx : x.oneCell' = true) (ht : (P.info? ty).map (·.size) = some 1)
    (k' : K undef (setOwn os pos (own4 (ptr0 r 0) (if k = 0 then x else a) (if k = 1 then x else b) (if k = 2 then x else c) (if k = 3 then x else d))) fs) : StoreK P ty (ptr0 r o) x os fs K := by
  subst ho
  refine store_cell (e := fun _ => cells4 a b c d) (d' := cells4 (if o = 0 then x else a) (if o = 1 then x else b) (if o = 2 then x else c) (if o = 3 then x else d)) pos h hk hx ht (fun S w cs hcs => ?_) k'
  obtain ⟨rfl, h1, h2, h3, h4⟩ := RdC.four.1 hcs
  have hc : o = 0 ∨ o = 1 ∨ o = 2 ∨ o = 3 := by omega
  rcases hc with rfl | rfl | rfl | rfl
  · exact RdC.four.2 ⟨rfl, hx, h2, h3, h4⟩
  · exact RdC.four.2 ⟨rfl, h1, hx, h3, h4⟩
  · exact RdC.four.2 ⟨rfl, h1, h2, hx, h4⟩
  · exact RdC.four.2 ⟨rfl, h1, h2, h3, hx⟩
class TPtr (P : Program) (t : TypeId) : Prop where
  und : ∃ e, P.underlying t = some (.pointer e)
theorem run_equal_ptr_nil {P : Program} {t : TypeId} (ht : TPtr P t) (a : Option Addr) (w : World) : (Op.equal t (.pointer a) (.pointer none)).run P w = .ok a.isNone w := by
  obtain ⟨e, hu⟩ := ht.und
  have h : ∀ d, (Op.equalIn (d + 1) t (.pointer a) (.pointer none)).run P w = .ok a.isNone w := fun d => by
    rw [Op.equalIn, Sem.run_bind, run_underlying hu]
    cases a <;> rfl
  exact h 9999
theorem eq_ptr {P : Program} {t : TypeId} [ht : TPtr P t] {x y : Operand} {a : Option Addr} {os : List Own} {fs : List Fact} {K : Cont} (k : K (.bool a.isNone) os fs) : BinK P .eql t x y (.pointer a) (.pointer none) os fs K := by
  have hrun : ∀ w', (do eqGuard .eql t x y (.pointer a) (.pointer none); binOp .eql t (.pointer a) (.pointer none) : Sem Value).run P w' = .ok (.bool a.isNone) w' := fun w' => by
    have h : (binOp .eql t (.pointer a) (.pointer none)) = (do pure (.bool (← Op.equal t (.pointer a) (.pointer none)))) := rfl
    have hg : (eqGuard .eql t x y (.pointer a) (.pointer none)).run P w' = .ok () w' := rfl
    rw [Sem.run_bind, hg, Result.andThen_ok, h, Sem.run_bind, run_equal_ptr_nil ht, Result.andThen_ok, Sem.run_pure]
  exact .mk <| det_pure (.bool a.isNone) hrun k
end Go.Proofs.Ytabdfhdddmbmlaa

namespace Go.Proofs.Ytabdfhdddmbmlaa
/-- The product of d(1) .. d(n - 1). -/
def pot (m : Nat) (b : Mx) : Nat → Nat
  | 0 => 1
  | n + 1 => pot m b n * (dm m b (n + 1)).toNat
theorem pot_pos {m n : Nat} {b : Mx} (h : Ind m n b) : ∀ t, t ≤ n → 0 < pot m b t
  | 0, _ => Nat.one_pos
  | t + 1, ht => Nat.mul_pos (pot_pos h t (by omega)) (by have := h (t + 1) ht; omega)
theorem pot_congr {m : Nat} {b b' : Mx} : ∀ {t : Nat}, (∀ s, s ≤ t → dm m b' s = dm m b s) → pot m b' t = pot m b t
  | 0, _ => rfl
  | t + 1, h => by rw [pot, pot, pot_congr fun s hs => h s (by omega), h (t + 1) (Nat.le_refl _)]
theorem pot_less {m n : Nat} {b b' : Mx} {k : Nat} (h : Ind m n b) (hk : 1 ≤ k) (hs : ∀ s, s ≠ k → s ≤ n → dm m b' s = dm m b s) (hlt : (dm m b' k).toNat < (dm m b k).toNat) : ∀ t, k ≤ t → t ≤ n → pot m b' t < pot m b t
  | 0, h1, _ => by omega
  | t + 1, h1, h2 => by
    rw [pot, pot]
    by_cases e : k = t + 1
    · rw [← e, pot_congr fun s hs' => hs s (by omega) (by omega)]
      exact Nat.mul_lt_mul_of_pos_left hlt (pot_pos h t (by omega))
    · rw [hs (t + 1) (by omega) h2]
      exact Nat.mul_lt_mul_of_pos_right (pot_less h hk hs hlt t (by omega) (by omega)) (by have := h (t + 1) h2; omega)
section
variable {m n : Nat} {b u : Mx} {k : Nat}
/-- Not far: changed about, d(k) is less. -/
theorem far_less (h : Ind m n b) (hk : 1 ≤ k) (hn : k < n) (hf : ¬ farL m b k) : (dm m (swb b (k - 1)) k).toNat < (dm m b k).toNat := by
  obtain ⟨p, rfl⟩ : ∃ p, k = p + 1 := ⟨k - 1, by omega⟩
  rw [Nat.add_sub_cancel, dm_swb h hn (by omega), if_pos rfl]
  have e := dd h hn
  have h1 := h (p + 1) (by omega)
  have h2 := dd_pos h hn
  unfold farL at hf
  rw [Nat.add_sub_cancel] at hf
  generalize mi (gr m b) p (p + 1) (p + 1) = x at *
  generalize hA : dm m b (p + 1) = a at *
  have h3 : 4 * (a * x) < 3 * (a * a) := by
    rw [e]
    have : dm m b (p + 1 + 1) * dm m b p = dm m b p * dm m b (p + 2) := Int.mul_comm _ _
    omega
  have h4 : a * x < a * a := by
    have := Int.mul_pos h1 h2
    have := Int.mul_pos h1 h1
    omega
  have h5 : x < a := Int.lt_of_mul_lt_mul_left h4 (by omega)
  omega
theorem lrun_total : ∀ (μ : Nat) (b u : Mx) (k : Nat), 1 ≤ k → Ind m n b → pot m b (n - 1) * (n + 1) + (n - k) ≤ μ → ∃ f R, lrun m n f b u k = some R
  | μ, b, u, k, hk, h, hμ => by
    by_cases hn : n ≤ k
    · exact ⟨1, (b, u), by rw [lrun, if_pos hn]⟩
    · obtain ⟨w, ws⟩ := redr_full (u := u) (show k < n by omega) h
      have hp : pot m (redr m k k b u).1 (n - 1) = pot m b (n - 1) := pot_congr fun s hs => w.d s (by omega)
      have hpp := pot_pos h (n - 1) (by omega)
      have h0 : 0 < μ := by
        have : 1 * (n + 1) ≤ pot m b (n - 1) * (n + 1) := Nat.mul_le_mul_right _ hpp
        omega
      obtain ⟨ν, rfl⟩ : ∃ ν, μ = ν + 1 := ⟨μ - 1, by omega⟩
      by_cases hf : farL m (redr m k k b u).1 k
      · obtain ⟨f, R, e⟩ := lrun_total ν (redr m k k b u).1 (redr m k k b u).2 (k + 1) (by omega) w.ind (by rw [hp]; omega)
        exact ⟨f + 1, R, by rw [lrun, if_neg hn, if_pos hf]; exact e⟩
      · have hl := far_less w.ind hk (by omega) hf
        have hq : pot m (swb (redr m k k b u).1 (k - 1)) (n - 1) < pot m b (n - 1) := by
          rw [← hp]
          refine pot_less w.ind hk (fun s hs h1 => ?_) hl (n - 1) (by omega) (by omega)
          rw [dm_swb w.ind (by omega) h1, if_neg (by omega)]
        obtain ⟨f, R, e⟩ := lrun_total ν (swb (redr m k k b u).1 (k - 1)) (swb (redr m k k b u).2 (k - 1)) (max 1 (k - 1)) (by omega) (w.ind.swb (by omega)) (by
          have h1 : (pot m (swb (redr m k k b u).1 (k - 1)) (n - 1) + 1) * (n + 1) ≤ pot m b (n - 1) * (n + 1) := Nat.mul_le_mul_right _ hq
          rw [Nat.succ_mul] at h1
          omega)
        exact ⟨f + 1, R, by rw [lrun, if_neg hn, if_neg hf]; exact e⟩
  termination_by μ => μ
/-- Rows below k are reduced. -/
def Rdc (m : Nat) (b : Mx) (k : Nat) : Prop := ∀ i, 1 ≤ i → i < k → Size m b i 0 ∧ farL m b i
theorem Rdc.way {b' : Mx} (h : Rdc m b k) (w : Way m n k b b') (hk : k < n) : Rdc m b' k := fun i h1 h2 => by
  obtain ⟨s, f⟩ := h i h1 h2
  refine ⟨fun t h3 h4 => ?_, ?_⟩
  · rw [w.d _ (by omega), w.l i t h4 (by omega) (by omega)]; exact s t h3 h4
  · unfold farL at *
    rw [w.d _ (by omega), w.d _ (by omega), w.d _ (by omega), w.l i (i - 1) (by omega) (by omega) (by omega)]; exact f
theorem Rdc.next (h : Rdc m b k) (hs : Size m b k 0) (hf : farL m b k) : Rdc m b (k + 1) := fun i h1 h2 => by
  by_cases e : i = k
  · rw [e]; exact ⟨hs, hf⟩
  · exact h i h1 (by omega)
theorem Rdc.swb (h : Rdc m b k) (hi : Ind m n b) (hk : 1 ≤ k) (hn : k < n) : Rdc m (swb b (k - 1)) (max 1 (k - 1)) := fun i h1 h2 => by
  obtain ⟨s, f⟩ := h i h1 (by omega)
  have hd : ∀ t, t < k → dm m (Go.Proofs.Ytabdfhdddmbmlaa.swb b (k - 1)) t = dm m b t := fun t ht => by rw [dm_swb hi (by omega) (by omega), if_neg (by omega)]
  have hl : ∀ t, t < i → lm m (Go.Proofs.Ytabdfhdddmbmlaa.swb b (k - 1)) i t = lm m b i t := fun t ht => by
    rw [lm_swb hi (by omega) ht (by omega), if_neg (by omega), if_neg (by omega), if_neg (by omega), sx_low (by omega)]
  refine ⟨fun t h3 h4 => ?_, ?_⟩
  · rw [hd _ (by omega), hl t h4]; exact s t h3 h4
  · unfold farL at *
    rw [hd _ (by omega), hd _ (by omega), hd _ (by omega), hl _ (by omega)]; exact f
/-- What a run comes to. -/
theorem lrun_red : ∀ {f : Nat} {b u : Mx} {k : Nat} {R : Mx × Mx}, lrun m n f b u k = some R → 1 ≤ k → k ≤ n ∨ n = 0 → Ind m n b → Rdc m b k → Rdc m R.1 n ∧ Ind m n R.1 ∧ dm m R.1 n = dm m b n
  | 0, b, u, k, R, h, _, _, _, _ => by simp [lrun] at h
  | f + 1, b, u, k, R, h, hk, hkn, hi, hr => by
    rw [lrun] at h
    split at h
    · rename_i hn
      obtain rfl : (b, u) = R := by simpa using h
      exact ⟨fun i h1 h2 => hr i h1 (by omega), hi, rfl⟩
    · rename_i hn
      obtain ⟨w, ws⟩ := redr_full (u := u) (show k < n by omega) hi
      have hr' := hr.way w (by omega)
      split at h
      · rename_i hf
        obtain ⟨a1, a2, a3⟩ := lrun_red h (by omega) (by omega) w.ind (hr'.next ws hf)
        exact ⟨a1, a2, by rw [a3, w.d n (Nat.le_refl _)]⟩
      · obtain ⟨a1, a2, a3⟩ := lrun_red h (by omega) (by omega) (w.ind.swb (by omega)) (hr'.swb w.ind hk (by omega))
        exact ⟨a1, a2, by rw [a3, dm_swb w.ind (by omega) (Nat.le_refl _), if_neg (by omega), w.d n (Nat.le_refl _)]⟩
theorem lrun_mono : ∀ {f : Nat} {b u : Mx} {k : Nat} {R : Mx × Mx}, lrun m n f b u k = some R → ∀ e, lrun m n (f + e) b u k = some R
  | 0, b, u, k, R, h, e => by simp [lrun] at h
  | f + 1, b, u, k, R, h, e => by
    rw [Nat.add_right_comm, lrun]
    rw [lrun] at h
    split at h
    · rename_i hn; rw [if_pos hn]; exact h
    · rename_i hn
      rw [if_neg hn]
      split at h
      · rename_i hf; rw [if_pos hf]; exact lrun_mono h e
      · rename_i hf; rw [if_neg hf]; exact lrun_mono h e
theorem lrun_one {f g : Nat} {R S : Mx × Mx} (h : lrun m n f b u k = some R) (h' : lrun m n g b u k = some S) : R = S := by
  have h1 := lrun_mono h g
  have h2 := lrun_mono h' f
  rw [Nat.add_comm, h2] at h1
  simpa using h1.symm
/-- Reduced rows stay as they are. -/
theorem redr_stay (hk : k < n) : ∀ (j : Nat), j ≤ k → Ind m n b → Size m b k 0 → redr m k j b u = (b, u)
  | 0, _, _, _ => rfl
  | j + 1, hj, h, hs => by
    have h1 := hs j (by omega) (by omega)
    have h3 := h (j + 1) (by omega)
    have hq : rnd (lm m b k j) (dm m b (j + 1)) = 0 := by
      unfold rnd
      exact Int.ediv_eq_zero_of_lt (by omega) (by omega)
    have e : ∀ v : Mx, redq v k j 0 = v := fun v => by
      funext i c; unfold redq; split
      · rename_i e; rw [e]; simp
      · rfl
    rw [redr_succ, hq, e, e]
    exact redr_stay hk j (by omega) h hs
theorem lrun_stay : ∀ {e : Nat} {k : Nat}, n - k = e → 1 ≤ k → Ind m n b → Rdc m b n → ∃ f, lrun m n f b u k = some (b, u)
  | 0, k, he, _, _, _ => ⟨1, by rw [lrun, if_pos (by omega)]⟩
  | e + 1, k, he, hk, hi, hr => by
    obtain ⟨f, hf⟩ := lrun_stay (e := e) (k := k + 1) (by omega) (by omega) hi hr
    obtain ⟨h1, h2⟩ := hr k hk (by omega)
    have e1 := redr_stay (u := u) (show k < n by omega) k (Nat.le_refl _) hi h1
    exact ⟨f + 1, by rw [lrun, if_neg (by omega), e1, if_pos h2]; exact hf⟩
end
end Go.Proofs.Ytabdfhdddmbmlaa

namespace Go.Proofs.Ytabdfhdddmbmlaa
theorem sz_of_sq {x : Int} {e : Nat} (h : sz (x * x) (e + e)) : sz x e := by
  unfold sz at *
  rw [Int.natAbs_mul, Nat.pow_add] at h
  exact Nat.lt_of_not_le fun hle => absurd h (Nat.not_lt.2 (Nat.mul_le_mul hle hle))
theorem sz_le {x y : Int} {e : Nat} (h0 : 0 ≤ x) (h : x ≤ y) (hy : sz y e) : sz x e := by
  unfold sz at *; omega
theorem ip_sz {m k l : Nat} {u v : Nat → Int} (hu : ∀ c, c < m → sz (u c) k) (hv : ∀ c, c < m → sz (v c) l) (hm : m < 18446744073709551616) : sz (ip m u v) (k + l + 1) :=
  isum_sz (fun c hc => (hu c hc).mul (hv c hc)) hm
/-- What bounds the numbers of a reduction of n rows of m numbers, made of a's by u: b's entries have at most K limbs, each d at most D. -/
structure LB (a : Mx) (m n D K : Nat) (b u : Mx) : Prop where
  ind : Ind m n b
  dz : ∀ t, t ≤ n → sz (dm m b t) D
  bz : ∀ i c, i < n → c < m → sz (b i c) K
  ua : ∀ i c, i < n → c < m → mm n u a i c = b i c
  un : det n u = 1 ∨ det n u = -1
section
variable {a b u : Mx} {m n D K k j : Nat}
theorem LB.gz (h : LB a m n D K b u) (hm : m < 18446744073709551616) {i i' : Nat} (hi : i < n) (hi' : i' < n) : sz (gr m b i i') (K + K + 1) :=
  ip_sz (fun c hc => h.bz i c hi hc) (fun c hc => h.bz i' c hi' hc) hm
theorem LB.lz (h : LB a m n D K b u) (hm : m < 18446744073709551616) {i : Nat} (hi : i < n) (hj : j < i) : sz (lm m b i j) (D + K + 1) := by
  refine sz_of_sq ?_
  have h1 := cauchy m (wv m b j) (b i)
  rw [wv_wv, wv_row] at h1
  rw [mi_symm (gr_symm m b)] at h1
  have h2 := ((h.dz j (by omega)).mul (h.dz (j + 1) (by omega))).mul (h.gz hm hi hi)
  exact sz_le (sq_nn _) h1 (h2.mono (by omega))
theorem rnd_sz {x y : Int} {e : Nat} (hx : sz x e) (hy : 0 < y) : sz (rnd x y) (e + 1) := by
  have h1 := rnd_near (x := x) hy
  have h2 : (rnd x y).natAbs ≤ x.natAbs + 1 := by
    have h3 : rnd x y * y ≤ x + y := by omega
    have h4 : x - y ≤ rnd x y * y := by omega
    have h5 : rnd x y ≤ x.natAbs + 1 := by
      refine Int.le_of_not_gt fun hgt => ?_
      have : (x.natAbs + 2 : Int) * y ≤ rnd x y * y := Int.mul_le_mul_of_nonneg_right (by omega) (by omega)
      have h6 : (x.natAbs : Int) * 1 ≤ x.natAbs * y := Int.mul_le_mul_of_nonneg_left (by omega) (by omega)
      have h7 : (x.natAbs + 2 : Int) * y = x.natAbs * y + 2 * y := by grind
      omega
    have h6 : - (x.natAbs + 1 : Int) ≤ rnd x y := by
      refine Int.le_of_not_gt fun hgt => ?_
      have h8 : rnd x y * y ≤ - (x.natAbs + 2 : Int) * y := Int.mul_le_mul_of_nonneg_right (by omega) (by omega)
      have h6 : (x.natAbs : Int) * 1 ≤ x.natAbs * y := Int.mul_le_mul_of_nonneg_left (by omega) (by omega)
      have h7 : - (x.natAbs + 2 : Int) * y = - (x.natAbs * y) - 2 * y := by grind
      omega
    omega
  unfold sz at *
  rw [Nat.pow_succ]
  have : 0 < 18446744073709551616 ^ e := Nat.pow_pos (by decide)
  omega
theorem LB.qz (h : LB a m n D K b u) (hm : m < 18446744073709551616) (hk : k < n) (hj : j < k) : sz (rnd (lm m b k j) (dm m b (j + 1))) (D + K + 2) :=
  rnd_sz (h.lz hm hk hj) (h.ind _ (by omega))
theorem det_redq {v : Mx} {q : Int} (hk : k < n) (hj : j < k) : det n (redq v k j q) = det n v := by
  have h1 := (det_form n).addRow (A := v) hk (show j < n by omega) (by omega) (-q) (v j) (fun _ _ => rfl) (v k)
  rw [rw_self] at h1
  rw [← h1]
  refine det_congr fun i c _ _ => ?_
  unfold redq rw'
  split
  · show v k c - q * v j c = v k c + -q * v j c
    rw [Int.neg_mul]; omega
  · rfl
theorem mm_redq {v w : Mx} {q : Int} (i c : Nat) : mm n (redq v k j q) w i c = redq (mm n v w) k j q i c := by
  unfold mm redq
  split
  · rw [isum_congr (g' := fun s => 1 * (v k s * w s c) + (-q) * (v j s * w s c)) fun s _ => by grind, isum_lin]; grind
  · rfl
theorem LB.redq (h : LB a m n D K b u) (hk : k < n) (hj : j < k) {q : Int} (hq : sz q (D + K + 2)) : LB a m n D (D + K + K + 3) (redq b k j q) (redq u k j q) :=
  ⟨h.ind.redq hj, fun t ht => by rw [dm_redq h.ind hj ht]; exact h.dz t ht, fun i c hi hc => by
    unfold Go.Proofs.Ytabdfhdddmbmlaa.redq
    split
    · exact (sz_sub ((h.bz k c hk hc).mono (show K ≤ D + K + K + 2 by omega)) ((hq.mul (h.bz j c (by omega) hc)).mono (by omega)))
    · exact (h.bz i c hi hc).mono (by omega), fun i c hi hc => by
    rw [mm_redq]
    unfold Go.Proofs.Ytabdfhdddmbmlaa.redq
    split
    · rw [h.ua k c hk hc, h.ua j c (by omega) hc]
    · exact h.ua i c hi hc, by rw [det_redq hk hj]; exact h.un⟩
theorem det_swb {v : Mx} {p : Nat} (hp : p + 1 < n) : det n (swb v p) = - det n v := by
  rw [← (det_form n).swap (A := v) (r := p) (s := p + 1) (by omega) hp (by omega)]
  refine det_congr fun i c _ _ => ?_
  unfold swb sx rw'
  by_cases h1 : i = p + 1
  · rw [if_neg (by omega), if_pos h1, if_pos h1]
  · by_cases h2 : i = p
    · rw [if_pos h2, if_neg h1, if_pos h2]
    · rw [if_neg h2, if_neg h1, if_neg h1, if_neg h2]
theorem dz_swb (h : Ind m n b) (hk : 1 ≤ k) (hn : k < n) (hf : ¬ farL m b k) (hd : ∀ t, t ≤ n → sz (dm m b t) D) (t : Nat) (ht : t ≤ n) : sz (dm m (swb b (k - 1)) t) D := by
  by_cases e : t = k
  · subst e
    have h1 := far_less h hk hn hf
    have h2 := h.swb (p := t - 1) (by omega) t ht
    have h3 := hd t ht
    have h4 := h t ht
    exact sz_le (by omega) (by omega) h3
  · rw [dm_swb h (by omega) ht, if_neg (by omega)]; exact hd t ht
theorem LB.swb (h : LB a m n D K b u) (hk : 1 ≤ k) (hn : k < n) (hf : ¬ farL m b k) : LB a m n D K (swb b (k - 1)) (swb u (k - 1)) :=
  ⟨h.ind.swb (by omega), dz_swb h.ind hk hn hf h.dz, fun i c hi hc => h.bz _ c (sx_lt (by omega) hi) hc, fun i c hi hc => h.ua _ c (sx_lt (by omega) hi) hc, by
    rw [det_swb (by omega)]
    rcases h.un with e | e <;> rw [e] <;> decide⟩
/-- A row of its size is short. -/
theorem row_sz (h : Ind m n b) (hd : ∀ t, t ≤ n → sz (dm m b t) D) (hk : k < n) (hs : Size m b k 0) : ∀ (e t : Nat), t + e = k → sz (mi (gr m b) t k k) ((e + 1) * (D + 1)) ∧ 0 ≤ mi (gr m b) t k k
  | 0, t, ht => by
    have : t = k := by omega
    subst this
    have h1 := hd (t + 1) (by omega)
    have h2 := h (t + 1) (by omega)
    unfold dm at h1 h2
    rw [dG_succ] at h1 h2
    exact ⟨h1.mono (by omega), by omega⟩
  | e + 1, t, ht => by
    obtain ⟨i1, i2⟩ := row_sz h hd hk hs e (t + 1) (by omega)
    have st := mi_step (G := gr m b) (k := t) (h.ne (by omega)) k k
    rw [mi_symm (gr_symm m b) t t k] at st
    have hp1 := h (t + 1) (by omega)
    have hp0 := h t (by omega)
    have hd0 := hd t (by omega)
    have hd1 := hd (t + 1) (by omega)
    have hsz := hs t (by omega) (by omega)
    have hl : lm m b k t = mi (gr m b) t k t := rfl
    rw [hl] at hsz
    unfold dm at hp1 hp0 hd0 hd1 hsz
    generalize mi (gr m b) t k t = l at *
    generalize mi (gr m b) t k k = x at *
    generalize mi (gr m b) (t + 1) k k = y at *
    generalize dG (gr m b) (t + 1) = d1 at *
    generalize dG (gr m b) t = d0 at *
    have hll : l * l ≤ d1 * d1 := by
      have h1 : 0 ≤ (d1 - l) * (d1 + l) := Int.mul_nonneg (by omega) (by omega)
      have h2 : (d1 - l) * (d1 + l) = d1 * d1 - l * l := by grind
      omega
    have hx : d1 * x ≤ d1 * (d0 * y + d1) := by
      have h1 : d1 * x = d0 * y + l * l := by omega
      have h2 : 0 ≤ d0 * y := Int.mul_nonneg (by omega) i2
      have h3 : 1 * (d0 * y) ≤ d1 * (d0 * y) := Int.mul_le_mul_of_nonneg_right (by omega) h2
      have h4 : d1 * (d0 * y + d1) = d1 * (d0 * y) + d1 * d1 := by grind
      omega
    have hx' : x ≤ d0 * y + d1 := Int.le_of_mul_le_mul_left hx hp1
    have hx0 : 0 ≤ x := by
      have h1 : d1 * x = d0 * y + l * l := by omega
      have h2 : 0 ≤ d0 * y := Int.mul_nonneg (by omega) i2
      have h3 := sq_nn l
      refine Int.le_of_not_gt fun hgt => ?_
      have := Int.mul_neg_of_pos_of_neg hp1 hgt
      omega
    refine ⟨sz_le hx0 hx' ?_, hx0⟩
    have h1 := hd0.mul i1
    have h2 := sz_sub (h1.mono (show D + (e + 1) * (D + 1) ≤ D + (e + 1) * (D + 1) from Nat.le_refl _)) ((hd1.neg).mono (show D ≤ D + (e + 1) * (D + 1) by omega))
    rw [show d0 * y - -d1 = d0 * y + d1 by omega] at h2
    refine h2.mono ?_
    rw [Nat.succ_mul (e + 1)]; omega
theorem ip_part {u : Nat → Int} : ∀ {m c : Nat}, c < m → u c * u c ≤ ip m u u
  | m + 1, c, h => by
    have h1 : ip (m + 1) u u = ip m u u + u m * u m := rfl
    have h2 := ip_nn m u
    have h3 := sq_nn (u m)
    by_cases e : c = m
    · rw [e, h1]; omega
    · have := ip_part (u := u) (m := m) (c := c) (by omega)
      rw [h1]; omega
theorem row_bz (h : Ind m n b) (hd : ∀ t, t ≤ n → sz (dm m b t) D) (hk : k < n) (hs : Size m b k 0) {c : Nat} (hc : c < m) : sz (b k c) ((k + 1) * (D + 1)) := by
  have h1 := (row_sz h hd hk hs k 0 (by omega)).1
  rw [mi_none] at h1
  exact sz_of_sq (sz_le (sq_nn _) (ip_part hc) (h1.mono (by omega)))
/-- The matrix's entries, by the rows that it makes. -/
theorem LB.uz (h : LB a m n D K b u) (hm : m < 18446744073709551616) (hn : n < 1048576) {A : Nat} (ha : ∀ i c, i < n → c < m → sz (a i c) A) (hd : dm m a n ≠ 0) {i j : Nat} (hi : i < n) (hj : j < n) : sz (u i j) (K + A + 1 + ((A + A + 2) * n + 1) + 1) := by
  obtain ⟨n, rfl⟩ : ∃ n', n = n' + 1 := ⟨n - 1, by omega⟩
  -- Gram's matrix of a
  let G : Mx := gr m a
  have hG : ∀ x y, x < n + 1 → y < n + 1 → sz (G x y) (A + A + 1) := fun x y hx hy => ip_sz (fun c hc => ha x c hx hc) (fun c hc => ha y c hy hc) hm
  have h1 : ∀ x, x < n + 1 → isum (fun s => u i s * G s x) (n + 1) = ip m (b i) (a x) := fun x hx => by
    unfold ip
    rw [isum_congr (g := fun c => b i c * a x c) (g' := fun c => isum (fun s => u i s * (a s c * a x c)) (n + 1)) fun c hc => by
      rw [← h.ua i c hi hc]; unfold mm; rw [← isum_mul_right]; exact isum_congr fun s _ => Int.mul_assoc _ _ _]
    rw [isum_swap]
    refine isum_congr fun s _ => ?_
    rw [isum_mul]; rfl
  have hdet : det (n + 1) G ≠ 0 := by
    have e : dm m a (n + 1) = det (n + 1) G := by
      unfold dm dG
      rw [← det_rev (n + 1) G]
      refine det_congr fun x y hx hy => ?_
      show G ((dn (n + 1)).getD x 0) ((dn (n + 1)).getD y 0) = G _ _
      rw [dn_get hx, dn_get hy]
    rw [← e]; exact hd
  have h2 : det (n + 1) G * u i j = isum (fun x => ip m (b i) (a x) * adj n G x j) (n + 1) := by
    rw [isum_congr (g' := fun x => isum (fun s => u i s * (G s x * adj n G x j)) (n + 1)) fun x hx => by
      rw [← h1 x hx, ← isum_mul_right]; exact isum_congr fun s _ => Int.mul_assoc _ _ _]
    rw [isum_swap, isum_congr (g' := fun s => u i s * (if s = j then det (n + 1) G else 0)) fun s hs => by
      rw [isum_mul, ← mul_adj G hs hj]; rfl]
    rw [isum_one (r := j) hj fun s _ hsj => by rw [if_neg hsj, Int.mul_zero], if_pos rfl, Int.mul_comm]
  have h3 : sz (det (n + 1) G * u i j) (K + A + 1 + ((A + A + 2) * (n + 1) + 1) + 1) := by
    rw [h2]
    refine isum_sz (fun x hx => ?_) (by omega)
    refine (ip_sz (fun c hc => h.bz i c hi hc) (fun c hc => ha x c hx hc) hm).mul ?_
    unfold adj
    refine sg_sz _ ((det_sz n (by omega) fun p q hp hq => hG _ _ (sk_lt hp) (sk_lt hq)).mono ?_)
    rw [show A + A + 1 + 1 = A + A + 2 from rfl, Nat.mul_succ]; omega
  unfold sz at *
  rw [Int.natAbs_mul] at h3
  have h4 : 1 * (u i j).natAbs ≤ (det (n + 1) G).natAbs * (u i j).natAbs := Nat.mul_le_mul_right _ (by omega)
  omega
/-- Behind a row's way: all rows are as short as at the head. -/
theorem LB.full (h : LB a m n D K b u) (hk : k < n) (hK : n * (D + 1) ≤ K) {b' u' : Mx} (w : Way m n k b b') (ws : Size m b' k 0) (hrow : ∀ i c, i ≠ k → b' i c = b i c) (hua : ∀ i c, i < n → c < m → mm n u' a i c = b' i c) (hun : det n u' = 1 ∨ det n u' = -1) : LB a m n D K b' u' :=
  have hd : ∀ t, t ≤ n → sz (dm m b' t) D := fun t ht => by rw [w.d t ht]; exact h.dz t ht
  ⟨w.ind, hd, fun i c hi hc => by
    by_cases e : i = k
    · rw [e]; exact (row_bz w.ind hd hk ws hc).mono (Nat.le_trans (Nat.mul_le_mul_right _ (by omega)) hK)
    · rw [hrow i c e]; exact h.bz i c hi hc, hua, hun⟩
end
end Go.Proofs.Ytabdfhdddmbmlaa

namespace Go.Proofs.Ytabdfhdddmbmlaa
open Go.RowKit
abbrev Jx := Nat → Nat → Bool × List Nat
/-- Rows of numbers of one's own. -/
def famJ (vs : Nat → Value) (R C : Nat) (x : Jx) : Own := ⟨R, vs, 2, fun _ => C, fun i k => J (x i k)⟩
theorem load_fj {vs : Nat → Value} {R C : Nat} {x : Jx} {os : List Own} {fs : List Fact} {K : Cont} (pos i j : Nat) (h : nthOwn os pos = some (famJ vs R C x)) (hi : i < R) (hj : j < C) (a : Bool × List Nat) (ha : x i j = a)
    (k : ∀ u, K u os ((u, J a) :: fs)) : LoadK Try.prog 33 (eptr (vs i) (j * 2)) os fs K := by
  subst ha
  exact load_own (o := famJ vs R C x) pos i h hi j 0 rfl hj (Part.refl _) (load_J _) k
theorem index_fj {kk : IntKind} {z : Int} {vs : Nat → Value} {R C : Nat} {x : Jx} {os : List Own} {fs : List Fact} {K : Cont} (pos i : Nat) (h : nthOwn os pos = some (famJ vs R C x)) (hi : i < R) (hs : isSl (vs i)) (j : Nat) (hz : z = (j : Int)) (hj : j < C)
    (k : K (eptr (vs i) (j * 2)) os fs) : IndexAddrK Try.prog 36 (vs i) (.int kk z) os fs K :=
  index_own (o := famJ vs R C x) pos i h hi (fun r => by obtain ⟨a, n, c, e⟩ := hs; show vs i ≠ _; rw [e]; simp) j hz hj k
theorem store_fj {u : Value} {vs : Nat → Value} {R C : Nat} {x : Jx} {os : List Own} {fs : List Fact} {K : Cont} (pos i j : Nat) (h : nthOwn os pos = some (famJ vs R C x)) (hi : i < R) (hj : j < C) (w : Bool × List Nat) (x' : Jx)
    (hu : Reads os fs u (J w)) (hx : ∀ a b, a < R → b < C → x' a b = if a = i ∧ b = j then w else x a b) (k : K undef (setOwn os pos (famJ vs R C x')) fs) :
    StoreK Try.prog 33 (eptr (vs i) (j * 2)) u os fs K :=
  store_fam (d := J w) pos i (famJ vs R C x') h hi j hj rfl (by kernel_rfl) hu rfl rfl (fun a ha => ⟨rfl, rfl, fun b hb => by
    show J (x' a b) = if a = i ∧ b = j then J w else J (x a b)
    rw [hx a b ha hb]; split <;> rfl⟩) k
theorem Seals.fjcong {vs vs' : Nat → Value} {R C : Nat} {x x' : Jx} {os : List Own} {fs : List Fact} (pos : Nat) (h : nthOwn os pos = some (famJ vs R C x)) (s : Nat → Nat) (hs : ∀ i, i < R → s i < R ∧ vs' i = vs (s i) ∧ ∀ k, k < C → x' i k = x (s i) k)
    (hinj : ∀ i j, i < R → j < R → s i = s j → i = j) : Seals os fs (setOwn os pos (famJ vs' R C x')) fs :=
  Seals.re (o' := famJ vs' R C x') pos h s rfl (fun i hi => ⟨(hs i hi).1, (hs i hi).2.1, rfl, fun k hk => by
    show J _ = J _
    rw [(hs i hi).2.2 k hk]⟩) hinj
theorem len_fj {t e' ty : TypeId} {size' : Nat} {vs : Nat → Value} {R C : Nat} {x : Jx} {os : List Own} {fs : List Fact} {K : Cont} [ht : TSl Try.prog t e' size'] (pos i : Nat)
    (h : nthOwn os pos = some (famJ vs R C x)) (hi : i < R) (hs : isSl (vs i)) (k : C ≤ 9223372036854775807 → K (.int .i64 C) os fs) : LenK Try.prog [t] ty (vs i) os fs K := by
  obtain ⟨a, m, c, hv⟩ := hs
  refine ⟨fun G w hw => ?_⟩
  have key : ∃ (a' : Option Addr) (c' : Nat), vs i = .slice a' C c' ∧ C ≤ 9223372036854775807 := by
    rcases hw.own _ (nthOwn_mem h) i hi with ⟨h1, h2⟩ | ⟨r, cap, h1, b1, b2, b3, _⟩ | ⟨r, h1, _⟩ | ⟨_, _, _, _, _, _, ⟨r, _, _, h1, _⟩ | ⟨r, _, _, _, _, _, _, h1, _⟩⟩
    rotate_right
    · have h1' : vs i = _ := h1
      rw [hv] at h1'; simp at h1'
    rotate_right
    · have h1' : vs i = _ := h1
      rw [hv] at h1'; simp at h1'
    · have h2' : C = 0 := h2
      exact ⟨none, 0, by rw [h2']; exact h1, by omega⟩
    · have b2' : C ≤ cap := b2
      exact ⟨some ⟨r, 0, none⟩, cap, h1, by unfold maxLen at b3; omega⟩
    · have h1' : vs i = _ := h1
      rw [hv] at h1'; simp at h1'
  obtain ⟨a', c', e, hC⟩ := key
  rw [e]
  exact (len_val (P := Try.prog) (t := t) (ty := ty) (a := a') (n := C) (c := c') (os := os) (fs := fs) (K := K) (k hC)).out G w hw
theorem ip_succ (m : Nat) (u v : Nat → Int) : ip (m + 1) u v = ip m u v + u m * v m := rfl
/-- A row's values. -/
def rv (r : Row) : Nat → Int := fun c => jv (r.getD c z0)
theorem rv_sz {r : Row} {k : Nat} (h : Fit k r) (c : Nat) : sz (rv r c) k := sz_jv (h.get c).1 (h.get c).2
theorem ldot_meets (v w : Value) (a b : Row) (k : Nat) (ha : Fit k a) (hb : Fit k b) (hl : a.length ≤ b.length) (hk : k + k + 2 ≤ 137438953472) (lm : a.length ≤ 1073741824) :
    Meets Try.prog 45 [v, w] [(v, V a), (w, V b)] (fun r os fs => os = [] ∧ fs = [(r, zd (ip a.length (rv a) (rv b)))]) := by
  have hs : ∀ i, i ≤ a.length → sz (ip i (rv a) (rv b)) (k + k + 1) := fun i hi => ip_sz (fun c _ => rv_sz ha c) (fun c _ => rv_sz hb c) (by omega)
  refine meets_of_vc Try.func45 (by kernel_rfl) rfl (by kernel_rfl) (Nat.le_of_ble_eq_true rfl) ?_
  refine alloc_rule (d := I false []) fun o ho => ?_
  refine build0 (da := .one (.bool false)) (db := U (lims 0)) (fun S w => ⟨[.bool false], [.slice none 0 0], rfl, rd_false S w, by rw [lims_zero]; exact rd_nil S w 1 _⟩) fun zz => ?_
  refine alloc_rule (d := I false []) fun s hs' => ?_
  refine store_box (d := zd 0) 0 rfl hs' rfl (by kernel_rfl) ?_ ?_; exact Reads.fact (d := zd 0) mM
  refine len_fact mM fun _ => ?_
  refine loop_rule (X := Nat) (fun i => ([(1, w), (4, o), (5, s), (9, v), (10, .int .i64 (a.length : Nat)), (11, .int .i64 (i : Nat))], [own1 s 2 1 (fun _ => zd (ip i (rv a) (rv b))), own1 o 2 1 (fun _ => I false [])], [(v, V a), (w, V b)]))
    (fun i => i ≤ a.length) (fun i => a.length - i) rfl ?_ ?_
  · exact again 0 (Nat.zero_le _) trivial mF (Seals.trans (Seals.box0 rfl) (Seals.sub mS))
  · rintro i hi
    refine cmp_split _ rfl (fun hc => ?_) (fun hc => ?_)
    · have hia : i < a.length := by omega
      have f1 := ha.get i
      have f2 := hb.get i
      refine index_fact mM i rfl hia fun a1 => ?_
      refine load_fact (d := J (a.getD i z0)) mM (load_J _) fun x1 => ?_
      refine alloc_rule (d := I false []) fun q hq => ?_
      refine store_box (d := J (a.getD i z0)) 0 rfl hq rfl (by kernel_rfl) ?_ ?_; exact Reads.fact mM
      refine draw_rule [0, 1, 2, 3, 4, 5, 6, 7, 8] [0, 1, 2, 3, 4, 5, 6, 7, 8] (by kernel_rfl) (by kernel_rfl) ?_
      refine load_box (d := zd (ip i (rv a) (rv b))) 1 rfl hs' rfl (load_I _ _) fun x2 => ?_
      refine load_box (d := J (a.getD i z0)) 0 rfl hq rfl (load_J _) fun x3 => ?_
      refine index_fact mM i rfl (by omega) fun a2 => ?_
      refine load_fact (d := J (b.getD i z0)) mM (load_J _) fun x4 => ?_
      refine call_fn (zMulJ x3 x4 (a.getD i z0) (b.getD i z0) f1.1 (by omega) f2.1 (by omega)) (Seals.refl _ _) mS ?_
      rintro x5 _ _ ⟨rfl, rfl⟩
      refine call_fn (zAddZ x2 x5 _ _ (k + k + 1) (k + k) (hs i hi) ((rv_sz ha i).mul (rv_sz hb i)) (by omega) (by omega)) (Seals.refl _ _) mS ?_
      rintro x6 _ _ ⟨rfl, rfl⟩
      refine store_box (d := zd (ip (i + 1) (rv a) (rv b))) 1 rfl hs' rfl (by kernel_rfl) ?_ ?_; exact Reads.fact mM
      refine ar rfl mI ?_
      exact again (i + 1) (by omega) (by simp only; omega) mF (Seals.trans (Seals.drop 0 _ _) (Seals.trans (Seals.box0 rfl) (Seals.sub mS)))
    · have hia : i = a.length := by omega
      subst hia
      refine load_box (d := zd (ip a.length (rv a) (rv b))) 0 rfl hs' rfl (load_I _ _) fun x2 => ?_
      refine call_fn (zNormZ x2 _ (k + k + 1) (hs _ (Nat.le_refl _)) (by omega)) (Seals.refl _ _) mS ?_
      rintro x3 _ _ ⟨rfl, rfl⟩
      refine store_box (d := zd (ip a.length (rv a) (rv b))) 1 rfl ho rfl (by kernel_rfl) ?_ ?_; exact Reads.fact mM
      refine load_box (d := zd (ip a.length (rv a) (rv b))) 1 rfl ho rfl (load_I _ _) fun r => ?_
      exact fin ⟨rfl, rfl⟩ (Seals.trans (Seals.drop 0 _ _) (Seals.trans (Seals.drop 0 _ _) (Seals.sub (fs' := [(r, zd (ip a.length (rv a) (rv b)))]) mS)))
/-- Of two rows of one's own. -/
theorem dot_call {K : Cont} {os : List Own} {fs : List Fact} (pos i j : Nat) {vs : Nat → Value} {R C : Nat} {x : Jx} (h : nthOwn os pos = some (famJ vs R C x)) (hi : i < R) (hj : j < R) (hs : ∀ i, i < R → isSl (vs i)) {k : Nat} (hx : ∀ i c, i < R → c < C → Lim (x i c).2 ∧ (x i c).2.length ≤ k) (hk : k + k + 2 ≤ 137438953472) (lm : C ≤ 1073741824)
    (kk : ∀ r, K r os ((r, zd (ip C (fun c => jv (x i c)) (fun c => jv (x j c)))) :: fs)) : CallK Try.prog false (.func (.func 45) #[] #[]) [vs i, vs j] os fs K := by
  have hz : ∀ i c, i < R → c < C → sz (jv (x i c)) k := fun i c h1 h2 => sz_jv (hx i c h1 h2).1 (hx i c h1 h2).2
  have hsz : ∀ t, t ≤ C → sz (ip t (fun c => jv (x i c)) (fun c => jv (x j c))) (k + k + 1) := fun t ht => ip_sz (fun c hc => hz i c hi (by omega)) (fun c hc => hz j c hj (by omega)) (by omega)
  have hstep : ∀ t, ip (t + 1) (fun c => jv (x i c)) (fun c => jv (x j c)) = ip t (fun c => jv (x i c)) (fun c => jv (x j c)) + jv (x i t) * jv (x j t) := fun t => rfl
  have h0 : ip 0 (fun c => jv (x i c)) (fun c => jv (x j c)) = 0 := rfl
  generalize hP : (fun t => ip t (fun c => jv (x i c)) (fun c => jv (x j c))) = P
  have hsz' : ∀ t, t ≤ C → sz (P t) (k + k + 1) := fun t ht => by rw [← hP]; exact hsz t ht
  have hstep' : ∀ t, P (t + 1) = P t + jv (x i t) * jv (x j t) := fun t => by rw [← hP]; exact hstep t
  have h0' : P 0 = 0 := by rw [← hP]; exact h0
  have hC : ip C (fun c => jv (x i c)) (fun c => jv (x j c)) = P C := by rw [← hP]
  rw [hC] at kk
  have hvi := hs i hi
  have hvj := hs j hj
  refine call_inline Try.func45 (by kernel_rfl) rfl (by kernel_rfl) (Nat.le_of_ble_eq_true rfl) ?_
  refine alloc_rule (d := I false []) fun o ho => ?_
  refine build0 (da := .one (.bool false)) (db := U (lims 0)) (fun S w => ⟨[.bool false], [.slice none 0 0], rfl, rd_false S w, by rw [lims_zero]; exact rd_nil S w 1 _⟩) fun zz => ?_
  refine alloc_rule (d := I false []) fun s hs' => ?_
  refine store_box (d := zd 0) 0 rfl hs' rfl (by kernel_rfl) ?_ ?_; exact Reads.fact (d := zd 0) mM
  refine len_fj (pos + 2) i h hi hvi fun _ => ?_
  refine loop_rule (X := Nat) (fun t => ([(1, vs j), (4, o), (5, s), (9, vs i), (10, .int .i64 (C : Nat)), (11, .int .i64 (t : Nat))], own1 s 2 1 (fun _ => zd (P t)) :: own1 o 2 1 (fun _ => I false []) :: os, fs))
    (fun t => t ≤ C) (fun t => C - t) rfl ?_ ?_
  · exact again 0 (Nat.zero_le _) trivial mF (Seals.trans (Seals.box0 (by rw [h0']; rfl)) (Seals.sub (fun F hF => by repeat (first | exact hF | apply List.Mem.tail))))
  · rintro t ht
    refine cmp_split _ rfl (fun hc => ?_) (fun hc => ?_)
    · have htC : t < C := by omega
      have f1 := hx i t hi htC
      have f2 := hx j t hj htC
      refine index_fj (pos + 2) i h hi hvi t rfl htC ?_
      refine load_fj (pos + 2) i t h hi htC (x i t) rfl fun x1 => ?_
      refine alloc_rule (d := I false []) fun q hq => ?_
      refine store_box (d := J (x i t)) 0 rfl hq rfl (by kernel_rfl) ?_ ?_; exact Reads.fact mM
      refine draw_rule [0, 1, 2, 3, 4, 5, 6, 7, 8] [0, 1, 2, 3, 4, 5, 6, 7, 8] (by kernel_rfl) (by kernel_rfl) ?_
      refine load_box (d := zd (P t)) 1 rfl hs' rfl (load_I _ _) fun x2 => ?_
      refine load_box (d := J (x i t)) 0 rfl hq rfl (load_J _) fun x3 => ?_
      refine index_fj (pos + 3) j h hj hvj t rfl htC ?_
      refine load_fj (pos + 3) j t h hj htC (x j t) rfl fun x4 => ?_
      refine call_fn (zMulJ x3 x4 (x i t) (x j t) f1.1 (by omega) f2.1 (by omega)) (Seals.refl _ _) mS ?_
      rintro x5 _ _ ⟨rfl, rfl⟩
      refine call_fn (zAddZ x2 x5 _ _ (k + k + 1) (k + k) (hsz' t ht) ((hz i t hi htC).mul (hz j t hj htC)) (by omega) (by omega)) (Seals.refl _ _) mS ?_
      rintro x6 _ _ ⟨rfl, rfl⟩
      refine store_box (d := zd (P t + jv (x i t) * jv (x j t))) 1 rfl hs' rfl (by kernel_rfl) ?_ ?_; exact Reads.fact mM
      refine ar rfl mI ?_
      exact again (t + 1) (by omega) (by simp only; omega) mF (Seals.trans (Seals.drop 0 _ _) (Seals.trans (Seals.box0 (by rw [hstep']; rfl)) (Seals.sub (fun F hF => by repeat (first | exact hF | apply List.Mem.tail)))))
    · have htC : t = C := by omega
      subst htC
      refine load_box (d := zd (P t)) 0 rfl hs' rfl (load_I _ _) fun x2 => ?_
      refine call_fn (zNormZ x2 _ (k + k + 1) (hsz' _ (Nat.le_refl _)) (by omega)) (Seals.refl _ _) mS ?_
      rintro x3 _ _ ⟨rfl, rfl⟩
      refine store_box (d := zd (P t)) 1 rfl ho rfl (by kernel_rfl) ?_ ?_; exact Reads.fact mM
      refine load_box (d := zd (P t)) 1 rfl ho rfl (load_I _ _) fun r => ?_
      exact fin (kk r) (Seals.trans (Seals.drop 0 _ _) (Seals.trans (Seals.drop 0 _ _) (Seals.sub (fun F hF => by
        rcases List.mem_cons.1 hF with rfl | hF
        · exact List.Mem.head _
        · repeat (first | exact hF | apply List.Mem.tail)))))
theorem lquot_meets (v w : Value) (x y : Int) (a b : Nat) (hx : sz x a) (hy : sz y b) (ha : a ≤ 137438953472) (hb : b ≤ 137438953472) (h0 : y ≠ 0) :
    Meets Try.prog 60 [v, w] [(v, zd x), (w, zd y)] (fun r os fs => os = [] ∧ fs = [(r, zd (x / y))]) := by
  refine meets_of_vc Try.func60 (by kernel_rfl) rfl (by kernel_rfl) (Nat.le_of_ble_eq_true rfl) ?_
  refine box_rule (Reads.fact (d := zd x) mM) fun p hp => ?_
  refine box_rule (Reads.fact (d := zd y) mM) fun q hq => ?_
  refine alloc_rule (d := I false []) fun o ho => ?_
  refine load_box (d := zd x) 2 rfl hp rfl (load_I _ _) fun u1 => ?_
  refine load_box (d := zd y) 1 rfl hq rfl (load_I _ _) fun u2 => ?_
  refine call_fn (zDivModZ u1 u2 x y a b hx hy ha hb h0) (Seals.refl _ _) mS ?_
  rintro _ _ _ ⟨rfl, z, m, rfl, rfl⟩
  refine alloc_rule (d := I false []) fun c1 h1 => ?_
  refine alloc_rule (d := I false []) fun c2 h2 => ?_
  refine store_box (d := zd (x / y)) 1 rfl h1 rfl (by kernel_rfl) ?_ ?_; exact Reads.fact mM
  refine store_box (d := zd (x % y)) 0 rfl h2 rfl (by kernel_rfl) ?_ ?_; exact Reads.fact mM
  refine load_box (d := zd (x / y)) 1 rfl h1 rfl (load_I _ _) fun u3 => ?_
  refine store_box (d := zd (x / y)) 2 rfl ho rfl (by kernel_rfl) ?_ ?_; exact Reads.fact mM
  refine load_box (d := zd (x / y)) 2 rfl ho rfl (load_I _ _) fun r => ?_
  refine fin ⟨rfl, rfl⟩ (Seals.trans (Seals.trans (Seals.trans (Seals.trans (Seals.trans (Seals.drop 0 _ _) (Seals.drop 0 _ _)) (Seals.drop 0 _ _)) (Seals.drop 0 _ _)) (Seals.drop 0 _ _)) (Seals.sub mS))
end Go.Proofs.Ytabdfhdddmbmlaa
