/- Towards the statement, part 3 of 6: contracts of functions, and what they rest on. Conditions: each theorem names its own. -/
import Derived.Test.YtabdfhdddmbmlaaM2
import Derived.ProofKit
import Derived.Deep.Slices
set_option linter.unusedVariables false
set_option linter.unusedSimpArgs false

namespace Go.Proofs.Ytabdfhdddmbmlaa
def isum (g : Nat → Int) : Nat → Int
  | 0 => 0
  | k + 1 => isum g k + g k
theorem isum_congr {g g' : Nat → Int} : ∀ {n : Nat}, (∀ k, k < n → g k = g' k) → isum g n = isum g' n
  | 0, _ => rfl
  | n + 1, h => by simp only [isum]; rw [isum_congr (n := n) fun k hk => h k (by omega), h n (by omega)]
theorem isum_zero {g : Nat → Int} : ∀ {n : Nat}, (∀ k, k < n → g k = 0) → isum g n = 0
  | 0, _ => rfl
  | n + 1, h => by simp only [isum]; rw [isum_zero (n := n) fun k hk => h k (by omega), h n (by omega)]; rfl
theorem isum_lin (a b : Int) (f g : Nat → Int) : ∀ n, isum (fun k => a * f k + b * g k) n = a * isum f n + b * isum g n
  | 0 => by simp [isum]
  | n + 1 => by simp only [isum]; rw [isum_lin a b f g n]; grind
theorem isum_add (f g : Nat → Int) (n : Nat) : isum (fun k => f k + g k) n = isum f n + isum g n := by
  have := isum_lin 1 1 f g n; simpa using this
theorem isum_mul (a : Int) (f : Nat → Int) (n : Nat) : isum (fun k => a * f k) n = a * isum f n := by
  have := isum_lin a 0 f f n; simpa using this
theorem isum_neg (f : Nat → Int) (n : Nat) : isum (fun k => - f k) n = - isum f n := by
  have := isum_mul (-1) f n; simpa using this
theorem isum_mul_right (a : Int) (f : Nat → Int) (n : Nat) : isum (fun k => f k * a) n = isum f n * a := by
  rw [Int.mul_comm, ← isum_mul]; exact isum_congr fun k _ => Int.mul_comm _ _
theorem isum_one {g : Nat → Int} {n r : Nat} (hr : r < n) (h : ∀ k, k < n → k ≠ r → g k = 0) : isum g n = g r := by
  induction n with
  | zero => omega
  | succ n ih =>
    simp only [isum]
    by_cases hn : r = n
    · subst hn
      rw [isum_zero fun k hk => h k (by omega) (by omega)]; omega
    · rw [ih (by omega) fun k hk => h k (by omega), h n (by omega) (by omega)]; omega
theorem isum_two {g : Nat → Int} {n r : Nat} (hr : r + 1 < n) (h : ∀ k, k < n → k ≠ r → k ≠ r + 1 → g k = 0) : isum g n = g r + g (r + 1) := by
  induction n with
  | zero => omega
  | succ n ih =>
    simp only [isum]
    by_cases hn : r + 1 = n
    · subst hn
      rw [isum_one (r := r) (by omega) fun k hk hkr => h k (by omega) hkr (by omega)]
    · rw [ih (by omega) fun k hk => h k (by omega), h n (by omega) (by omega) (by omega)]; omega
theorem isum_front (g : Nat → Int) : ∀ n, isum g (n + 1) = g 0 + isum (fun k => g (k + 1)) n
  | 0 => by simp [isum]
  | n + 1 => by rw [isum, isum_front g n, isum]; omega
theorem isum_swap (f : Nat → Nat → Int) (m : Nat) : ∀ n, isum (fun i => isum (fun j => f i j) m) n = isum (fun j => isum (fun i => f i j) n) m
  | 0 => by simp only [isum]; exact (isum_zero fun _ _ => rfl).symm
  | n + 1 => by simp only [isum]; rw [isum_swap f m n, ← isum_add]
def sg (j : Nat) : Int := if j % 2 = 1 then -1 else 1
theorem sg_zero : sg 0 = 1 := rfl
theorem sg_succ (j : Nat) : sg (j + 1) = - sg j := by
  unfold sg
  by_cases h : j % 2 = 1
  · rw [if_pos h, if_neg (by omega)]; rfl
  · rw [if_neg h, if_pos (by omega)]
theorem sg_add (i j : Nat) : sg (i + j) = sg i * sg j := by
  induction j with
  | zero => simp [sg]
  | succ j ih => rw [← Nat.add_assoc, sg_succ, ih, sg_succ]; grind
theorem sg_sq (j : Nat) : sg j * sg j = 1 := by
  unfold sg; split <;> rfl
abbrev Mx := Nat → Nat → Int
/-- Past i. -/
def sk (i k : Nat) : Nat := if k < i then k else k + 1
def cut (A : Mx) (i j : Nat) : Mx := fun x y => A (sk i x) (sk j y)
def det : Nat → Mx → Int
  | 0, _ => 1
  | n + 1, A => isum (fun i => sg i * (A i 0 * det n (cut A i 0))) (n + 1)
def rw' (A : Mx) (r : Nat) (u : Nat → Int) : Mx := fun i j => if i = r then u j else A i j
def tp (A : Mx) : Mx := fun i j => A j i
def one : Mx := fun i j => if i = j then 1 else 0
def mm (n : Nat) (A B : Mx) : Mx := fun i j => isum (fun k => A i k * B k j) n
theorem sk_ne (i k : Nat) : sk i k ≠ i := by unfold sk; split <;> omega
theorem sk_lt {i k n : Nat} (h : k < n) : sk i k < n + 1 := by unfold sk; split <;> omega
theorem sk_zero (k : Nat) : sk 0 k = k + 1 := rfl
theorem sk_inj {i a b : Nat} (h : sk i a = sk i b) : a = b := by unfold sk at h; split at h <;> split at h <;> omega
theorem sk_sk {i k : Nat} (h : i ≤ k) (x : Nat) : sk i (sk k x) = sk (k + 1) (sk i x) := by
  unfold sk
  by_cases h1 : x < i
  · rw [if_pos (show x < k by omega), if_pos h1, if_pos (show x < k + 1 by omega)]
  · by_cases h2 : x < k
    · rw [if_pos h2, if_neg h1, if_pos (show x + 1 < k + 1 by omega)]
    · rw [if_neg h2, if_neg h1, if_neg (show ¬ x + 1 < i by omega), if_neg (show ¬ x + 1 < k + 1 by omega)]
/-- Where r comes to lie without i. -/
def pk (i r : Nat) : Nat := if r < i then r else r - 1
theorem sk_pk {i r : Nat} (h : r ≠ i) : sk i (pk i r) = r := by
  unfold sk pk
  by_cases h1 : r < i
  · rw [if_pos h1, if_pos h1]
  · rw [if_neg h1, if_neg (by omega)]; omega
theorem pk_lt {i r n : Nat} (hr : r < n + 1) (hi : i < n + 1) (h : r ≠ i) : pk i r < n := by unfold pk; split <;> omega
theorem sk_eq_iff {i r x : Nat} (h : r ≠ i) : sk i x = r ↔ x = pk i r :=
  ⟨fun e => sk_inj (e.trans (sk_pk h).symm), fun e => e ▸ sk_pk h⟩
theorem det_congr : ∀ {n : Nat} {A B : Mx}, (∀ i j, i < n → j < n → A i j = B i j) → det n A = det n B
  | 0, _, _, _ => rfl
  | n + 1, A, B, h => by
    simp only [det]
    refine isum_congr fun i hi => ?_
    rw [h i 0 hi (by omega), det_congr (n := n) (A := cut A i 0) (B := cut B i 0) fun x y hx hy => h _ _ (sk_lt hx) (sk_lt hy)]
theorem cut_rw_same (A : Mx) (r j : Nat) (u : Nat → Int) : cut (rw' A r u) r j = cut A r j := by
  funext x y; simp only [cut, rw', if_neg (sk_ne r x)]
theorem cut_rw {A : Mx} {i r j : Nat} (h : r ≠ i) (u : Nat → Int) : cut (rw' A r u) i j = rw' (cut A i j) (pk i r) (fun y => u (sk j y)) := by
  funext x y
  simp only [cut, rw']
  by_cases hx : x = pk i r
  · rw [if_pos hx, if_pos ((sk_eq_iff h).2 hx)]
  · rw [if_neg hx, if_neg fun e => hx ((sk_eq_iff h).1 e)]
theorem det_row_lin : ∀ {n : Nat} (A : Mx) {r : Nat}, r < n → ∀ (a b : Int) (u v : Nat → Int),
    det n (rw' A r (fun j => a * u j + b * v j)) = a * det n (rw' A r u) + b * det n (rw' A r v)
  | 0, _, _, h, _, _, _, _ => by omega
  | n + 1, A, r, hr, a, b, u, v => by
    simp only [det]
    rw [← isum_lin]
    refine isum_congr fun i hi => ?_
    by_cases h : i = r
    · subst h
      rw [cut_rw_same, cut_rw_same, cut_rw_same]
      simp only [rw', if_true]
      grind
    · have h' : r ≠ i := fun e => h e.symm
      rw [cut_rw h', cut_rw h', cut_rw h', det_row_lin (cut A i 0) (pk_lt hr hi h') a b]
      simp only [rw', if_neg h]
      grind
theorem det_row_alt : ∀ {n : Nat} {A : Mx} {r : Nat}, r + 1 < n → (∀ j, j < n → A r j = A (r + 1) j) → det n A = 0
  | 0, _, _, h, _ => by omega
  | n + 1, A, r, hr, he => by
    simp only [det]
    rw [isum_two (r := r) hr]
    · have e : det n (cut A (r + 1) 0) = det n (cut A r 0) := det_congr fun x y hx hy => by
        simp only [cut]
        by_cases h : x = r
        · subst h
          rw [show sk (x + 1) x = x from if_pos (by omega), show sk x x = x + 1 from if_neg (by omega)]
          exact he _ (sk_lt hy)
        · have : sk (r + 1) x = sk r x := by unfold sk; split <;> split <;> omega
          rw [this]
      rw [e, sg_succ, he 0 (by omega)]
      grind
    · intro i hi h1 h2
      have hp : pk i (r + 1) = pk i r + 1 := by unfold pk; split <;> split <;> omega
      have : det n (cut A i 0) = 0 := det_row_alt (r := pk i r) (by have := pk_lt hr hi (fun e => h2 e.symm); omega) fun j hj => by
        simp only [cut]
        rw [← hp, sk_pk (fun e => h2 e.symm), sk_pk (fun e => h1 e.symm)]
        exact he _ (sk_lt hj)
      rw [this]; simp
-- Columns.
theorem tr_tr (A : Mx) : tp (tp A) = A := rfl
def cw (A : Mx) (c : Nat) (u : Nat → Int) : Mx := fun i j => if j = c then u i else A i j
theorem cut_cw {A : Mx} {i c : Nat} (u : Nat → Int) : cut (cw A (c + 1) u) i 0 = cw (cut A i 0) c (fun x => u (sk i x)) := by
  funext x y
  unfold cut cw
  rw [sk_zero]
  by_cases hx : y = c
  · rw [if_pos hx, if_pos (by omega)]
  · rw [if_neg hx, if_neg (by omega)]; rfl
theorem det_col_lin : ∀ {n : Nat} (A : Mx) {c : Nat}, c < n → ∀ (a b : Int) (u v : Nat → Int),
    det n (cw A c (fun j => a * u j + b * v j)) = a * det n (cw A c u) + b * det n (cw A c v)
  | 0, _, _, h, _, _, _, _ => by omega
  | n + 1, A, 0, hr, a, b, u, v => by
    simp only [det]
    rw [← isum_lin]
    refine isum_congr fun i hi => ?_
    have e : ∀ w, cut (cw A 0 w) i 0 = cut A i 0 := fun w => by funext x y; unfold cut cw; rw [sk_zero, if_neg (by omega)]
    rw [e, e, e]
    simp only [cw, if_true]
    grind
  | n + 1, A, c + 1, hr, a, b, u, v => by
    simp only [det]
    rw [← isum_lin]
    refine isum_congr fun i hi => ?_
    rw [cut_cw, cut_cw, cut_cw, det_col_lin (cut A i 0) (by omega) a b]
    have : ¬ 0 = c + 1 := by omega
    simp only [cw, if_neg this]
    grind
theorem dsum {F : Nat → Nat → Int} : ∀ {n : Nat}, (∀ i k, i ≤ k → k < n → F i k + F (k + 1) i = 0) → isum (fun i => isum (F i) n) (n + 1) = 0
  | 0, _ => by simp [isum]
  | n + 1, h => by
    have h1 := dsum (F := F) (n := n) fun i k hi hk => h i k hi (by omega)
    rw [isum]
    have e : isum (fun i => isum (F i) (n + 1)) (n + 1) = isum (fun i => isum (F i) n) (n + 1) + isum (fun i => F i n) (n + 1) := by
      rw [← isum_add]; exact isum_congr fun i _ => rfl
    rw [e, h1, Int.zero_add, ← isum_add]
    exact isum_zero fun i hi => h i n (by omega) (by omega)
theorem det_col_alt : ∀ {n : Nat} {A : Mx} {c : Nat}, c + 1 < n → (∀ i, i < n → A i c = A i (c + 1)) → det n A = 0
  | 0, _, _, h, _ => by omega
  | 1, _, _, h, _ => by omega
  | n + 2, A, 0, hr, he => by
    simp only [det]
    rw [isum_congr (g' := fun i => isum (fun k => sg i * A i 0 * (sg k * (A (sk i k) 1 * det n (cut (cut A i 0) k 0)))) (n + 1))]
    · refine dsum fun i k hi hk => ?_
      have e1 : sk i k = k + 1 := if_neg (by omega)
      have e2 : sk (k + 1) i = i := if_pos (by omega)
      have e3 : cut (cut A i 0) k 0 = cut (cut A (k + 1) 0) i 0 := by
        funext x y; simp only [cut]; rw [sk_sk hi]
      rw [e1, e2, e3, he i (by omega), he (k + 1) (by omega), sg_succ]
      grind
    · intro i hi
      rw [isum_mul]
      have : isum (fun k => sg k * (A (sk i k) 1 * det n (cut (cut A i 0) k 0))) (n + 1) = isum (fun k => sg k * (cut A i 0 k 0 * det n (cut (cut A i 0) k 0))) (n + 1) := rfl
      rw [this]
      grind
  | n + 2, A, c + 1, hr, he => by
    rw [det]
    refine isum_zero fun i hi => ?_
    rw [det_col_alt (n := n + 1) (A := cut A i 0) (c := c) (by omega) fun x hx => by simp only [cut, sk_zero]; exact he _ (sk_lt hx)]
    simp
/-- Linear and alternating in n rows. -/
structure Form (n : Nat) (D : Mx → Int) : Prop where
  cong : ∀ {A B : Mx}, (∀ i j, i < n → j < n → A i j = B i j) → D A = D B
  lin : ∀ (A : Mx) {r : Nat}, r < n → ∀ (a b : Int) (u v : Nat → Int), D (rw' A r (fun j => a * u j + b * v j)) = a * D (rw' A r u) + b * D (rw' A r v)
  alt : ∀ {A : Mx} {r : Nat}, r + 1 < n → (∀ j, j < n → A r j = A (r + 1) j) → D A = 0
theorem det_form (n : Nat) : Form n (det n) := ⟨det_congr, fun A _ h => det_row_lin A h, det_row_alt⟩
theorem tr_cw (A : Mx) (r : Nat) (u : Nat → Int) : tp (rw' A r u) = cw (tp A) r u := rfl
theorem dett_form (n : Nat) : Form n (fun A => det n (tp A)) := by
  refine ⟨fun h => det_congr fun i j hi hj => h j i hj hi, fun A r hr a b u v => ?_, fun {A r} h he => det_col_alt (A := tp A) h fun i hi => he i hi⟩
  simp only [tr_cw]
  exact det_col_lin (tp A) hr a b u v
theorem rw_self (A : Mx) (r : Nat) : rw' A r (A r) = A := by
  funext i j; unfold rw'; split
  · rename_i h; rw [h]
  · rfl
theorem rw_comm (A : Mx) {r s : Nat} (h : r ≠ s) (u v : Nat → Int) : rw' (rw' A r u) s v = rw' (rw' A s v) r u := by
  funext i j; unfold rw'
  by_cases h1 : i = s
  · rw [if_pos h1, if_neg (by omega), if_pos h1]
  · rw [if_neg h1]
    by_cases h2 : i = r
    · rw [if_pos h2, if_pos h2]
    · rw [if_neg h2, if_neg h2, if_neg h1]
namespace Form
variable {n : Nat} {D : Mx → Int}
theorem add (h : Form n D) (A : Mx) {r : Nat} (hr : r < n) (u v : Nat → Int) : D (rw' A r (fun j => u j + v j)) = D (rw' A r u) + D (rw' A r v) := by
  have := h.lin A hr 1 1 u v; simpa using this
theorem smul (h : Form n D) (A : Mx) {r : Nat} (hr : r < n) (c : Int) (u : Nat → Int) : D (rw' A r (fun j => c * u j)) = c * D (rw' A r u) := by
  have := h.lin A hr c 0 u u; simpa using this
theorem zero (h : Form n D) {A : Mx} {r : Nat} (hr : r < n) (hz : ∀ j, j < n → A r j = 0) : D A = 0 := by
  have h1 := h.smul A hr 0 (A r)
  rw [Int.zero_mul] at h1
  rw [← h1]
  refine h.cong fun i j hi hj => ?_
  unfold rw'
  split
  · rename_i e; subst e; rw [hz j hj]; simp
  · rfl
/-- From equal rows to what changing them about does. -/
theorem swap_of (h : Form n D) {A : Mx} {r s : Nat} (hr : r < n) (hs : s < n) (hne : r ≠ s) (alt : ∀ B : Mx, (∀ j, j < n → B r j = B s j) → D B = 0) :
    D (rw' (rw' A r (A s)) s (A r)) = - D A := by
  have z : ∀ w, D (rw' (rw' A r w) s w) = 0 := fun w => alt _ fun j _ => by
    simp [rw', hne]
  have key := z fun j => A r j + A s j
  rw [h.add _ hs, rw_comm A hne, h.add _ hr, rw_comm A hne, h.add _ hr] at key
  rw [rw_comm _ (Ne.symm hne), rw_comm _ (Ne.symm hne) , rw_comm _ (Ne.symm hne), rw_comm _ (Ne.symm hne)] at key
  have z1 := z (A r)
  have z2 := z (A s)
  have e : rw' (rw' A r (A r)) s (A s) = A := by rw [rw_self, rw_self]
  have e1 : D (rw' (rw' A r fun j => A r j) s fun j => A r j) = 0 := z1
  have e2 : D (rw' (rw' A r fun j => A s j) s fun j => A s j) = 0 := z2
  have e3 : D (rw' (rw' A r fun j => A r j) s fun j => A s j) = D A := congrArg D e
  have e4 : D (rw' (rw' A r fun j => A s j) s fun j => A r j) = D (rw' (rw' A r (A s)) s (A r)) := rfl
  rw [e1, e2, e3, e4] at key
  omega
theorem alt2 (h : Form n D) : ∀ (d : Nat) {A : Mx} {r : Nat}, r + d + 1 < n → (∀ j, j < n → A r j = A (r + d + 1) j) → D A = 0
  | 0, A, r, hr, he => h.alt hr he
  | d + 1, A, r, hr, he => by
    have hs := h.swap_of (A := A) (r := r + d + 1) (s := r + d + 2) (by omega) (by omega) (by omega) fun B hB => h.alt (by omega) hB
    have : D (rw' (rw' A (r + d + 1) (A (r + d + 2))) (r + d + 2) (A (r + d + 1))) = 0 := h.alt2 d (r := r) (by omega) fun j hj => by
      have h1 : ¬ r = r + d + 2 := by omega
      have h2 : ¬ r = r + d + 1 := by omega
      have h3 : ¬ r + d + 1 = r + d + 2 := by omega
      simp only [rw', if_neg h1, if_neg h2, if_neg h3, if_true]
      exact he j hj
    omega
theorem eqRows (h : Form n D) {A : Mx} {r s : Nat} (hr : r < n) (hs : s < n) (hne : r ≠ s) (he : ∀ j, j < n → A r j = A s j) : D A = 0 := by
  rcases Nat.lt_or_gt_of_ne hne with hlt | hlt
  · obtain ⟨d, rfl⟩ : ∃ d, s = r + d + 1 := ⟨s - r - 1, by omega⟩
    exact h.alt2 d hs he
  · obtain ⟨d, rfl⟩ : ∃ d, r = s + d + 1 := ⟨r - s - 1, by omega⟩
    exact h.alt2 d hr fun j hj => (he j hj).symm
theorem swap (h : Form n D) {A : Mx} {r s : Nat} (hr : r < n) (hs : s < n) (hne : r ≠ s) : D (rw' (rw' A r (A s)) s (A r)) = - D A :=
  h.swap_of hr hs hne fun _ hB => h.eqRows hr hs hne hB
/-- A multiple of another row is put to a row. -/
theorem addRow (h : Form n D) {A : Mx} {r s : Nat} (hr : r < n) (hs : s < n) (hne : r ≠ s) (c : Int) (v : Nat → Int) (hv : ∀ j, j < n → v j = A s j) (u : Nat → Int) : D (rw' A r (fun j => u j + c * v j)) = D (rw' A r u) := by
  have h1 := h.lin A hr 1 c u v
  have h2 : D (rw' A r v) = 0 := h.eqRows hr hs hne fun j hj => by
    unfold rw'; rw [if_pos rfl, if_neg (Ne.symm hne), hv j hj]
  simpa [h2] using h1
/-- A sum of rows in a row's place. -/
theorem sum (h : Form n D) (A : Mx) {r : Nat} (hr : r < n) (c : Nat → Int) (u : Nat → Nat → Int) : ∀ m, D (rw' A r (fun j => isum (fun k => c k * u k j) m)) = isum (fun k => c k * D (rw' A r (u k))) m
  | 0 => by
    simp only [isum]
    exact h.zero hr fun j _ => by unfold rw'; simp
  | m + 1 => by
    simp only [isum]
    have := h.lin A hr 1 (c m) (fun j => isum (fun k => c k * u k j) m) (u m)
    rw [h.sum A hr c u m] at this
    simpa using this
theorem addRows (h : Form n D) {A : Mx} {r : Nat} (hr : r < n) (c : Nat → Int) (s : Nat → Nat) (m : Nat) (hs : ∀ k, k < m → s k < n ∧ s k ≠ r) (u : Nat → Int) :
    D (rw' A r (fun j => u j + isum (fun k => c k * A (s k) j) m)) = D (rw' A r u) := by
  have h1 := h.add A hr u (fun j => isum (fun k => c k * A (s k) j) m)
  rw [h.sum A hr c (fun k => A (s k)) m] at h1
  rw [h1, isum_zero, Int.add_zero]
  intro k hk
  obtain ⟨k1, k2⟩ := hs k hk
  rw [h.eqRows (A := rw' A r (A (s k))) hr k1 (Ne.symm k2) fun j hj => by unfold rw'; rw [if_pos rfl, if_neg k2]]
  simp
end Form
-- Rows of units.
def unitRow (f : Nat → Nat) : Mx := fun i j => if f i = j then 1 else 0
theorem pigeon : ∀ (k : Nat) (f : Nat → Nat), (∀ i, i ≤ k → f i < k) → ∃ i j, i < j ∧ j ≤ k ∧ f i = f j
  | 0, f, h => absurd (h 0 (Nat.le_refl _)) (by omega)
  | k + 1, f, h => by
    by_cases hx : ∃ i, i ≤ k ∧ f i = f (k + 1)
    · obtain ⟨i, h1, h2⟩ := hx
      exact ⟨i, k + 1, by omega, by omega, h2⟩
    · have hne : ∀ i, i ≤ k → f i ≠ f (k + 1) := fun i hi e => hx ⟨i, hi, e⟩
      have hl := h (k + 1) (Nat.le_refl _)
      obtain ⟨i, j, h1, h2, h3⟩ := pigeon k (fun i => pk (f (k + 1)) (f i)) fun i hi => by
        have := h i (by omega)
        exact pk_lt (n := k) (by omega) hl (hne i hi)
      refine ⟨i, j, h1, by omega, ?_⟩
      rw [← sk_pk (hne i (by omega)), ← sk_pk (hne j h2), h3]
namespace Form
variable {n : Nat} {D : Mx → Int}
theorem units (h : Form n D) (h0 : D one = 0) : ∀ (k : Nat), k ≤ n → ∀ f : Nat → Nat, (∀ i, i < n → f i < n) → (∀ i, k ≤ i → i < n → f i = i) → D (unitRow f) = 0
  | 0, _, f, _, hf => by
    rw [← h0]
    exact h.cong fun i j hi hj => by unfold unitRow one; rw [hf i (by omega) hi]
  | k + 1, hk, f, hb, hf => by
    by_cases hrep : ∃ i j, i < j ∧ j < n ∧ f i = f j
    · obtain ⟨i, j, h1, h2, h3⟩ := hrep
      exact h.eqRows (r := i) (s := j) (by omega) h2 (by omega) fun y _ => by unfold unitRow; rw [h3]
    · by_cases hx : ∃ i, i ≤ k ∧ f i = k
      · obtain ⟨i, h1, h2⟩ := hx
        by_cases hik : i = k
        · subst hik
          refine units h h0 i (by omega) f hb fun x hx hxn => ?_
          by_cases e : x = i
          · rw [e, h2]
          · exact hf x (by omega) hxn
        · have hsw := h.swap (A := unitRow f) (r := i) (s := k) (by omega) (by omega) hik
          have e : rw' (rw' (unitRow f) i (unitRow f k)) k (unitRow f i) = unitRow (fun x => if x = k then f i else if x = i then f k else f x) := by
            funext x y
            unfold rw' unitRow
            by_cases e1 : x = k
            · simp [e1]
            · by_cases e2 : x = i
              · simp [e2, hik]
              · simp [e1, e2]
          rw [e, units h h0 k (by omega)] at hsw
          · omega
          · intro x hx
            split
            · exact hb _ (by omega)
            · split
              · exact hb _ (by omega)
              · exact hb _ hx
          · intro x hx hxn
            by_cases e1 : x = k
            · rw [if_pos e1, h2, e1]
            · rw [if_neg e1, if_neg (by omega)]
              exact hf x (by omega) hxn
      · exfalso
        have hlow : ∀ i, i ≤ k → f i < k := fun i hi => by
          rcases Nat.lt_or_ge (f i) k with h1 | h1
          · exact h1
          · exfalso
            by_cases e : f i = k
            · exact hx ⟨i, hi, e⟩
            · exact hrep ⟨i, f i, by omega, hb i (by omega), (hf (f i) (by omega) (hb i (by omega))).symm⟩
        obtain ⟨i, j, h1, h2, h3⟩ := pigeon k f hlow
        exact hrep ⟨i, j, h1, by omega, h3⟩
theorem vanish (h : Form n D) (h0 : D one = 0) : ∀ (k : Nat), k ≤ n → ∀ (A : Mx) (f : Nat → Nat), (∀ i, i < n → f i < n) → (∀ i j, k ≤ i → i < n → j < n → A i j = unitRow f i j) → D A = 0
  | 0, _, A, f, hb, hA => by
    rw [← units h h0 n (Nat.le_refl _) f hb fun i h1 h2 => by omega]
    exact h.cong fun i j hi hj => hA i j (by omega) hi hj
  | k + 1, hk, A, f, hb, hA => by
    have e : D A = D (rw' A k (fun j => isum (fun c => A k c * one c j) n)) := h.cong fun i j hi hj => by
      unfold rw'
      split
      · rename_i e
        subst e
        show _ = isum _ n
        rw [isum_one (r := j) hj fun c _ hc => by simp [one, hc]]
        simp [one]
      · rfl
    rw [e, h.sum A (by omega) (fun c => A k c) one n]
    refine isum_zero fun c hc => ?_
    rw [vanish h h0 k (by omega) (rw' A k (one c)) (fun x => if x = k then c else f x) (fun i hi => by split; exact hc; exact hb i hi) fun i j h1 h2 h3 => ?_]
    · simp
    · unfold rw' unitRow
      by_cases hik : i = k
      · simp [hik, one]
      · simp only [if_neg hik]
        exact hA i j (by omega) h2 h3
end Form
theorem det_one : ∀ n, det n one = 1
  | 0 => rfl
  | n + 1 => by
    rw [det, isum_one (r := 0) (by omega) fun k _ hk => by simp [one, hk]]
    have : det n (cut one 0 0) = det n one := det_congr fun i j _ _ => by simp [cut, one, sk_zero]
    rw [this, det_one n]; rfl
/-- There is but one. -/
theorem Form.eq {n : Nat} {D : Mx → Int} (h : Form n D) (A : Mx) : D A = det n A * D one := by
  have hE : Form n (fun A => D A - det n A * D one) := by
    refine ⟨fun hc => by rw [h.cong hc, det_congr hc], fun A r hr a b u v => ?_, fun hr he => by rw [h.alt hr he, det_row_alt hr he]; simp⟩
    rw [h.lin A hr, det_row_lin A hr]
    grind
  have := hE.vanish (by rw [det_one]; omega) n (Nat.le_refl _) A (fun i => i) (fun i hi => hi) fun i j h1 h2 => by omega
  omega
theorem tr_one : tp one = one := by
  funext i j; unfold tp one
  by_cases h : i = j
  · subst h; rfl
  · rw [if_neg h, if_neg (Ne.symm h)]
theorem det_tr (n : Nat) (A : Mx) : det n (tp A) = det n A := by
  have := (dett_form n).eq A
  simp only [tr_one, det_one, Int.mul_one] at this
  exact this
theorem mul_rw (n : Nat) (A B : Mx) (r : Nat) (u : Nat → Int) : mm n (rw' A r u) B = rw' (mm n A B) r (fun j => isum (fun k => u k * B k j) n) := by
  funext i j
  unfold mm rw'
  by_cases h : i = r
  · simp only [if_pos h]
  · simp only [if_neg h]
theorem det_mul (n : Nat) (A B : Mx) : det n (mm n A B) = det n A * det n B := by
  have h : Form n (fun A => det n (mm n A B)) := by
    refine ⟨fun hc => det_congr fun i j hi hj => isum_congr fun k hk => by rw [hc i k hi hk], fun A r hr a b u v => ?_, fun {A r} hr he => det_row_alt hr fun j hj => isum_congr fun k hk => by rw [he k hk]⟩
    simp only [mul_rw]
    rw [← det_row_lin _ hr]
    congr 2
    funext j
    rw [← isum_lin]
    exact isum_congr fun k _ => by grind
  have := h.eq A
  rw [this]
  congr 1
  refine det_congr fun i j hi hj => ?_
  unfold mm
  rw [isum_one (r := i) hi fun k _ hk => by simp [one, Ne.symm hk]]
  simp [one]
-- Any column, any row.
def mv (A : Mx) (j : Nat) : Mx := fun x y => A x (if y = 0 then j else sk j (y - 1))
theorem det_mv (n : Nat) : ∀ (j : Nat) (A : Mx), j < n → det n (mv A j) = sg j * det n A
  | 0, A, _ => by
    rw [sg_zero, Int.one_mul]
    refine det_congr fun x y _ _ => ?_
    unfold mv
    congr 1
    by_cases h : y = 0
    · rw [if_pos h, h]
    · rw [if_neg h, sk_zero]; omega
  | j + 1, A, hj => by
    have hsw := (dett_form n).swap (A := tp A) (r := j) (s := j + 1) (by omega) hj (by omega)
    simp only [tr_tr] at hsw
    have ih := det_mv n j (tp (rw' (rw' (tp A) j (tp A (j + 1))) (j + 1) (tp A j))) (by omega)
    rw [hsw] at ih
    rw [sg_succ, Int.neg_mul, ← Int.mul_neg, ← ih]
    refine det_congr fun x y _ _ => ?_
    unfold mv tp rw'
    by_cases h : y = 0
    · simp [h]
    · simp only [if_neg h]
      by_cases h1 : y - 1 < j
      · have e1 : sk j (y - 1) = y - 1 := if_pos h1
        have e2 : sk (j + 1) (y - 1) = y - 1 := if_pos (by omega)
        rw [e1, e2, if_neg (by omega), if_neg (by omega)]
      · by_cases h2 : y - 1 = j
        · have e1 : sk j (y - 1) = j + 1 := by unfold sk; rw [if_neg h1]; omega
          have e2 : sk (j + 1) (y - 1) = j := by unfold sk; rw [if_pos (by omega)]; omega
          rw [e1, e2, if_pos rfl]
        · have e1 : sk j (y - 1) = y := by unfold sk; rw [if_neg h1]; omega
          have e2 : sk (j + 1) (y - 1) = y := by unfold sk; rw [if_neg (by omega)]; omega
          rw [e1, e2, if_neg (by omega), if_neg (by omega)]
theorem det_col {n : Nat} (A : Mx) {j : Nat} (hj : j < n + 1) : det (n + 1) A = isum (fun i => sg (i + j) * (A i j * det n (cut A i j))) (n + 1) := by
  have h1 := det_mv (n + 1) j A hj
  have h2 : det (n + 1) (mv A j) = isum (fun i => sg i * (A i j * det n (cut A i j))) (n + 1) := by
    rw [det]
    refine isum_congr fun i _ => ?_
    have : cut (mv A j) i 0 = cut A i j := by funext x y; simp [cut, mv, sk_zero]
    rw [this]; simp [mv]
  rw [h2] at h1
  have h3 : det (n + 1) A = sg j * (sg j * det (n + 1) A) := by rw [← Int.mul_assoc, sg_sq, Int.one_mul]
  rw [h3, ← h1, ← isum_mul]
  refine isum_congr fun i _ => ?_
  rw [sg_add]; grind
theorem cut_tr (A : Mx) (i j : Nat) : cut (tp A) i j = tp (cut A j i) := rfl
theorem det_row {n : Nat} (A : Mx) {i : Nat} (hi : i < n + 1) : det (n + 1) A = isum (fun j => sg (i + j) * (A i j * det n (cut A i j))) (n + 1) := by
  rw [← det_tr, det_col (tp A) hi]
  refine isum_congr fun j _ => ?_
  rw [cut_tr, det_tr, Nat.add_comm]; rfl
/-- The adjugate of n + 1 rows. -/
def adj (n : Nat) (A : Mx) : Mx := fun i j => sg (i + j) * det n (cut A j i)
theorem mul_adj {n : Nat} (A : Mx) {i j : Nat} (hi : i < n + 1) (hj : j < n + 1) : mm (n + 1) A (adj n A) i j = if i = j then det (n + 1) A else 0 := by
  have h := det_row (rw' A j (A i)) hj
  have e : mm (n + 1) A (adj n A) i j = det (n + 1) (rw' A j (A i)) := by
    rw [h]
    unfold mm adj
    refine isum_congr fun k _ => ?_
    rw [cut_rw_same, Nat.add_comm k j]
    simp only [rw', if_true]
    grind
  rw [e]
  by_cases hij : i = j
  · subst hij; rw [if_pos rfl, rw_self]
  · rw [if_neg hij]
    exact (det_form (n + 1)).eqRows hi hj hij fun y _ => by unfold rw'; rw [if_neg hij, if_pos rfl]
theorem adj_mul {n : Nat} (A : Mx) {i j : Nat} (hi : i < n + 1) (hj : j < n + 1) : mm (n + 1) (adj n A) A i j = if i = j then det (n + 1) A else 0 := by
  have h := mul_adj (tp A) hj hi
  rw [det_tr] at h
  have e : mm (n + 1) (adj n A) A i j = mm (n + 1) (tp A) (adj n (tp A)) j i := by
    unfold mm
    refine isum_congr fun k _ => ?_
    unfold adj
    rw [cut_tr, det_tr, Nat.add_comm k i]
    simp only [tp]
    exact Int.mul_comm _ _
  rw [e, h]
  by_cases hij : i = j
  · rw [if_pos hij, if_pos hij.symm]
  · rw [if_neg hij, if_neg (Ne.symm hij)]
/-- b in the place of column k. -/
theorem det_cw {n : Nat} (A : Mx) {k : Nat} (hk : k < n + 1) (b : Nat → Int) : det (n + 1) (cw A k b) = isum (fun i => b i * adj n A k i) (n + 1) := by
  rw [det_col _ hk]
  refine isum_congr fun i _ => ?_
  have : cut (cw A k b) i k = cut A i k := by funext x y; simp only [cut, cw, if_neg (sk_ne k y)]
  rw [this]
  simp only [cw, if_true, adj]
  rw [Nat.add_comm k i]; grind
theorem cramer {n : Nat} (A : Mx) (b : Nat → Int) {i : Nat} (hi : i < n + 1) : isum (fun k => A i k * det (n + 1) (cw A k b)) (n + 1) = det (n + 1) A * b i := by
  rw [isum_congr (g' := fun k => isum (fun j => b j * (A i k * adj n A k j)) (n + 1)) fun k hk => ?_]
  · rw [isum_swap]
    rw [isum_congr (g' := fun j => b j * (if i = j then det (n + 1) A else 0)) fun j hj => ?_]
    · rw [isum_one (r := i) hi fun j _ hj => by rw [if_neg (Ne.symm hj)]; simp, if_pos rfl, Int.mul_comm]
    · rw [isum_mul, ← mul_adj A hi hj]; rfl
  · rw [det_cw A hk, ← isum_mul]
    exact isum_congr fun j _ => by grind
end Go.Proofs.Ytabdfhdddmbmlaa

namespace Go.Proofs.Ytabdfhdddmbmlaa
theorem mul_congr {n : Nat} {A A' B B' : Mx} {i j : Nat} (h1 : ∀ k, k < n → A i k = A' i k) (h2 : ∀ k, k < n → B k j = B' k j) : mm n A B i j = mm n A' B' i j :=
  isum_congr fun k hk => by rw [h1 k hk, h2 k hk]
theorem mul_assoc (m n : Nat) (A B C : Mx) (i j : Nat) : mm n (mm m A B) C i j = mm m A (mm n B C) i j := by
  unfold mm
  rw [isum_congr (g' := fun k => isum (fun l => A i l * B l k * C k j) m) fun k _ => (isum_mul_right _ _ _).symm, isum_swap]
  exact isum_congr fun l _ => by rw [← isum_mul]; exact isum_congr fun k _ => Int.mul_assoc _ _ _
theorem one_mul {n : Nat} (A : Mx) {i j : Nat} (hi : i < n) : mm n one A i j = A i j := by
  unfold mm
  rw [isum_one (r := i) hi fun k _ hk => by simp [one, Ne.symm hk]]
  simp [one]
theorem mul_sum_left (n : Nat) (c : Int) (A B : Mx) (i j : Nat) : mm n (fun x y => c * A x y) B i j = c * mm n A B i j := by
  unfold mm; rw [← isum_mul]; exact isum_congr fun k _ => Int.mul_assoc _ _ _
theorem mul_sum_right (n : Nat) (c : Int) (A B : Mx) (i j : Nat) : mm n A (fun x y => c * B x y) i j = c * mm n A B i j := by
  unfold mm; rw [← isum_mul]; exact isum_congr fun k _ => by grind
def Lo (r R C : Nat) (A : Mx) : Prop := ∃ X Y : Mx, det r (mm C (mm R X A) Y) ≠ 0
def Up (r R C : Nat) (A : Mx) : Prop := ∃ d : Int, d ≠ 0 ∧ ∃ B E : Mx, ∀ i k, i < R → k < C → d * A i k = mm r B E i k
theorem det_zero_col {n : Nat} {A : Mx} {c : Nat} (hc : c < n) (h : ∀ i, i < n → A i c = 0) : det n A = 0 := by
  rw [← det_tr]
  exact (det_form n).zero hc fun j hj => h j hj
theorem isum_cut {g : Nat → Int} {m n : Nat} (h : m ≤ n) (hz : ∀ k, m ≤ k → k < n → g k = 0) : isum g n = isum g m := by
  induction n with
  | zero => have : m = 0 := by omega
            subst this; rfl
  | succ n ih =>
    by_cases e : m = n + 1
    · rw [e]
    · rw [isum, hz n (by omega) (by omega), ih (by omega) fun k h1 h2 => hz k h1 (by omega)]; omega
/-- A product over fewer than its rows has the determinant 0. -/
theorem det_thin {s r : Nat} (h : s < r) (U V : Mx) : det r (mm s U V) = 0 := by
  have e : ∀ i j, mm s U V i j = mm r (fun i k => if k < s then U i k else 0) V i j := fun i j => by
    unfold mm
    rw [isum_cut (m := s) (n := r) (by omega) fun k h1 _ => by show (if k < s then U i k else 0) * V k j = 0; rw [if_neg (by omega)]; simp]
    exact isum_congr fun k hk => by show _ = (if k < s then U i k else 0) * V k j; rw [if_pos hk]
  rw [det_congr fun i j _ _ => e i j, det_mul, det_zero_col (c := s) h fun i _ => by rw [if_neg (by omega)], Int.zero_mul]
theorem det_smul : ∀ (n : Nat) (c : Int) (A : Mx), det n (fun i j => c * A i j) = c ^ n * det n A
  | 0, c, A => by simp [det]
  | n + 1, c, A => by
    simp only [det]
    rw [← isum_mul]
    refine isum_congr fun i _ => ?_
    have : cut (fun i j => c * A i j) i 0 = fun x y => c * cut A i 0 x y := rfl
    rw [this, det_smul n c, Int.pow_succ]
    grind
theorem pow_ne {d : Int} (hd : d ≠ 0) : ∀ n : Nat, d ^ n ≠ 0
  | 0 => by simp
  | n + 1 => by rw [Int.pow_succ]; exact Int.mul_ne_zero (pow_ne hd n) hd
theorem Lo_le_Up {r s R C : Nat} {A : Mx} (h1 : Lo r R C A) (h2 : Up s R C A) : r ≤ s := by
  rcases Nat.lt_or_ge s r with h | h
  · exfalso
    obtain ⟨X, Y, h1⟩ := h1
    obtain ⟨d, hd, B, E, h2⟩ := h2
    have h3 : det r (fun i j => d * mm C (mm R X A) Y i j) = 0 := by
      rw [← det_thin h (mm R X B) (mm C E Y)]
      refine det_congr fun i j hi hj => ?_
      rw [← mul_sum_left]
      have e1 : ∀ k, k < C → (fun x y => d * mm R X A x y) i k = mm R X (mm s B E) i k := fun k hk => by
        simp only
        rw [← mul_sum_right]
        exact mul_congr (fun _ _ => rfl) fun l hl => h2 l k hl hk
      rw [mul_congr e1 (fun _ _ => rfl)]
      rw [mul_congr (A := mm R X (mm s B E)) (A' := mm s (mm R X B) E) (fun k _ => (mul_assoc R s X B E i k).symm) (fun _ _ => rfl), mul_assoc]
    rw [det_smul] at h3
    rcases Int.mul_eq_zero.1 h3 with h4 | h4
    · exact pow_ne hd _ h4
    · exact h1 h4
  · exact h
structure Rk (r R C : Nat) (A : Mx) : Prop where
  lo : Lo r R C A
  up : Up r R C A
theorem Up_rows (R C : Nat) (A : Mx) : Up R R C A := ⟨1, by decide, one, A, fun i k hi _ => by rw [one_mul A hi]; omega⟩
theorem Rk.le_rows {r R C : Nat} {A : Mx} (h : Rk r R C A) : r ≤ R := Lo_le_Up h.lo (Up_rows R C A)
theorem Up.mul_left {r R K C : Nat} {A B : Mx} (h : Up r R K A) : Up r R C (mm K A B) := by
  obtain ⟨d, hd, U, V, h⟩ := h
  refine ⟨d, hd, U, mm K V B, fun i k hi hk => ?_⟩
  rw [← mul_assoc, ← mul_sum_left]
  exact mul_congr (fun l hl => h i l hi hl) (fun _ _ => rfl)
theorem Up.mul_right {r R K C : Nat} {A B : Mx} (h : Up r K C B) : Up r R C (mm K A B) := by
  obtain ⟨d, hd, U, V, h⟩ := h
  refine ⟨d, hd, mm K A U, V, fun i k hi hk => ?_⟩
  rw [mul_assoc, ← mul_sum_right]
  exact mul_congr (fun _ _ => rfl) (fun l hl => h l k hl hk)
theorem Rk.mul {r s t R K C : Nat} {A B : Mx} (h : Rk r R K A) (h' : Rk s K C B) (h'' : Rk t R C (mm K A B)) : t ≤ r ∧ t ≤ s :=
  ⟨Lo_le_Up h''.lo h.up.mul_left, Lo_le_Up h''.lo h'.up.mul_right⟩
theorem Rk.full {n r : Nat} {A : Mx} (h : Rk r n n A) : det n A = 0 ↔ r < n := by
  constructor
  · intro h0
    rcases Nat.lt_or_ge r n with h1 | h1
    · exact h1
    · exfalso
      have : r = n := Nat.le_antisymm h.le_rows h1
      subst this
      obtain ⟨X, Y, h2⟩ := h.lo
      rw [det_mul, det_mul, h0] at h2
      simp at h2
  · intro hr
    obtain ⟨d, hd, B, E, h1⟩ := h.up
    have h2 : det n (fun i j => d * A i j) = 0 := by
      rw [← det_thin hr B E]
      exact det_congr fun i j hi hj => h1 i j hi hj
    rw [det_smul] at h2
    rcases Int.mul_eq_zero.1 h2 with h4 | h4
    · exact absurd h4 (pow_ne hd _)
    · exact h4
/-- More rows that depend on those. -/
theorem Up.more {r R R' C : Nat} {A A' : Mx} (h : Up r R C A) (D : Mx) (hd : ∀ i k, i < R' → k < C → A' i k = mm R D A i k) : Up r R' C A' := by
  obtain ⟨d, hd0, B, E, h⟩ := h
  refine ⟨d, hd0, mm R D B, E, fun i k hi hk => ?_⟩
  rw [hd i k hi hk, mul_assoc, ← mul_sum_right]
  exact mul_congr (fun _ _ => rfl) fun l hl => h l k hl hk
theorem Lo.more {r R R' C : Nat} {A A' : Mx} (h : Lo r R C A) (D : Mx) (hd : ∀ i k, i < R → k < C → A i k = mm R' D A' i k) : Lo r R' C A' := by
  obtain ⟨X, Y, h⟩ := h
  refine ⟨mm R X D, Y, fun e => h ?_⟩
  rw [← e]
  refine det_congr fun i j _ _ => ?_
  refine mul_congr (fun k hk => ?_) (fun _ _ => rfl)
  rw [mul_assoc]
  exact mul_congr (fun _ _ => rfl) fun l hl => hd l k hl hk
theorem Rk.congr {r R C : Nat} {A A' : Mx} (h : Rk r R C A) (he : ∀ i k, i < R → k < C → A i k = A' i k) : Rk r R C A' := by
  refine ⟨h.lo.more one fun i k hi hk => ?_, h.up.more one fun i k hi hk => ?_⟩
  · rw [one_mul _ hi, he i k hi hk]
  · rw [one_mul _ hi, he i k hi hk]
-- A nought to the right above, or below.
theorem isum_split (g : Nat → Int) (m : Nat) : ∀ n, isum g (m + n) = isum g m + isum (fun k => g (m + k)) n
  | 0 => by simp [isum]
  | n + 1 => by rw [← Nat.add_assoc, isum, isum_split g m n, isum]; omega
end Go.Proofs.Ytabdfhdddmbmlaa

namespace Go.Proofs.Ytabdfhdddmbmlaa
open Go.RowKit
-- Sizes.
/-- At most e limbs. -/
def sz (x : Int) (e : Nat) : Prop := x.natAbs < 18446744073709551616 ^ e
theorem sz.len {x : Int} {e : Nat} (h : sz x e) : (lims x.natAbs).length ≤ e := lims_length_le h
theorem sz.mono {x : Int} {e e' : Nat} (h : sz x e) (he : e ≤ e') : sz x e' := Nat.lt_of_lt_of_le h (Nat.pow_le_pow_right (by decide) he)
theorem sz.mul {x y : Int} {a b : Nat} (h : sz x a) (h' : sz y b) : sz (x * y) (a + b) := by
  unfold sz at *
  rw [Int.natAbs_mul, Nat.pow_add]
  exact Nat.mul_lt_mul'' h h'
theorem sz.neg {x : Int} {a : Nat} (h : sz x a) : sz (-x) a := by unfold sz at *; rwa [Int.natAbs_neg]
theorem sz_jv {x : Bool × List Nat} {k : Nat} (h : Lim x.2) (hl : x.2.length ≤ k) : sz (jv x) k := by
  unfold sz jv
  rw [iv_abs]
  exact Nat.lt_of_lt_of_le (nv_lt h) (Nat.pow_le_pow_right (by decide) hl)
theorem sz_zero (e : Nat) : sz 0 e := Nat.pow_pos (by decide)
theorem isum_le {g : Nat → Int} {e : Nat} : ∀ {n : Nat}, (∀ k, k < n → sz (g k) e) → (isum g n).natAbs ≤ n * 18446744073709551616 ^ e
  | 0, _ => by simp [isum]
  | n + 1, h => by
    have h1 := isum_le (n := n) fun k hk => h k (by omega)
    have h2 := h n (by omega)
    unfold sz at h2
    simp only [isum]
    have := Int.natAbs_add_le (isum g n) (g n)
    rw [Nat.add_mul, Nat.one_mul]
    omega
theorem isum_sz {g : Nat → Int} {e n : Nat} (h : ∀ k, k < n → sz (g k) e) (hn : n < 18446744073709551616) : sz (isum g n) (e + 1) := by
  have h1 := isum_le h
  unfold sz
  rw [Nat.pow_succ, Nat.mul_comm]
  exact Nat.lt_of_le_of_lt h1 (Nat.mul_lt_mul_of_pos_right hn (Nat.pow_pos (by decide)))
theorem ww_get (m : List Row) (i : Nat) : (ww m).getD i [] = vv (m.getD i []) := by
  unfold ww
  by_cases h : i < m.length
  · simp [List.getD_eq_getElem?_getD, h]
  · simp [List.getD_eq_getElem?_getD, h, vv]
theorem ww_len (m : List Row) : (ww m).length = m.length := by unfold ww; simp
/-- n rows of n numbers of at most k limbs. -/
structure Sq (n k : Nat) (m : List Row) : Prop where
  rows : m.length = n
  cols : ∀ r, r ∈ m → r.length = n
  fits : Fits k m
theorem Sq.at {n k : Nat} {m : List Row} (h : Sq n k m) {i j : Nat} (hi : i < n) (hj : j < n) : ((ww m).getD i []).getD j 0 = jv ((m.getD i []).getD j z0) := by
  have hr : (m.getD i []).length = n := h.cols _ (getD_mem [] (by rw [h.rows]; exact hi))
  rw [ww_get, vv_get _ _ (by omega)]
theorem sg_sz {x : Int} {e : Nat} (j : Nat) (h : sz x e) : sz (sg j * x) e := by
  unfold sg
  split
  · rw [Int.neg_one_mul]; exact h.neg
  · rwa [Int.one_mul]
theorem Seals.box0 {os : List Own} {fs : List Fact} {p : Value} {size : Nat} {e : Nat → Dat} {d : Dat} (h : e 0 = d) : Seals (own1 p size 1 e :: os) fs (own1 p size 1 (fun _ => d) :: os) fs :=
  Seals.own_cong (os := own1 p size 1 e :: os) 0 (fun _ => d) rfl rfl fun i hi => by
    have : i = 0 := by omega
    subst this; exact h
end Go.Proofs.Ytabdfhdddmbmlaa

namespace Go.Proofs.Ytabdfhdddmbmlaa
open Go.RowKit
/-- A row less a multiple of another one, so that where the other one begins there is a nought. -/
def red1 (p r : List Int) : List Int := (List.range r.length).map fun k => p.getD (lead0 p) 0 * r.getD k 0 - r.getD (lead0 p) 0 * p.getD k 0
theorem red1_len (p r : List Int) : (red1 p r).length = r.length := by unfold red1; simp
theorem red1_get (p r : List Int) {k : Nat} (h : k < r.length) : (red1 p r).getD k 0 = p.getD (lead0 p) 0 * r.getD k 0 - r.getD (lead0 p) 0 * p.getD k 0 := by
  unfold red1; simp [List.getD_eq_getElem?_getD, h]
theorem sz_sub {x y : Int} {e : Nat} (h : sz x e) (h' : sz y e) : sz (x - y) (e + 1) := by
  unfold sz at *
  rw [Nat.pow_succ]
  have := Int.natAbs_sub_le x y
  omega
theorem Fit_cn {l : List Int} {e : Nat} (h : ∀ x, x ∈ l → sz x e) : Fit e (l.map cn) := fun p hp => by
  obtain ⟨x, hx, rfl⟩ := List.mem_map.1 hp
  exact ⟨Lim_lims _, (h x hx).len⟩
def dep (ps : List (List Int)) (r : List Int) : List Int := ps.foldl (fun r p => red1 p r) r
theorem Seals.box1 {os : List Own} {fs : List Fact} {o : Own} {p : Value} {size : Nat} {e : Nat → Dat} {d : Dat} (h : e 0 = d) : Seals (o :: own1 p size 1 e :: os) fs (o :: own1 p size 1 (fun _ => d) :: os) fs :=
  Seals.own_cong (os := o :: own1 p size 1 e :: os) 1 (fun _ => d) rfl rfl fun i hi => by
    have : i = 0 := by omega
    subst this; exact h
end Go.Proofs.Ytabdfhdddmbmlaa

namespace Go.Proofs.Ytabdfhdddmbmlaa
open Go.RowKit
theorem Fit.mono {k k' : Nat} {r : Row} (h : Fit k r) (hk : k ≤ k') : Fit k' r := fun x hx => ⟨(h x hx).1, Nat.le_trans (h x hx).2 hk⟩
theorem Fits.mono {k k' : Nat} {m : List Row} (h : Fits k m) (hk : k ≤ k') : Fits k' m := fun r hr => (h r hr).mono hk
def rstep (acc : List (List Int)) (r : List Int) : List (List Int) := if lead0 (dep acc r) = (dep acc r).length then acc else acc ++ [dep acc r]
end Go.Proofs.Ytabdfhdddmbmlaa

namespace Go.Proofs.Ytabdfhdddmbmlaa
open Go.RowKit
theorem range_snoc_map {α : Type} (f : Nat → α) (n : Nat) : (List.range (n + 1)).map f = (List.range n).map f ++ [f n] := by rw [List.range_succ, List.map_append]; rfl
end Go.Proofs.Ytabdfhdddmbmlaa

namespace Go.Proofs.Ytabdfhdddmbmlaa
open Go.RowKit
/-- The product of two matrices. -/
def prod (a b : List (List Int)) : List (List Int) := (List.range a.length).map fun i => (List.range (b.getD 0 []).length).map fun j => isum (fun l => (a.getD i []).getD l 0 * (b.getD l []).getD j 0) b.length
def fitsProd {α β : Type} (a : List (List α)) (b : List (List β)) : Prop := right a ∧ right b ∧ b.length = (a.getD 0 []).length
instance {α β : Type} (a : List (List α)) (b : List (List β)) : Decidable (fitsProd a b) := inferInstanceAs (Decidable (_ ∧ _))
end Go.Proofs.Ytabdfhdddmbmlaa

namespace Go.Proofs.Ytabdfhdddmbmlaa
open Go.RowKit
end Go.Proofs.Ytabdfhdddmbmlaa

namespace Go.Proofs.Ytabdfhdddmbmlaa
open Go.RowKit
theorem AppendK.pre {P : Program} {ts : List TypeId} {ty : TypeId} {a b : Value} {os os' : List Own} {fs fs' : List Fact} {K : Cont} (hs : Seals os fs os' fs') (h : AppendK P ts ty a b os' fs' K) : AppendK P ts ty a b os fs K :=
  ⟨fun G w hw => h.out G w (hs G w hw)⟩
/-- Two polynomials that have no matrix. -/
def bare (p q : List Int) : Prop := deg p < 0 ∨ deg q < 0 ∨ deg p + deg q = 0
instance (p q : List Int) : Decidable (bare p q) := inferInstanceAs (Decidable (_ ∨ _))
end Go.Proofs.Ytabdfhdddmbmlaa

namespace Go.Proofs.Ytabdfhdddmbmlaa
open Go.RowKit
end Go.Proofs.Ytabdfhdddmbmlaa

namespace Go.Proofs.Ytabdfhdddmbmlaa
open Go.RowKit
end Go.Proofs.Ytabdfhdddmbmlaa

namespace Go.Proofs.Ytabdfhdddmbmlaa
open Go.RowKit
theorem OwnVal.congr {S : Nat → Prop} {B : Nat} {w : World} {v : Value} {size n : Nat} {e e' : Nat → Dat} (h : OwnVal S B w v size n e) (he : ∀ j, j < n → e' j = e j) (hz : 0 < size) : OwnVal S B w v size n e' := by
  have row : ∀ {r n' cap}, n' ≤ n → OwnRow S B w r size n' cap e → OwnRow S B w r size n' cap e' := fun hn ⟨h1, h2, h3, cur, t, h4, h5, h6⟩ =>
    ⟨h1, h2, h3, cur, t, h4, h5, fun i hi => by rw [he i (by omega)]; exact h6 i hi⟩
  rcases h with h | ⟨r, cap, hv, h⟩ | ⟨r, hv, hn, h⟩ | ⟨_, h, _⟩
  · exact .inl h
  · exact .inr (.inl ⟨r, cap, hv, row (Nat.le_refl _) h⟩)
  · exact .inr (.inr (.inl ⟨r, hv, hn, row (by omega) h⟩))
  · omega
theorem Seals.join {size n : Nat} {x : Value} {e : Nat → Dat} {F F' : Own} {os : List Own} {fs : List Fact} (hm : F'.m = F.m + 1) (hs : F'.size = F.size) (hs2 : F.size = size)
    (hv : ∀ i, i < F.m → F'.v i = F.v i ∧ F'.n i = F.n i ∧ ∀ j, j < F.n i → F'.e i j = F.e i j) (hx : F'.v F.m = x ∧ F'.n F.m = n ∧ ∀ j, j < n → F'.e F.m j = e j) (hz : 0 < size := by exact Nat.zero_lt_succ _) :
    Seals (own1 x size n e :: F :: os) fs (F' :: os) fs := by
  intro G w hw
  have has : ∀ b, F'.has b ↔ (own1 x size n e).has b ∨ F.has b := by
    intro b
    constructor
    · rintro ⟨i, hi, hb⟩
      by_cases hif : i < F.m
      · exact .inr ⟨i, hif, by rw [← (hv i hif).1]; exact hb⟩
      · have : i = F.m := by omega
        subst this
        exact .inl ⟨0, Nat.zero_lt_one, by rw [hx.1] at hb; exact hb⟩
    · rintro (⟨i, hi, hb⟩ | ⟨i, hi, hb⟩)
      · exact ⟨F.m, by omega, by rw [hx.1]; exact hb⟩
      · exact ⟨i, by omega, by rw [(hv i hi).1]; exact hb⟩
  have own : ∀ b, owned (F' :: os) b ↔ owned (own1 x size n e :: F :: os) b := fun b => by simp only [owned, has b, or_assoc]
  have good : ∀ b, Good G.A (own1 x size n e :: F :: os) w b → Good G.A (F' :: os) w b := fun b ⟨g1, g2, g3⟩ => ⟨g1, g2, fun h => g3 ((own b).1 h)⟩
  have agree : Agree (Good G.A (own1 x size n e :: F :: os) w) w w := fun _ _ => rfl
  obtain ⟨a1, a2, a3, a4, a5⟩ := hw.apart
  refine ⟨hw.low, hw.size, hw.below, ⟨fun i j b hi hj h1 h2 => ?_, fun b hb ho => ?_, a5⟩, fun o ho i hi => ?_, hw.facts.mono agree good⟩
  · by_cases hif : i < F.m
    · rw [(hv i hif).1] at h1
      by_cases hjf : j < F.m
      · rw [(hv j hjf).1] at h2
        exact a3 i j b hif hjf h1 h2
      · have : j = F.m := by omega
        subst this
        rw [hx.1] at h2
        exact absurd (show owned (F :: os) b from .inl ⟨i, hif, h1⟩) (a2 b ⟨0, Nat.zero_lt_one, h2⟩)
    · have : i = F.m := by omega
      subst this
      rw [hx.1] at h1
      by_cases hjf : j < F.m
      · rw [(hv j hjf).1] at h2
        exact absurd (show owned (F :: os) b from .inl ⟨j, hjf, h2⟩) (a2 b ⟨0, Nat.zero_lt_one, h1⟩)
      · omega
  · rcases (has b).1 hb with h | h
    · exact a2 b h (.inr ho)
    · exact a4 b h ho
  · rcases List.mem_cons.1 ho with rfl | ho
    · by_cases hif : i < F.m
      · obtain ⟨q1, q2, q3⟩ := hv i hif
        have := (hw.own F (by simp) i hif).mono agree good (fun _ _ => rfl)
        rw [q1, q2, hs]
        exact this.congr q3 (by omega)
      · have : i = F.m := by omega
        subst this
        have := (hw.own (own1 x size n e) (by simp) 0 Nat.zero_lt_one).mono agree good (fun _ _ => rfl)
        rw [hx.1, hx.2.1, hs, hs2]
        exact OwnVal.congr this hx.2.2 (by omega)
    · exact (hw.own o (by simp [ho]) i hi).mono agree good (fun _ _ => rfl)
theorem good_sub {A : Nat → Prop} {os : List Own} {w : World} {b pos : Nat} : Good A os w b → Good A (dropOwn os pos) w b := fun ⟨h1, h2, h3⟩ => ⟨h1, h2, fun hb => h3 (by
  obtain ⟨x, hx, hxb⟩ := owned_mem.1 hb
  obtain ⟨i, _, hi⟩ := dropOwn_mem hx
  exact owned_mem.2 ⟨x, nthOwn_mem hi, hxb⟩)⟩
/-- The rows of a family become facts. -/
theorem Seals.fam {F : Own} {os : List Own} {fs : List Fact} (pos : Nat) (h : nthOwn os pos = some F) (hs : ∀ i, i < F.m → isSl (F.v i)) :
    Seals os fs (dropOwn os pos) (((List.range F.m).map fun i => (F.v i, .sl F.size (F.n i) (F.e i))) ++ fs) := by
  intro G w hw
  have hd := hw.drop pos
  refine ⟨hd.low, hd.size, hd.below, hd.apart, hd.own, fun x hx => ?_⟩
  rcases List.mem_append.1 hx with hx | hx
  · obtain ⟨i, hi, rfl⟩ := List.mem_map.1 hx
    rw [List.mem_range] at hi
    obtain ⟨a, m, c, hv⟩ := hs i hi
    simp only
    rcases hw.own _ (nthOwn_mem h) i hi with ⟨h1, h2⟩ | ⟨r, cap, h1, h2⟩ | ⟨r, h1, _⟩ | ⟨_, _, _, _, _, _, ⟨r, _, _, h1, _⟩ | ⟨r, _, _, _, _, _, _, h1, _⟩⟩
    rotate_right
    · rw [hv] at h1; simp at h1
    rotate_right
    · rw [hv] at h1; simp at h1
    · rw [h1, h2]
      exact Knw.nil (os := dropOwn os pos) (fs := fs) F.size (F.e i) G w hd
    · have hhas : F.has r := ⟨i, hi, by rw [h1]; rfl⟩
      rw [h1]
      obtain ⟨b1, b2, b3, cur, t, b4, b5, b6⟩ := h2
      refine ⟨[.slice (some ⟨r, 0, none⟩) (F.n i) cap], ⟨_, cap, rfl, b2, b3, fun hn => by simp at hn, fun b hb _ => by simp at hb; subst hb; rfl, fun j hj => ?_⟩, rfl⟩
      obtain ⟨cs, c1, c2, c3⟩ := b6 j hj
      refine ⟨⟨r, 0, none⟩, cs, rfl, c1.mono (fun _ _ => rfl) (fun b hb => good_sub hb), c2, fun q hq => ⟨good_drop hw h hhas, ?_⟩⟩
      rw [← c3 q (by omega)]; simp [World.cell?, b4]
    · rw [hv] at h1; simp at h1
  · exact hd.facts x hx
/-- A slice of one's own over values that are known becomes a fact. -/
theorem Seals.over {os : List Own} {fs : List Fact} (pos : Nat) {v : Value} {n : Nat} {vs : Nat → Value} {D : Nat → Dat} (h : nthOwn os pos = some (own1 v 1 n fun i => .one (vs i))) (hs : isSl v)
    (hk : ∀ i, i < n → (vs i, D i) ∈ fs ∧ (D i).flat = true) : Seals os fs (dropOwn os pos) ((v, .sl 1 n D) :: fs) := by
  intro G w hw
  have hd := hw.drop pos
  refine hd.put ?_
  obtain ⟨a, m, c, rfl⟩ := hs
  rcases hw.own _ (nthOwn_mem h) 0 Nat.zero_lt_one with ⟨h1, h2⟩ | ⟨r, cap, h1, h2⟩ | ⟨r, h1, _⟩ | ⟨_, _, _, _, _, _, ⟨r, _, _, h1, _⟩ | ⟨r, _, _, _, _, _, _, h1, _⟩⟩
  rotate_right
  · simp [own1] at h1
  rotate_right
  · simp [own1] at h1
  · simp only [own1] at h1 h2
    rw [h1, h2]
    exact Knw.nil (os := dropOwn os pos) (fs := fs) 1 D G w hd
  · have hhas : (own1 (.slice a m c) 1 n fun i => .one (vs i)).has r := ⟨0, Nat.zero_lt_one, by rw [h1]; rfl⟩
    simp only [own1] at h1 h2
    rw [h1]
    obtain ⟨b1, b2, b3, cur, t, b4, b5, b6⟩ := h2
    refine ⟨[.slice (some ⟨r, 0, none⟩) n cap], ⟨_, cap, rfl, b2, b3, fun hn => by simp at hn, fun b hb _ => by simp at hb; subst hb; rfl, fun i hi => ?_⟩, rfl⟩
    obtain ⟨cs, ⟨rfl, c1⟩, c2, c3⟩ := b6 i hi
    obtain ⟨hm, hf⟩ := hk i hi
    obtain ⟨cs', k1, k2⟩ := hd.facts _ hm
    obtain ⟨u, rfl, _, k3⟩ := RdC.single hf k1
    rw [k3] at k2
    simp only at k2
    refine ⟨⟨r, 0, none⟩, [vs i], rfl, by rw [k2]; exact k1, rfl, fun q hq => ⟨good_drop hw h hhas, ?_⟩⟩
    rw [← c3 q (by simpa using hq)]; simp [World.cell?, b4]
  · simp [own1] at h1
/-- A slice over a family of rows becomes a fact. -/
theorem Seals.rows {F : Own} {v : Value} {os : List Own} {fs : List Fact} (hv : isSl v) (hs : ∀ i, i < F.m → isSl (F.v i)) :
    Seals (F :: own1 v 1 F.m (fun i => .one (F.v i)) :: os) fs os ((v, .sl 1 F.m fun i => .sl F.size (F.n i) (F.e i)) :: fs) := by
  refine Seals.trans (Seals.fam (os := F :: own1 v 1 F.m (fun i => .one (F.v i)) :: os) 0 rfl hs) (Seals.trans (Seals.over (os := own1 v 1 F.m (fun i => .one (F.v i)) :: os) (D := fun i => .sl F.size (F.n i) (F.e i)) 0 rfl hv fun i hi => ⟨?_, rfl⟩) (Seals.sub fun x hx => ?_))
  · exact List.mem_append.2 (.inl (List.mem_map.2 ⟨i, List.mem_range.2 hi, rfl⟩))
  · rcases List.mem_cons.1 hx with rfl | hx
    · exact .head _
    · exact .tail _ (List.mem_append.2 (.inr hx))
end Go.Proofs.Ytabdfhdddmbmlaa

namespace Go.Proofs.Ytabdfhdddmbmlaa
open Go.RowKit
theorem load_own_one {P : Program} {t : TypeId} {os : List Own} {fs : List Fact} {K : Cont} [ht : TOne P t] (pos i : Nat) {o : Own} (h : nthOwn os pos = some o) (hi : i < o.m) (j : Nat) {k : Nat} (hk : k = j * o.size)
    (hj : j < o.n i) {u : Value} (hd : o.e i j = .one u) (k' : K u os fs) : LoadK P t (eptr (o.v i) k) os fs K := by
  refine ⟨fun G w hw => ?_⟩
  have hov := hw.own o (nthOwn_mem h) i hi
  obtain ⟨r, cap, hr⟩ := hov.row (by omega)
  obtain ⟨cs, g1, g2, g3⟩ := hr.row.cellsAt hj
  have g1' : RdC (Good G.A os w) w (.one u) cs := hd ▸ g1
  have hp : pack (.one u) cs = u := by simp [pack, g1'.1]
  rw [hr.ptr k]
  refine ⟨u, fs, fun w' hb => val_run ?_, k', hw⟩
  have := loadAt_run (P := P) (t := t) (w := w') (r := r) (o := k) (d := .one u) ht g1' fun x hx => by
    rw [hk]; exact g3 w' (hb.block r (hov.blk hr.blk).2) x hx
  rw [hp] at this
  exact this
theorem load_one_elem {P : Program} {t : TypeId} {v : Value} {size n : Nat} {e : Nat → Dat} {os : List Own} {fs : List Fact} {K : Cont} [ht : TOne P t] (pos : Nat) (h : nthOwn os pos = some (own1 v size n e)) (j : Nat)
    (hj : j < n) {u : Value} (hd : e j = .one u) (k' : K u os fs) : LoadK P t (eptr v (j * size)) os fs K :=
  load_own_one (o := own1 v size n e) pos 0 h Nat.zero_lt_one j rfl hj hd k'
theorem box_fact {P : Program} {t : TypeId} {v : Value} {d : Dat} {os : List Own} {fs : List Fact} {K : Cont} (hr : Reads os fs v d) (k : ∀ p, K p os ((p, .ptr d) :: fs)) : BoxK P t v os fs K :=
  ⟨Grw.sealed (box_rule hr (K := fun u os' fs' => ∃ os'' fs'', Seals os' fs' os'' fs'' ∧ K u os'' fs'') fun p hp => ⟨_, _, Seals.box (os := own1 p d.cells 1 (fun _ => d) :: os) 0 rfl hp rfl, k p⟩).out⟩
/-- What is owned, said otherwise: other places of a family. -/
theorem Seals.re {os : List Own} {fs : List Fact} (pos : Nat) {o o' : Own} (h : nthOwn os pos = some o) (s : Nat → Nat) (hs : o'.size = o.size)
    (hv : ∀ i, i < o'.m → s i < o.m ∧ o'.v i = o.v (s i) ∧ o'.n i = o.n (s i) ∧ ∀ j, j < o.n (s i) → o'.e i j = o.e (s i) j) (hinj : ∀ i j, i < o'.m → j < o'.m → s i = s j → i = j) (hz : 0 < o.size := by exact Nat.zero_lt_succ _) :
    Seals os fs (setOwn os pos o') fs := by
  intro G w hw
  have key : ∀ {os : List Own}, Apart os → o ∈ os → ∀ i j b, i < o.m → j < o.m → vblk (o.v i) = some b → vblk (o.v j) = some b → i = j := by
    intro os
    induction os with
    | nil => intro _ hm; simp at hm
    | cons z r ih =>
      intro hA hm
      rcases List.mem_cons.1 hm with rfl | hm
      · exact hA.1
      · exact ih hA.2.2 hm
  refine hw.step h rfl rfl rfl (Nat.le_refl _) (fun _ _ _ => rfl) (fun b ⟨i, hi, hb⟩ => .inl ⟨s i, (hv i hi).1, by rw [← (hv i hi).2.1]; exact hb⟩) (fun i j b hi hj h1 h2 => ?_) fun mono i hi => ?_
  · rw [(hv i hi).2.1] at h1
    rw [(hv j hj).2.1] at h2
    exact hinj i j hi hj (key hw.apart (nthOwn_mem h) _ _ b (hv i hi).1 (hv j hj).1 h1 h2)
  · obtain ⟨q1, q2, q3, q4⟩ := hv i hi
    rw [q2, q3, hs]
    have row : ∀ {r cap n}, n ≤ o.n (s i) → OwnRow (Good G.A os w) G.B w r o.size n cap (o.e (s i)) → OwnRow (Good G.A (setOwn os pos o') w) G.B w r o.size n cap (o'.e i) := fun hn ⟨b1, b2, b3, cur, t, b4, b5, b6⟩ =>
      ⟨b1, b2, b3, cur, t, b4, b5, fun x hx => let ⟨cs, c1, c2⟩ := b6 x hx; ⟨cs, by rw [q4 x (by omega)]; exact mono _ _ c1, c2⟩⟩
    rcases hw.own _ (nthOwn_mem h) (s i) q1 with h1 | ⟨r, cap, h1, h2⟩ | ⟨r, h1, h2, h3⟩ | ⟨_, h1, _⟩
    · exact .inl h1
    · exact .inr (.inl ⟨r, cap, h1, row (Nat.le_refl _) h2⟩)
    · exact .inr (.inr (.inl ⟨r, h1, h2, row (by omega) h3⟩))
    · omega
/-- An element of a row of a family is written. -/
theorem store_fam {P : Program} {ty : TypeId} {x : Value} {d : Dat} {os : List Own} {fs : List Fact} {K : Cont} (pos i : Nat) {o : Own} (o' : Own) (h : nthOwn os pos = some o) (hi : i < o.m) (j : Nat)
    (hj : j < o.n i) (hd : d.cells = o.size) (ht : (P.info? ty).map (·.size) = some o.size) (hx : Reads os fs x d) (hm : o'.m = o.m) (hs : o'.size = o.size) (hv : ∀ a, a < o.m → o'.v a = o.v a ∧ o'.n a = o.n a ∧ ∀ b, b < o.n a → o'.e a b = if a = i ∧ b = j then d else o.e a b)
    (k' : K undef (setOwn os pos o') fs) : StoreK P ty (eptr (o.v i) (j * o.size)) x os fs K := by
  have h1 := store_own (P := P) (ty := ty) (x := x) (d := d) (K := fun u os' fs' => ∃ os'' fs'', Seals os' fs' os'' fs'' ∧ K u os'' fs'') pos i h hi j rfl hj hd ht hx
  refine ⟨Dyn.sealed (h1 ⟨_, _, ?_, k'⟩).out⟩
  have h2 := Seals.re (hz := hd ▸ Dat.cells_pos _) (os := setOwn os pos { o with e := fun y => if y = i then upd (o.e i) j d else o.e y }) (fs := fs) (o' := o') pos (nth_set h) (fun a => a) hs (fun a ha => ?_) fun _ _ _ _ e => e
  · rw [set_set] at h2; exact h2
  · rw [hm] at ha
    obtain ⟨g1, g2, g3⟩ := hv a ha
    refine ⟨ha, g1, g2, fun b hb => ?_⟩
    rw [g3 b hb]
    simp only
    by_cases hai : a = i
    · subst hai
      simp only [if_true, upd]
      by_cases hbj : b = j
      · simp [hbj]
      · simp [hbj]
    · simp [hai]
theorem CallK.pre {P : Program} {d : Bool} {fv : Value} {args : List Value} {os os' : List Own} {fs fs' : List Fact} {K : Cont} (hs : Seals os fs os' fs') (h : CallK P d fv args os' fs' K) : CallK P d fv args os fs K :=
  ⟨fun G w hw => h.out G w (hs G w hw), fun hd G w hw => h.grw hd G w (hs G w hw)⟩
-- zed, over numbers as they are told.
theorem zMulZ (v w : Value) (x y : Int) (a b : Nat) (hx : sz x a) (hy : sz y b) (ha : a ≤ 137438953472) (hb : b ≤ 137438953472) :
    Meets Try.prog 51 [v, w] [(v, zd x), (w, zd y)] (fun r os fs => os = [] ∧ fs = [(r, zd (x * y))]) := by
  have h := zmul_meets v w (decide (x < 0)) (decide (y < 0)) (lims x.natAbs) (lims y.natAbs) (Lim_lims _) (Lim_lims _) (Nat.le_trans hx.len ha) (Nat.le_trans hy.len hb)
  rw [iv_zd, iv_zd] at h
  exact h
theorem zMulJ (v w : Value) (x y : Bool × List Nat) (hx : Lim x.2) (lx : x.2.length ≤ 137438953472) (hy : Lim y.2) (ly : y.2.length ≤ 137438953472) :
    Meets Try.prog 51 [v, w] [(v, J x), (w, J y)] (fun r os fs => os = [] ∧ fs = [(r, zd (jv x * jv y))]) := zmul_meets v w x.1 y.1 x.2 y.2 hx hy lx ly
theorem zAddZ (v w : Value) (x y : Int) (a b : Nat) (hx : sz x a) (hy : sz y b) (ha : a ≤ 137438953472) (hb : b ≤ 137438953472) :
    Meets Try.prog 50 [v, w] [(v, zd x), (w, zd y)] (fun r os fs => os = [] ∧ fs = [(r, zd (x + y))]) := by
  have h := zadd_meets v w (decide (x < 0)) (decide (y < 0)) (lims x.natAbs) (lims y.natAbs) (Lim_lims _) (Lim_lims _) (Nat.le_trans hx.len ha) (Nat.le_trans hy.len hb)
  rw [iv_zd, iv_zd] at h
  exact h
theorem zSubZ (v w : Value) (x y : Int) (a b : Nat) (hx : sz x a) (hy : sz y b) (ha : a ≤ 137438953472) (hb : b ≤ 137438953472) :
    Meets Try.prog 61 [v, w] [(v, zd x), (w, zd y)] (fun r os fs => os = [] ∧ fs = [(r, zd (x - y))]) := by
  have h := zsub_meets v w (decide (x < 0)) (decide (y < 0)) (lims x.natAbs) (lims y.natAbs) (Lim_lims _) (Lim_lims _) (Nat.le_trans hx.len ha) (Nat.le_trans hy.len hb)
  rw [iv_zd, iv_zd] at h
  exact h
theorem zNormZ (v : Value) (x : Int) (e : Nat) (hx : sz x e) (he : e ≤ 137438953472) :
    Meets Try.prog 37 [v] [(v, zd x)] (fun r os fs => os = [] ∧ fs = [(r, zd x)]) := by
  have h := znorm_meets v (decide (x < 0)) (lims x.natAbs) (Lim_lims _) (Nat.le_trans hx.len (by omega))
  rw [iv_zd] at h
  exact h
theorem zNegZ (v : Value) (x : Int) (e : Nat) (hx : sz x e) (he : e ≤ 137438953472) :
    Meets Try.prog 47 [v] [(v, zd x)] (fun r os fs => os = [] ∧ fs = [(r, zd (-x))]) := by
  have h := zneg_meets v (decide (x < 0)) (lims x.natAbs) (Lim_lims _) (Nat.le_trans hx.len he)
  rw [iv_zd] at h
  exact h
theorem zSignZ (v : Value) (x : Int) (e : Nat) (hx : sz x e) (he : e ≤ 137438953472) :
    Meets Try.prog 49 [v] [(v, zd x)] (fun r os fs => os = [] ∧ fs = [] ∧ r = .int .i64 x.sign) := by
  have h := zsign_meets v (decide (x < 0)) (lims x.natAbs) (Lim_lims _) (Nat.le_trans hx.len he)
  rw [iv_zd] at h
  exact h
theorem zDivModZ (v w : Value) (x y : Int) (a b : Nat) (hx : sz x a) (hy : sz y b) (ha : a ≤ 137438953472) (hb : b ≤ 137438953472) (h0 : y ≠ 0) :
    Meets Try.prog 48 [v, w] [(v, zd x), (w, zd y)] (fun r os fs => os = [] ∧ ∃ q m, r = .tuple #[q, m, .bool true] ∧ fs = [(q, zd (x / y)), (m, zd (x % y))]) := by
  have h := zdivmod_meets v w (decide (x < 0)) (decide (y < 0)) (lims x.natAbs) (lims y.natAbs) (Lim_lims _) (Lim_lims _) (Nat.le_trans hx.len ha) (Nat.le_trans hy.len hb) (by rw [nv_lims]; omega)
  rw [iv_zd, iv_zd] at h
  exact h
theorem sz_div {x y : Int} {e : Nat} (h : sz x e) : sz (x / y) e := Nat.lt_of_le_of_lt (Int.natAbs_ediv_le_natAbs x y) h
end Go.Proofs.Ytabdfhdddmbmlaa

namespace Go.Proofs.Ytabdfhdddmbmlaa
open Go.RowKit
/-- Rows of whole numbers of one's own. -/
def famO (vs : Nat → Value) (R C : Nat) (x : Mx) : Own := ⟨R, vs, 2, fun _ => C, fun i k => zd (x i k)⟩
def matL (R C : Nat) (x : Mx) : List (List Int) := (List.range R).map fun i => (List.range C).map fun k => x i k
/-- What stands over them. -/
def outer (v : Value) (R : Nat) (vs : Nat → Value) : Own := own1 v 1 R fun i => .one (vs i)
theorem tz_nil : TZero Try.prog 36 (.one (.slice none 0 0)) := tzero info_sl fun _ _ => ⟨rfl, rfl⟩
theorem isSl.one {v : Value} (h : isSl v) : v.oneCell' = true := by obtain ⟨a, n, c, rfl⟩ := h; rfl
theorem Seals.none {os : List Own} {fs : List Fact} (F : Own) (h : F.m = 0) : Seals os fs (F :: os) fs := by
  intro G w hw
  have has : ∀ b, ¬ F.has b := fun b ⟨i, hi, _⟩ => by omega
  have own : ∀ b, owned (F :: os) b ↔ owned os b := fun b => by simp [owned, has b]
  have good : ∀ b, Good G.A os w b → Good G.A (F :: os) w b := fun b ⟨g1, g2, g3⟩ => ⟨g1, g2, fun h => g3 ((own b).1 h)⟩
  have agree : Agree (Good G.A os w) w w := fun _ _ => rfl
  refine ⟨hw.low, hw.size, hw.below, ⟨fun i j b hi _ _ _ => by omega, fun b hb => absurd hb (has b), hw.apart⟩, fun o ho i hi => ?_, hw.facts.mono agree good⟩
  rcases List.mem_cons.1 ho with rfl | ho
  · omega
  · exact (hw.own o ho i hi).mono agree good (fun _ _ => rfl)
theorem matL_len (R C : Nat) (x : Mx) : (matL R C x).length = R := by unfold matL; simp
theorem matL_row {R C i : Nat} (x : Mx) (h : i < R) : (matL R C x).getD i [] = (List.range C).map fun k => x i k := by
  unfold matL; simp [List.getD_eq_getElem?_getD, h]
theorem matL_at {R C i k : Nat} (x : Mx) (h : i < R) (h' : k < C) : ((matL R C x).getD i []).getD k 0 = x i k := by
  rw [matL_row x h]; simp [List.getD_eq_getElem?_getD, h']
theorem range_cn {C k : Nat} (g : Nat → Int) (h : k < C) : (((List.range C).map fun k => g k).map cn).getD k z0 = cn (g k) := by
  simp [List.getD_eq_getElem?_getD, h]
/-- Rows of one's own become a fact. -/
theorem Seals.made {v : Value} {vs : Nat → Value} {R C : Nat} {x : Mx} {os : List Own} {fs : List Fact} (hv : isSl v) (hs : ∀ i, i < R → isSl (vs i)) :
    Seals (famO vs R C x :: outer v R vs :: os) fs os ((v, wd (matL R C x)) :: fs) := by
  let F' : Own := ⟨R, vs, 2, fun _ => C, fun i k => J ((((List.range C).map fun k => x i k).map cn).getD k z0)⟩
  have h1 : Seals (famO vs R C x :: outer v R vs :: os) fs (F' :: outer v R vs :: os) fs :=
    Seals.re (os := famO vs R C x :: outer v R vs :: os) 0 rfl (fun i => i) rfl (fun i hi => ⟨hi, rfl, rfl, fun k hk => by
      show J _ = zd _
      have hk' : k < C := hk
      rw [range_cn (fun k => x i k) hk']; rfl⟩) (fun _ _ _ _ e => e)
  refine Seals.trans h1 (Seals.trans (Seals.rows (F := F') hv hs) (Seals.cons (Knw.cast (Knw.sl_cong (e' := fun i => V (((matL R C x).map (·.map cn)).getD i [])) (Knw.fact (List.Mem.head _)) fun i hi => ?_) ?_) (Seals.sub fun F hF => .tail _ hF)))
  · have e : ((matL R C x).map (·.map cn)).getD i [] = ((List.range C).map fun k => x i k).map cn := by
      have hi' : i < R := hi
      unfold matL; simp [List.getD_eq_getElem?_getD, hi']
    rw [e]
    unfold V LD
    rw [List.length_map, List.length_map, List.length_range]
  · unfold wd W LD
    rw [List.length_map, matL_len]
def clo (g : FuncId) (cap : List Value) : Value := .func (.func g) #[] cap.toArray
theorem clo_call {d : Bool} {g : FuncId} {cap args : List Value} {os os₁ : List Own} {fs fs₁ cfs : List Fact} {K : Cont} {R : Value → List Own → List Fact → Prop}
    (hm : Meets Try.prog g (args ++ cap) cfs R) (hs : Seals os fs os₁ fs₁) (hsub : Sub cfs fs₁) (k : ∀ v os' fs', R v os' fs' → K v (os' ++ os₁) (fs' ++ fs₁)) : CallK Try.prog d (clo g cap) args os fs K :=
  call_rule (first := []) hs hm hsub k
theorem mmade_meets (R C : Nat) (g : FuncId) (cap : List Value) (cfs : List Fact) (f : Nat → Nat → Bool × List Nat)
    (hf : ∀ i k, i < R → k < C → Meets Try.prog g ([.int .i64 (i : Nat), .int .i64 (k : Nat)] ++ cap) cfs (fun r os fs => os = [] ∧ fs = [(r, J (f i k))]))
    (hl : ∀ i k, i < R → k < C → Lim (f i k).2 ∧ (f i k).2.length ≤ 1099511627776) (hR : R ≤ 1073741824) (hC : C ≤ 1073741824) :
    Meets Try.prog 55 [.int .i64 (R : Nat), .int .i64 (C : Nat), clo g cap] cfs (fun r os fs => isSl r ∧ ∃ vs, (∀ i, i < R → isSl (vs i)) ∧ os = [famO vs R C fun i k => jv (f i k), outer r R vs] ∧ fs = []) := by
  refine meets_of_vc Try.func55 (by kernel_rfl) rfl (by kernel_rfl) (Nat.le_of_ble_eq_true rfl) ?_
  refine make_rule (t := 22) (d := .one (.slice none 0 0)) (hz := tz_nil) R rfl rfl (by omega) (by omega) fun v hv => ?_
  refine len_own 0 rfl hv fun _ => ?_
  refine loop_rule (X := Nat × (Nat → Value)) (fun x => ([(1, .int .i64 (C : Nat)), (2, clo g cap), (7, v), (13, .int .i64 (R : Nat)), (14, .int .i64 (x.1 : Nat))], [famO x.2 x.1 C fun i k => jv (f i k), outer v R x.2], cfs))
    (fun x => x.1 ≤ R ∧ ∀ i, i < x.1 → isSl (x.2 i)) (fun x => R - x.1) rfl ?_ ?_
  · exact again (0, fun _ => .slice none 0 0) ⟨Nat.zero_le _, fun i hi => absurd hi (Nat.not_lt_zero _)⟩ trivial mF (Seals.none _ rfl)
  · rintro ⟨i, vs⟩ ⟨h1, h2⟩
    simp only at h1 h2 ⊢
    refine cmp_split _ rfl (fun hi => ?_) (fun hi => ?_)
    · have hilt : i < R := by omega
      refine make_rule (t := 36) (d := I false []) C rfl rfl (by omega) (by omega) fun u hu => ?_
      refine index_elem 2 rfl hv i rfl hilt ?_
      refine StoreK.post (store_elem (d := .one u) 2 rfl i hilt rfl (by kernel_rfl) (Reads.one hu.one) ⟨_, _, Seals.own_cong (os := [_, _, _]) 2 (fun y => .one (if y = i then u else vs y)) rfl rfl (fun y _ => by simp only [upd]; split <;> rfl), ?_⟩)
      refine index_elem 2 rfl hv i rfl hilt ?_
      refine load_one_elem 2 rfl i hilt (u := u) (by simp) ?_
      refine len_own 0 rfl hu fun _ => ?_
      refine loop_rule (X := Nat) (fun k => ([(1, .int .i64 (C : Nat)), (2, clo g cap), (7, v), (8, .int .i64 (i : Nat)), (13, .int .i64 (R : Nat)), (14, .int .i64 (i : Nat)), (26, .int .i64 (C : Nat)), (27, .int .i64 (k : Nat))],
        [own1 u 2 C (fun y => if y < k then zd (jv (f i y)) else I false []), famO vs i C fun i k => jv (f i k), outer v R fun y => if y = i then u else vs y], cfs))
        (fun k => k ≤ C) (fun k => C - k) rfl ?_ ?_
      · exact again 0 (Nat.zero_le _) trivial mF (Seals.own_cong (os := [_, _, _]) 0 _ rfl rfl fun y _ => (if_neg (Nat.not_lt_zero _)).symm)
      · rintro k hk
        refine cmp_split _ rfl (fun hc => ?_) (fun hc => ?_)
        · have hkC : k < C := by omega
          refine draw_rule [0, 1, 2, 3, 4, 5, 6, 7, 8, 9, 10, 11] [0, 1, 2, 3, 4, 5, 6, 7, 8, 9, 10, 11] (by kernel_rfl) (by kernel_rfl) ?_
          refine index_elem 2 rfl hv i rfl hilt ?_
          refine load_one_elem 2 rfl i hilt (u := u) (by simp) ?_
          refine clo_call (hf i k hilt hkC) (Seals.refl _ _) (fun F hF => hF) ?_
          rintro r1 _ _ ⟨rfl, rfl⟩
          refine call_fn (znorm_meets r1 (f i k).1 (f i k).2 (hl i k hilt hkC).1 (hl i k hilt hkC).2) (Seals.refl _ _) mS ?_
          rintro r2 _ _ ⟨rfl, rfl⟩
          refine index_elem 0 rfl hu k rfl hkC ?_
          refine StoreK.post (store_elem (d := zd (iv (f i k).1 (f i k).2)) 0 rfl k hkC rfl (by kernel_rfl) (Reads.fact mM) ⟨_, _, Seals.own_cong (os := [_, _, _]) 0 (fun y => if y < k + 1 then zd (jv (f i y)) else I false []) rfl rfl (fun y _ => ?_), ?_⟩)
          · simp only [upd]
            by_cases hy : y = k
            · subst hy
              rw [if_pos rfl, if_pos (by omega)]; rfl
            · by_cases hy2 : y < k
              · rw [if_neg hy, if_pos hy2, if_pos (by omega)]
              · rw [if_neg hy, if_neg hy2, if_neg (by omega)]
          refine ar rfl mI ?_
          exact again (k + 1) (by omega) (by simp only; omega) mF (Seals.sub fun F hF => .tail _ (.tail _ hF))
        · have hkC : k = C := by omega
          subst hkC
          refine ar rfl mI ?_
          refine again (i + 1, fun y => if y = i then u else vs y) ⟨by simp only; omega, fun y hy => ?_⟩ (by simp only; omega) mF ?_
          · simp only at hy ⊢
            by_cases e : y = i
            · rw [if_pos e]; exact hu
            · rw [if_neg e]; exact h2 y (by omega)
          · refine Seals.join rfl rfl rfl (fun y hy => ⟨?_, rfl, fun _ _ => rfl⟩) ⟨?_, rfl, fun y hy => ?_⟩
            · have hy' : y < i := hy
              show (if y = i then u else vs y) = vs y
              rw [if_neg (by omega)]
            · show (if i = i then u else vs i) = u
              rw [if_pos rfl]
            · show zd (jv (f i y)) = if y < k then _ else _
              rw [if_pos hy]
    · have hiR : i = R := by omega
      subst hiR
      exact fin ⟨hv, vs, h2, rfl, rfl⟩ (Seals.nil _ _)
end Go.Proofs.Ytabdfhdddmbmlaa

namespace Go.Proofs.Ytabdfhdddmbmlaa
structure Bs where
  x : Mx
  last : Int
  odd : Bool
  step : Nat
/-- The first place from p on, of n, at which column c is not 0; R if there is none. -/
def pfind (x : Mx) (R c : Nat) : Nat → Nat → Nat
  | 0, _ => R
  | n + 1, p => if x p c = 0 then pfind x R c n (p + 1) else p
def swp (x : Mx) (s p : Nat) : Mx := fun i k => x (if i = s then p else if i = p then s else i) k
def elim (x : Mx) (s c : Nat) (last : Int) : Mx := fun i k => if i ≤ s then x i k else if k < c then x i k else if k = c then 0 else (x s c * x i k - x i c * x s k) / last
def bstep (R : Nat) (st : Bs) (c : Nat) : Bs :=
  if pfind st.x R c (R - st.step) st.step = R then st
  else ⟨elim (swp st.x st.step (pfind st.x R c (R - st.step) st.step)) st.step c st.last, swp st.x st.step (pfind st.x R c (R - st.step) st.step) st.step c,
    if pfind st.x R c (R - st.step) st.step = st.step then st.odd else !st.odd, st.step + 1⟩
/-- n columns from c on. -/
def brun (R : Nat) : Nat → Nat → Bs → Bs
  | 0, _, st => st
  | n + 1, c, st => if st.step < R then brun R n (c + 1) (bstep R st c) else st
def bar (R C : Nat) (x : Mx) : Bs := brun R C 0 ⟨x, 1, false, 0⟩
theorem pfind_spec (x : Mx) (R c : Nat) : ∀ (n p : Nat), p + n = R → (pfind x R c n p = R ∧ ∀ i, p ≤ i → i < R → x i c = 0) ∨ (p ≤ pfind x R c n p ∧ pfind x R c n p < R ∧ x (pfind x R c n p) c ≠ 0)
  | 0, p, h => .inl ⟨rfl, fun i h1 h2 => by omega⟩
  | n + 1, p, h => by
    unfold pfind
    split
    · rename_i h0
      rcases pfind_spec x R c n (p + 1) (by omega) with ⟨h1, h2⟩ | ⟨h1, h2, h3⟩
      · refine .inl ⟨h1, fun i hi hR => ?_⟩
        by_cases e : i = p
        · rw [e, h0]
        · exact h2 i (by omega) hR
      · exact .inr ⟨by omega, h2, h3⟩
    · rename_i h0
      exact .inr ⟨Nat.le_refl _, by omega, h0⟩
def sub' (A : Mx) (rl cl : List Nat) : Mx := fun i j => A (rl.getD i 0) (cl.getD j 0)
/-- What a row of more is developed into. -/
def wt (A : Mx) (s x : Nat) (rl cl : List Nat) : Nat → Int := fun r => sg (r + 1) * det s (cut (sub' A (x :: rl) (0 :: cl)) (r + 1) 0)
theorem bord (A : Mx) (s x k : Nat) (rl cl : List Nat) :
    det (s + 1) (sub' A (x :: rl) (k :: cl)) = A x k * det s (sub' A rl cl) + isum (fun r => wt A s x rl cl r * A (rl.getD r 0) k) s := by
  rw [det, isum_front]
  congr 1
  · simp [sg, sub']; rfl
  · refine isum_congr fun r _ => ?_
    have : cut (sub' A (x :: rl) (k :: cl)) (r + 1) 0 = cut (sub' A (x :: rl) (0 :: cl)) (r + 1) 0 := by
      funext a b; simp [cut, sub', sk_zero]
    rw [this]
    simp only [wt, sub', List.getD_cons_succ, List.getD_cons_zero]
    grind
theorem bord_zero (A : Mx) {s x k j : Nat} (rl cl : List Nat) (hj : j < s) (h : cl.getD j 0 = k) : det (s + 1) (sub' A (x :: rl) (k :: cl)) = 0 := by
  rw [← det_tr]
  refine (det_form (s + 1)).eqRows (r := 0) (s := j + 1) (by omega) (by omega) (by omega) fun i _ => ?_
  simp only [tp, sub', List.getD_cons_succ, List.getD_cons_zero, h]
theorem det_row0 {n : Nat} (A : Mx) (h : ∀ j, 0 < j → j < n + 1 → A 0 j = 0) : det (n + 1) A = A 0 0 * det n (cut A 0 0) := by
  rw [det_row A (i := 0) (by omega), isum_front, isum_zero fun j hj => by rw [h (j + 1) (by omega) (by omega)]; simp]
  simp [sg]
theorem det_row01 {n : Nat} (A : Mx) (h : ∀ j, 1 < j → j < n + 2 → A 0 j = 0) : det (n + 2) A = A 0 0 * det (n + 1) (cut A 0 0) - A 0 1 * det (n + 1) (cut A 0 1) := by
  rw [det_row A (i := 0) (by omega), isum_front, isum_front, isum_zero fun j hj => by rw [h (j + 1 + 1) (by omega) (by omega)]; simp]
  simp [sg]; omega
/-- Sylvester: two rows and two columns more. -/
theorem sylv (A : Mx) (s x y c k : Nat) (rl cl : List Nat) (hd : det s (sub' A rl cl) ≠ 0) :
    det s (sub' A rl cl) * det (s + 2) (sub' A (y :: x :: rl) (k :: c :: cl)) =
      det (s + 1) (sub' A (x :: rl) (c :: cl)) * det (s + 1) (sub' A (y :: rl) (k :: cl)) - det (s + 1) (sub' A (y :: rl) (c :: cl)) * det (s + 1) (sub' A (x :: rl) (k :: cl)) := by
  let d := det s (sub' A rl cl)
  let cs := k :: c :: cl
  let n0 := sub' A (y :: x :: rl) cs
  let My : Nat → Int := fun j => det (s + 1) (sub' A (y :: rl) (cs.getD j 0 :: cl))
  let Mx' : Nat → Int := fun j => det (s + 1) (sub' A (x :: rl) (cs.getD j 0 :: cl))
  have hF := det_form (s + 2)
  -- row 1
  have e1 : det (s + 2) (rw' n0 1 Mx') = d * det (s + 2) n0 := by
    have h1 := hF.smul n0 (r := 1) (by omega) d (n0 1)
    rw [rw_self] at h1
    rw [← h1]
    have h2 := hF.addRows (A := n0) (r := 1) (by omega) (wt A s x rl cl) (fun r => r + 2) s (fun r hr => ⟨by omega, by omega⟩) (fun j => d * n0 1 j)
    rw [← h2]
    refine det_congr fun i j _ _ => ?_
    unfold rw'
    split
    · show Mx' j = _
      simp only [Mx']
      rw [bord]
      simp only [n0, sub', List.getD_cons_succ, List.getD_cons_zero, d, cs]
      rw [Int.mul_comm]
    · rfl
  have e2 : det (s + 2) (rw' (rw' n0 1 Mx') 0 My) = d * (d * det (s + 2) n0) := by
    rw [← e1]
    have h1 := hF.smul (rw' n0 1 Mx') (r := 0) (by omega) d (n0 0)
    have e0 : rw' (rw' n0 1 Mx') 0 (n0 0) = rw' n0 1 Mx' := by
      funext i j; unfold rw'; split
      · rename_i h; rw [h, if_neg (by omega)]
      · rfl
    rw [e0] at h1
    rw [← h1]
    have h2 := hF.addRows (A := rw' n0 1 Mx') (r := 0) (by omega) (wt A s y rl cl) (fun r => r + 2) s (fun r hr => ⟨by omega, by omega⟩) (fun j => d * n0 0 j)
    rw [← h2]
    refine det_congr fun i j _ _ => ?_
    unfold rw'
    split
    · show My j = _
      simp only [My]
      rw [bord]
      have : ∀ r, ¬ r + 2 = 1 := fun r => by omega
      simp only [n0, sub', List.getD_cons_succ, List.getD_cons_zero, d, cs, if_neg (this _)]
      rw [Int.mul_comm]
    · rfl
  have z : ∀ w j, 1 < j → j < s + 2 → det (s + 1) (sub' A (w :: rl) (cs.getD j 0 :: cl)) = 0 := fun w j h1 h2 => by
    obtain ⟨j, rfl⟩ : ∃ j', j = j' + 2 := ⟨j - 2, by omega⟩
    exact bord_zero A rl cl (j := j) (by omega) (by simp [cs])
  have e3 : det (s + 2) (rw' (rw' n0 1 Mx') 0 My) = My 0 * (Mx' 1 * d) - My 1 * (Mx' 0 * d) := by
    rw [det_row01 _ fun j h1 h2 => by show (if 0 = 0 then My j else _) = 0; rw [if_pos rfl]; exact z y j h1 h2]
    have f0 : rw' (rw' n0 1 Mx') 0 My 0 0 = My 0 := if_pos rfl
    have f1 : rw' (rw' n0 1 Mx') 0 My 0 1 = My 1 := if_pos rfl
    rw [f0, f1]
    congr 2
    · rw [det_row0 _ fun j h1 h2 => ?_]
      · congr 1
      · simp only [cut, sk_zero, rw']
        exact z x (j + 1) (by omega) (by omega)
    · rw [det_row0 _ fun j h1 h2 => ?_]
      · congr 1
      · have e : sk 1 j = j + 1 := if_neg (by omega)
        simp only [cut, sk_zero, rw', e]
        exact z x (j + 1) (by omega) (by omega)
  rw [e2] at e3
  have e4 : d * (d * det (s + 2) n0) = d * (Mx' 1 * My 0 - My 1 * Mx' 0) := by rw [e3]; grind
  exact Int.eq_of_mul_eq_mul_left hd e4
/-- What holds at column c. -/
structure BInv (A : Mx) (R C : Nat) (st : Bs) (c : Nat) (rl cl : List Nat) (p : Nat → Nat) : Prop where
  stepR : st.step ≤ R
  into : ∀ i, i < R → p i < R
  onto : ∀ i, i < R → ∃ j, j < R ∧ p j = i
  rows : ∀ j, j < st.step → rl.getD j 0 = p (st.step - 1 - j)
  cols : ∀ j, j < st.step → cl.getD j 0 < c
  down : ∀ j, j + 1 < st.step → cl.getD (j + 1) 0 < cl.getD j 0
  last : st.last = det st.step (sub' A rl cl)
  ne : st.last ≠ 0
  val : ∀ i k, st.step ≤ i → i < R → k < C → st.x i k = det (st.step + 1) (sub' A (p i :: rl) (k :: cl))
  zero : ∀ i k, st.step ≤ i → i < R → k < c → k < C → st.x i k = 0
  sign : det R (fun i j => A (p i) j) = (if st.odd then -1 else 1) * det R A
theorem BInv.start (A : Mx) (R C : Nat) : BInv A R C ⟨A, 1, false, 0⟩ 0 [] [] (fun i => i) :=
  ⟨Nat.zero_le _, fun _ h => h, fun i h => ⟨i, h, rfl⟩, fun j h => absurd h (Nat.not_lt_zero _), fun j h => absurd h (Nat.not_lt_zero _), fun j h => absurd h (Nat.not_lt_zero _), rfl, by simp,
    fun i k _ _ _ => by simp [det, isum, sg, sub'], fun i k _ _ h => absurd h (Nat.not_lt_zero _), by simp⟩
theorem BInv.step {A : Mx} {R C : Nat} {st : Bs} {c : Nat} {rl cl : List Nat} {p : Nat → Nat} (h : BInv A R C st c rl cl p) (hs : st.step < R) (hc : c < C) :
    ∃ rl' cl' p', BInv A R C (bstep R st c) (c + 1) rl' cl' p' := by
  obtain ⟨x, last, odd, s⟩ := st
  simp only at hs
  have hv := h.val
  have hz := h.zero
  have hlast := h.last
  simp only at hv hz hlast
  unfold bstep
  rcases pfind_spec x R c (R - s) s (by omega) with ⟨h1, h2⟩ | ⟨h1, h2, h3⟩
  · simp only [h1, if_true]
    refine ⟨rl, cl, p, h.stepR, h.into, h.onto, h.rows, fun j hj => Nat.lt_succ_of_lt (h.cols j hj), h.down, h.last, h.ne, h.val, fun i k hi hR hk hC => ?_, h.sign⟩
    by_cases e : k = c
    · subst e; exact h2 i hi hR
    · exact hz i k hi hR (by omega) hC
  · generalize pfind x R c (R - s) s = q at h1 h2 h3
    simp only [if_neg (Nat.ne_of_lt h2)]
    let t : Nat → Nat := fun i => if i = s then q else if i = q then s else i
    have tt : ∀ i, t (t i) = i := fun i => by simp only [t]; split <;> split <;> (try split) <;> omega
    have tR : ∀ i, i < R → t i < R := fun i hi => by simp only [t]; split <;> (try split) <;> omega
    have ts : ∀ i, s ≤ i → s ≤ t i := fun i hi => by simp only [t]; split <;> (try split) <;> omega
    have tl : ∀ i, i < s → t i = i := fun i hi => by simp only [t]; rw [if_neg (by omega), if_neg (by omega)]
    have hy : ∀ i k, swp x s q i k = x (t i) k := fun _ _ => rfl
    have hts : t s = q := if_pos rfl
    have hv' : ∀ i k, s ≤ i → i < R → k < C → swp x s q i k = det (s + 1) (sub' A (p (t i) :: rl) (k :: cl)) := fun i k h1 h2 h3 => by rw [hy]; exact hv _ _ (ts i h1) (tR i h2) h3
    have hz' : ∀ i k, s ≤ i → i < R → k < c → swp x s q i k = 0 := fun i k h1 h2 h3 => by rw [hy]; exact hz _ _ (ts i h1) (tR i h2) h3 (by omega)
    have hd : swp x s q s c = det (s + 1) (sub' A (p (t s) :: rl) (c :: cl)) := hv' s c (Nat.le_refl _) hs hc
    have hd0 : swp x s q s c ≠ 0 := by rw [hy, hts]; exact h3
    have hl0 : det s (sub' A rl cl) ≠ 0 := by have := h.ne; simp only at this; rwa [hlast] at this
    have hsyl : ∀ i k, s ≤ i → i < R → k < C → det s (sub' A rl cl) * det (s + 2) (sub' A (p (t i) :: p (t s) :: rl) (k :: c :: cl)) = swp x s q s c * swp x s q i k - swp x s q i c * swp x s q s k := fun i k h1 h2 h3 => by
      rw [hv' s c (Nat.le_refl _) hs hc, hv' i k h1 h2 h3, hv' i c h1 h2 hc, hv' s k (Nat.le_refl _) hs h3]
      exact sylv A s (p (t s)) (p (t i)) c k rl cl hl0
    refine ⟨p (t s) :: rl, c :: cl, fun i => p (t i), by simp only; omega, fun i hi => h.into _ (tR i hi), fun i hi => ?_, fun j hj => ?_, fun j hj => ?_, fun j hj => ?_, hd, hd0, fun i k hi hR hk => ?_, fun i k hi hR hk hC => ?_, ?_⟩
    · obtain ⟨j, hj, e⟩ := h.onto i hi
      exact ⟨t j, tR j hj, by rw [tt, e]⟩
    · simp only at hj ⊢
      cases j with
      | zero => rw [List.getD_cons_zero]; congr 2
      | succ j =>
        rw [List.getD_cons_succ]
        have := h.rows j (by simp only; omega)
        simp only at this
        rw [this, show s + 1 - 1 - (j + 1) = s - 1 - j by omega, tl _ (by omega)]
    · simp only at hj
      cases j with
      | zero => rw [List.getD_cons_zero]; omega
      | succ j => rw [List.getD_cons_succ]; have := h.cols j (by simp only; omega); omega
    · simp only at hj
      cases j with
      | zero => rw [List.getD_cons_zero, List.getD_cons_succ]; exact h.cols 0 (by simp only; omega)
      | succ j => rw [List.getD_cons_succ, List.getD_cons_succ]; exact h.down j (by simp only; omega)
    · simp only at hi ⊢
      have hsy := hsyl i k (by omega) hR hk
      unfold elim
      rw [if_neg (by omega)]
      by_cases hkc : k < c
      · rw [if_pos hkc]
        rw [hz' i k (by omega) hR hkc, hz' s k (Nat.le_refl _) hs hkc] at hsy
        rw [hz' i k (by omega) hR hkc]
        rcases Int.mul_eq_zero.1 (show det s (sub' A rl cl) * det (s + 2) (sub' A (p (t i) :: p (t s) :: rl) (k :: c :: cl)) = 0 by rw [hsy]; omega) with h4 | h4
        · exact absurd h4 hl0
        · exact h4.symm
      · rw [if_neg hkc]
        by_cases e : k = c
        · rw [if_pos e]
          exact (bord_zero A (p (t s) :: rl) (c :: cl) (j := 0) (by omega) (by rw [e]; rfl)).symm
        · rw [if_neg e, ← hsy, hlast, Int.mul_ediv_cancel_left _ hl0]
    · simp only at hi ⊢
      unfold elim
      rw [if_neg (by omega)]
      by_cases hkc : k < c
      · rw [if_pos hkc]; exact hz' i k (by omega) hR hkc
      · rw [if_neg hkc, if_pos (by omega)]
    · have hsg := h.sign
      simp only at hsg ⊢
      by_cases e : q = s
      · rw [if_pos e]
        rw [← hsg]
        refine det_congr fun i j _ _ => ?_
        have : t i = i := by simp only [t]; split <;> (try split) <;> omega
        rw [this]
      · rw [if_neg e]
        have hw := (det_form R).swap (A := fun i j => A (p i) j) (r := s) (s := q) hs h2 (fun e' => e e'.symm)
        rw [hsg] at hw
        have : det R (fun i j => A (p (t i)) j) = - ((if odd = true then -1 else 1) * det R A) := by
          rw [← hw]
          refine det_congr fun i j _ _ => ?_
          simp only [rw', t]
          by_cases h1 : i = q
          · simp [h1, e]
          · by_cases h2 : i = s
            · have : ¬ s = q := fun e' => e e'.symm
              simp [h2, this]
            · simp [h1, h2]
        rw [this]
        cases odd <;> simp
theorem BInv.run {A : Mx} {R C : Nat} : ∀ (n : Nat) {st : Bs} {c : Nat} {rl cl : List Nat} {p : Nat → Nat}, BInv A R C st c rl cl p → c + n = C →
    ∃ c' rl' cl' p', BInv A R C (brun R n c st) c' rl' cl' p' ∧ c' ≤ C ∧ ((brun R n c st).step = R ∨ c' = C)
  | 0, st, c, rl, cl, p, h, hc => ⟨c, rl, cl, p, h, by omega, .inr (by omega)⟩
  | n + 1, st, c, rl, cl, p, h, hc => by
    unfold brun
    split
    · rename_i hs
      obtain ⟨rl', cl', p', h'⟩ := h.step hs (by omega)
      exact BInv.run n h' (by omega)
    · rename_i hs
      exact ⟨c, rl, cl, p, h, by omega, .inl (by have := h.stepR; omega)⟩
theorem bar_inv (R C : Nat) (A : Mx) : ∃ c rl cl p, BInv A R C (bar R C A) c rl cl p ∧ c ≤ C ∧ ((bar R C A).step = R ∨ c = C) :=
  BInv.run C (BInv.start A R C) (by omega)
theorem bar_rank (R C : Nat) (A : Mx) : Rk (bar R C A).step R C A := by
  obtain ⟨c, rl, cl, p, h, hc, he⟩ := bar_inv R C A
  generalize bar R C A = st at h he
  refine ⟨⟨fun a i => one (rl.getD a 0) i, fun k b => one k (cl.getD b 0), fun e => h.ne ?_⟩, st.last, h.ne, ?_⟩
  · rw [h.last, ← e]
    refine det_congr fun a b ha hb => ?_
    have hr : rl.getD a 0 < R := by rw [h.rows a ha]; exact h.into _ (by have := h.stepR; omega)
    have hcl : cl.getD b 0 < C := Nat.lt_of_lt_of_le (h.cols b hb) hc
    unfold mm
    rw [isum_one (r := cl.getD b 0) hcl fun k _ hk => by show _ * (if k = cl.getD b 0 then (1 : Int) else 0) = 0; rw [if_neg hk, Int.mul_zero]]
    rw [isum_one (r := rl.getD a 0) hr fun k _ hk => by show (if rl.getD a 0 = k then (1 : Int) else 0) * _ = 0; rw [if_neg (Ne.symm hk), Int.zero_mul]]
    simp [one, sub']
  · have hrow : ∀ i, ∃ b : Nat → Int, i < R → ∀ k, k < C → st.last * A i k = isum (fun r => b r * A (rl.getD r 0) k) st.step := by
      intro i
      by_cases hi : i < R
      · obtain ⟨j, hj, rfl⟩ := h.onto i hi
        by_cases hjs : st.step ≤ j
        · refine ⟨fun r => - wt A st.step (p j) rl cl r, fun _ k hk => ?_⟩
          have h1 := h.val j k hjs hj hk
          have h2 : st.x j k = 0 := by
            rcases he with he | he
            · omega
            · exact h.zero j k hjs hj (by omega) hk
          rw [h2, bord, ← h.last] at h1
          rw [isum_congr (g' := fun r => - (wt A st.step (p j) rl cl r * A (rl.getD r 0) k)) fun r _ => by grind, isum_neg, Int.mul_comm]
          omega
        · refine ⟨fun r => if r = st.step - 1 - j then st.last else 0, fun _ k hk => ?_⟩
          rw [isum_one (r := st.step - 1 - j) (by omega) fun r _ hr => by show (if r = st.step - 1 - j then st.last else 0) * _ = 0; rw [if_neg hr, Int.zero_mul]]
          show _ = (if st.step - 1 - j = st.step - 1 - j then st.last else 0) * _
          rw [if_pos rfl, h.rows _ (by omega), show st.step - 1 - (st.step - 1 - j) = j by omega]
      · exact ⟨fun _ => 0, fun h => absurd h hi⟩
    exact ⟨fun i => Classical.choose (hrow i), fun r k => A (rl.getD r 0) k, fun i k hi hk => Classical.choose_spec (hrow i) hi k hk⟩
def rev (n : Nat) (A : Mx) : Mx := fun i j => A (n - 1 - i) (n - 1 - j)
theorem det_rev (n : Nat) (A : Mx) : det n (rev n A) = det n A := by
  have hF : Form n (fun A => det n (rev n A)) := by
    refine ⟨fun hc => det_congr fun i j hi hj => hc _ _ (by omega) (by omega), fun A r hr a b u v => ?_, fun {A r} hr he => ?_⟩
    · have e : ∀ w, det n (rev n (rw' A r w)) = det n (rw' (rev n A) (n - 1 - r) (fun j => w (n - 1 - j))) := fun w => det_congr fun i j hi hj => by
        simp only [rev, rw']
        by_cases h : i = n - 1 - r
        · rw [if_pos h, if_pos (by omega)]
        · rw [if_neg h, if_neg (by omega)]
      rw [e, e, e]
      exact det_row_lin (rev n A) (r := n - 1 - r) (by omega) a b (fun j => u (n - 1 - j)) (fun j => v (n - 1 - j))
    · refine det_row_alt (r := n - 1 - (r + 1)) (by omega) fun j hj => ?_
      simp only [rev]
      rw [show n - 1 - (n - 1 - (r + 1)) = r + 1 by omega, show n - 1 - (n - 1 - (r + 1) + 1) = r by omega]
      exact (he _ (by omega)).symm
  have := hF.eq A
  rw [this]
  have e : det n (rev n one) = 1 := by
    rw [← det_one n]
    refine det_congr fun i j hi hj => ?_
    simp only [rev, one]
    by_cases h : i = j
    · rw [if_pos h, if_pos (by omega)]
    · rw [if_neg h, if_neg (by omega)]
  rw [e, Int.mul_one]
theorem down_all {n : Nat} {f : Nat → Nat} (h0 : ∀ j, j < n → f j < n) (hd : ∀ j, j + 1 < n → f (j + 1) < f j) : ∀ j, j < n → f j = n - 1 - j := by
  have h1 : ∀ j, j < n → f j + j ≤ n - 1 := by
    intro j
    induction j with
    | zero => intro h; have := h0 0 h; omega
    | succ j ih => intro h; have := ih (by omega); have := hd j h; omega
  have h2 : ∀ m j, j + m + 1 = n → m ≤ f j := by
    intro m
    induction m with
    | zero => intro j _; omega
    | succ m ih => intro j h; have := ih (j + 1) (by omega); have := hd j (by omega); omega
  intro j hj
  have := h1 j hj
  have := h2 (n - 1 - j) j (by omega)
  omega
theorem bar_det (n : Nat) (A : Mx) : det n A = if (bar n n A).step < n then 0 else if (bar n n A).odd then - (bar n n A).last else (bar n n A).last := by
  have hrk := bar_rank n n A
  by_cases hlt : (bar n n A).step < n
  · rw [if_pos hlt]
    exact hrk.full.2 hlt
  · rw [if_neg hlt]
    obtain ⟨c, rl, cl, p, h, hc, he⟩ := bar_inv n n A
    generalize bar n n A = st at h he hlt
    have hs : st.step = n := by have := h.stepR; omega
    have hcl := down_all (n := n) (f := fun j => cl.getD j 0) (fun j hj => Nat.lt_of_lt_of_le (h.cols j (by omega)) hc) (fun j hj => h.down j (by omega))
    have e : st.last = det n (fun i j => A (p i) j) := by
      rw [h.last, hs, ← det_rev n (fun i j => A (p i) j)]
      refine det_congr fun i j hi hj => ?_
      simp only [sub', rev]
      rw [h.rows i (by omega), hcl j hj, hs]
    have hsg := h.sign
    rw [← e] at hsg
    rw [hsg]
    cases st.odd <;> simp
end Go.Proofs.Ytabdfhdddmbmlaa

namespace Go.Proofs.Ytabdfhdddmbmlaa
open Go.RowKit
theorem len_fam {t e' ty : TypeId} {size' : Nat} {vs : Nat → Value} {R C : Nat} {x : Mx} {os : List Own} {fs : List Fact} {K : Cont} [ht : TSl Try.prog t e' size'] (pos i : Nat)
    (h : nthOwn os pos = some (famO vs R C x)) (hi : i < R) (hs : isSl (vs i)) (k : C ≤ 9223372036854775807 → K (.int .i64 C) os fs) : LenK Try.prog [t] ty (vs i) os fs K := by
  obtain ⟨a, m, c, hv⟩ := hs
  refine ⟨fun G w hw => ?_⟩
  have key : ∃ (a' : Option Addr) (c' : Nat), vs i = .slice a' C c' ∧ C ≤ 9223372036854775807 := by
    rcases hw.own _ (nthOwn_mem h) i hi with ⟨h1, h2⟩ | ⟨r, cap, h1, b1, b2, b3, _⟩ | ⟨r, h1, _⟩ | ⟨_, _, _, _, _, _, ⟨r, _, _, h1, _⟩ | ⟨r, _, _, _, _, _, _, h1, _⟩⟩
    rotate_right
    · have h1' : vs i = _ := h1
      rw [hv] at h1'; simp at h1'
    rotate_right
    · have h1' : vs i = _ := h1
      rw [hv] at h1'; simp at h1'
    · have h2' : C = 0 := h2
      exact ⟨none, 0, by rw [h2']; exact h1, by omega⟩
    · have b2' : C ≤ cap := b2
      exact ⟨some ⟨r, 0, none⟩, cap, h1, by unfold maxLen at b3; omega⟩
    · have h1' : vs i = _ := h1
      rw [hv] at h1'; simp at h1'
  obtain ⟨a', c', e, hC⟩ := key
  rw [e]
  exact (len_val (P := Try.prog) (t := t) (ty := ty) (a := a') (n := C) (c := c') (os := os) (fs := fs) (K := K) (k hC)).out G w hw
theorem load_fam {vs : Nat → Value} {R C : Nat} {x : Mx} {os : List Own} {fs : List Fact} {K : Cont} (pos i j : Nat) (h : nthOwn os pos = some (famO vs R C x)) (hi : i < R) (hj : j < C) (a : Int) (ha : x i j = a)
    (k : ∀ u, K u os ((u, zd a) :: fs)) : LoadK Try.prog 33 (eptr (vs i) (j * 2)) os fs K := by
  subst ha
  exact load_own (o := famO vs R C x) pos i h hi j 0 rfl hj (Part.refl _) (load_I _ _) k
theorem index_fam {kk : IntKind} {z : Int} {vs : Nat → Value} {R C : Nat} {x : Mx} {os : List Own} {fs : List Fact} {K : Cont} (pos i : Nat) (h : nthOwn os pos = some (famO vs R C x)) (hi : i < R) (hs : isSl (vs i)) (j : Nat) (hz : z = (j : Int)) (hj : j < C)
    (k : K (eptr (vs i) (j * 2)) os fs) : IndexAddrK Try.prog 36 (vs i) (.int kk z) os fs K :=
  index_own (o := famO vs R C x) pos i h hi (fun r => by obtain ⟨a, n, c, e⟩ := hs; show vs i ≠ _; rw [e]; simp) j hz hj k
theorem store_mx {u : Value} {vs : Nat → Value} {R C : Nat} {x : Mx} {os : List Own} {fs : List Fact} {K : Cont} (pos i j : Nat) (h : nthOwn os pos = some (famO vs R C x)) (hi : i < R) (hj : j < C) (w : Int) (x' : Mx)
    (hu : Reads os fs u (zd w)) (hx : ∀ a b, a < R → b < C → x' a b = if a = i ∧ b = j then w else x a b) (k : K undef (setOwn os pos (famO vs R C x')) fs) :
    StoreK Try.prog 33 (eptr (vs i) (j * 2)) u os fs K :=
  store_fam (d := zd w) pos i (famO vs R C x') h hi j hj rfl (by kernel_rfl) hu rfl rfl (fun a ha => ⟨rfl, rfl, fun b hb => by
    show zd (x' a b) = if a = i ∧ b = j then zd w else zd (x a b)
    rw [hx a b ha hb]; split <;> rfl⟩) k
theorem Seals.famcong {vs vs' : Nat → Value} {R C : Nat} {x x' : Mx} {os : List Own} {fs : List Fact} (pos : Nat) (h : nthOwn os pos = some (famO vs R C x)) (s : Nat → Nat) (hs : ∀ i, i < R → s i < R ∧ vs' i = vs (s i) ∧ ∀ k, k < C → x' i k = x (s i) k)
    (hinj : ∀ i j, i < R → j < R → s i = s j → i = j) : Seals os fs (setOwn os pos (famO vs' R C x')) fs :=
  Seals.re (o' := famO vs' R C x') pos h s rfl (fun i hi => ⟨(hs i hi).1, (hs i hi).2.1, rfl, fun k hk => by
    show zd _ = zd _
    rw [(hs i hi).2.2 k hk]⟩) hinj
theorem quot_meets (v w : Value) (x y : Int) (a b : Nat) (hx : sz x a) (hy : sz y b) (ha : a ≤ 137438953472) (hb : b ≤ 137438953472) (h0 : y ≠ 0) :
    Meets Try.prog 99 [v, w] [(v, zd x), (w, zd y)] (fun r os fs => os = [] ∧ fs = [(r, zd (x / y))]) := by
  refine meets_of_vc Try.func99 (by kernel_rfl) rfl (by kernel_rfl) (Nat.le_of_ble_eq_true rfl) ?_
  refine box_rule (Reads.fact (d := zd x) mM) fun p hp => ?_
  refine box_rule (Reads.fact (d := zd y) mM) fun q hq => ?_
  refine alloc_rule (d := I false []) fun o ho => ?_
  refine load_box (d := zd x) 2 rfl hp rfl (load_I _ _) fun u1 => ?_
  refine load_box (d := zd y) 1 rfl hq rfl (load_I _ _) fun u2 => ?_
  refine call_fn (zDivModZ u1 u2 x y a b hx hy ha hb h0) (Seals.refl _ _) mS ?_
  rintro _ _ _ ⟨rfl, z, m, rfl, rfl⟩
  refine alloc_rule (d := I false []) fun c1 h1 => ?_
  refine alloc_rule (d := I false []) fun c2 h2 => ?_
  refine store_box (d := zd (x / y)) 1 rfl h1 rfl (by kernel_rfl) ?_ ?_; exact Reads.fact mM
  refine store_box (d := zd (x % y)) 0 rfl h2 rfl (by kernel_rfl) ?_ ?_; exact Reads.fact mM
  refine load_box (d := zd (x / y)) 1 rfl h1 rfl (load_I _ _) fun u3 => ?_
  refine store_box (d := zd (x / y)) 2 rfl ho rfl (by kernel_rfl) ?_ ?_; exact Reads.fact mM
  refine load_box (d := zd (x / y)) 2 rfl ho rfl (load_I _ _) fun r => ?_
  refine fin ⟨rfl, rfl⟩ (Seals.trans (Seals.trans (Seals.trans (Seals.trans (Seals.trans (Seals.drop 0 _ _) (Seals.drop 0 _ _)) (Seals.drop 0 _ _)) (Seals.drop 0 _ _)) (Seals.drop 0 _ _)) (Seals.sub mS))
theorem barAt_meets (p : Value) (m : List Row) (i k : Nat) (hi : i < m.length) (hk : k < (m.getD i []).length) :
    Meets Try.prog 98 [.int .i64 (i : Nat), .int .i64 (k : Nat), p] [(p, .ptr (W m))] (fun r os fs => os = [] ∧ fs = [(r, J ((m.getD i []).getD k z0))]) := by
  refine meets_of_vc Try.func98 (by kernel_rfl) rfl (by kernel_rfl) (Nat.le_of_ble_eq_true rfl) ?_
  refine alloc_rule (d := I false []) fun o ho => ?_
  refine load_fact (d := W m) mM (load_W _) fun x1 => ?_
  refine index_fact mM i rfl hi fun a1 => ?_
  refine load_fact (d := V (m.getD i [])) mM (load_V _) fun x2 => ?_
  refine index_fact mM k rfl hk fun a2 => ?_
  refine load_fact (d := J ((m.getD i []).getD k z0)) mM (load_J _) fun x3 => ?_
  refine store_box (d := J ((m.getD i []).getD k z0)) 0 rfl ho rfl (by kernel_rfl) ?_ ?_; exact Reads.fact mM
  refine load_box (d := J ((m.getD i []).getD k z0)) 0 rfl ho rfl (load_J _) fun r => ?_
  exact fin ⟨rfl, rfl⟩ (Seals.trans (Seals.drop 0 _ _) (Seals.sub mS))
/-- Limbs after so many columns. -/
def Eb (k : Nat) : Nat → Nat
  | 0 => k + 1
  | c + 1 => 2 * Eb k c + 1
theorem Eb_mono (k : Nat) {a b : Nat} (h : a ≤ b) : Eb k a ≤ Eb k b := by
  induction h with
  | refl => exact Nat.le_refl _
  | step h ih => simp only [Eb]; omega
theorem sz_elim {a b c d l : Int} {e : Nat} (ha : sz a e) (hb : sz b e) (hc : sz c e) (hd : sz d e) : sz ((a * b - c * d) / l) (2 * e + 1) := by
  refine sz_div (sz_sub ?_ ?_)
  · rw [Nat.two_mul]; exact ha.mul hb
  · rw [Nat.two_mul]; exact hc.mul hd
/-- What holds of the numbers at column c. -/
structure BSz (k R C : Nat) (st : Bs) (c : Nat) : Prop where
  x : ∀ i j, i < R → j < C → sz (st.x i j) (Eb k c)
  l : sz st.last (Eb k c)
  ne : st.last ≠ 0
theorem mx_at {m : List Row} {k : Nat} (hf : Fits k m) (i j : Nat) : sz (((ww m).getD i []).getD j 0) k := by
  rw [ww_get]
  by_cases h : j < (m.getD i []).length
  · rw [vv_get _ _ h]
    exact sz_jv ((hf.get i).get j).1 ((hf.get i).get j).2
  · rw [List.getD_eq_getElem?_getD, List.getElem?_eq_none (by rw [vv_len]; omega)]
    exact sz_zero _
/-- A matrix of rows. -/
def mx (m : List (List Int)) : Mx := fun i j => (m.getD i []).getD j 0
end Go.Proofs.Ytabdfhdddmbmlaa

namespace Go.Proofs.Ytabdfhdddmbmlaa
open Go.RowKit
theorem pfind_here {x : Mx} {R c p : Nat} (h : p < R) (h0 : x p c ≠ 0) : pfind x R c (R - p) p = p := by
  rw [show R - p = (R - p - 1) + 1 by omega, pfind, if_neg h0]
theorem pfind_next {x : Mx} {R c p : Nat} (h : p < R) (h0 : x p c = 0) : pfind x R c (R - p) p = pfind x R c (R - (p + 1)) (p + 1) := by
  rw [show R - p = (R - (p + 1)) + 1 by omega, pfind, if_pos h0]
/-- s and p changed about. -/
def ex (s p i : Nat) : Nat := if i = s then p else if i = p then s else i
theorem ex_lt {s p i R : Nat} (hs : s < R) (hp : p < R) (hi : i < R) : ex s p i < R := by unfold ex; split <;> (try split) <;> omega
theorem ex_ex (s p i : Nat) : ex s p (ex s p i) = i := by unfold ex; split <;> split <;> (try split) <;> omega
theorem ex_inj {s p i j : Nat} (h : ex s p i = ex s p j) : i = j := by rw [← ex_ex s p i, h, ex_ex]
theorem ex_same (s i : Nat) : ex s s i = i := by unfold ex; split <;> (try split) <;> omega
def rowMix (z y : Mx) (i : Nat) : Mx := fun a b => if a < i then z a b else y a b
def cellMix (z y : Mx) (i c k : Nat) : Mx := fun a b => if a < i then z a b else if a = i ∧ c < b ∧ b < k then z a b else y a b
theorem BSz.step {k R C : Nat} {x : Mx} {last : Int} {odd od : Bool} {s c p : Nat} (h : BSz k R C ⟨x, last, odd, s⟩ c) (hs : s < R) (hp : p < R) (hc : c < C) (h0 : swp x s p s c ≠ 0) :
    BSz k R C ⟨elim (swp x s p) s c last, swp x s p s c, od, s + 1⟩ (c + 1) := by
  have hx : ∀ i j, i < R → j < C → sz (swp x s p i j) (Eb k c) := fun i j hi hj => h.x (ex s p i) j (ex_lt hs hp hi) hj
  refine ⟨fun i j hi hj => ?_, (hx s c hs hc).mono (by simp only [Eb]; omega), h0⟩
  have hm : Eb k c ≤ Eb k (c + 1) := by simp only [Eb]; omega
  simp only [elim]
  split
  · exact (hx i j hi hj).mono hm
  · split
    · exact (hx i j hi hj).mono hm
    · split
      · exact sz_zero _
      · exact sz_elim (hx s c hs hc) (hx i j hi hj) (hx i c hi hc) (hx s j hs hj)
theorem BSz.skip {k R C : Nat} {st : Bs} {c : Nat} (h : BSz k R C st c) : BSz k R C st (c + 1) :=
  ⟨fun i j hi hj => (h.x i j hi hj).mono (by simp only [Eb]; omega), h.l.mono (by simp only [Eb]; omega), h.ne⟩
theorem brun_more {R n c : Nat} {st : Bs} (h : st.step < R) : brun R (n + 1) c st = brun R n (c + 1) (bstep R st c) := by rw [brun, if_pos h]
theorem brun_full {R n c : Nat} {st : Bs} (h : R ≤ st.step) : brun R n c st = st := by
  cases n with
  | zero => rfl
  | succ n => rw [brun, if_neg (by omega)]
theorem bstep_none {R c : Nat} {x : Mx} {last : Int} {odd : Bool} {s : Nat} (h : pfind x R c (R - s) s = R) : bstep R ⟨x, last, odd, s⟩ c = ⟨x, last, odd, s⟩ := by
  unfold bstep; rw [if_pos h]
theorem bstep_some {R c p : Nat} {x : Mx} {last : Int} {odd : Bool} {s : Nat} (h : pfind x R c (R - s) s = p) (hp : p < R) :
    bstep R ⟨x, last, odd, s⟩ c = ⟨elim (swp x s p) s c last, swp x s p s c, if p = s then odd else !odd, s + 1⟩ := by
  unfold bstep; simp only [h]; rw [if_neg (by omega)]
def bareissR (R C : Nat) (A : Mx) : Value → List Own → List Fact → Prop := fun r os fs =>
  os = [] ∧ sz (bar R C A).last 17179869184 ∧ ∃ q, r = .tuple #[.int .i64 ((bar R C A).step : Nat), q, .bool (bar R C A).odd] ∧ fs = [(q, zd (bar R C A).last)]
theorem outer_ex {vs : Nat → Value} {s p i : Nat} (h : p ≠ s) : upd (upd (fun i => .one (vs i)) p (.one (vs s))) s (.one (vs p)) i = .one (vs (ex s p i)) := by
  unfold upd ex
  by_cases h1 : i = s
  · simp [h1]
  · by_cases h2 : i = p
    · subst h2; simp [h]
    · simp [h1, h2]
theorem bareiss_meets (v : Value) (m : List Row) (k : Nat) (hr : right m) (hf : Fits k m) (lm : m.length ≤ 1048576) (lc : (m.getD 0 []).length ≤ 1048576) (hk : Eb k (m.getD 0 []).length ≤ 17179869184) :
    Meets Try.prog 84 [v] [(v, W m)] (bareissR m.length (m.getD 0 []).length (mx (ww m))) := by
  have hrow : ∀ i, i < m.length → (m.getD i []).length = (m.getD 0 []).length := fun i hi => (hr.get hi).2
  have hR0 := hr.1
  generalize hC : (m.getD 0 []).length = C at *
  generalize hR : m.length = R at *
  have hC0 : 0 < C := by rw [← hC]; exact (hr.get (by omega)).1
  have hA : ∀ i j, i < R → j < C → mx (ww m) i j = jv ((m.getD i []).getD j z0) := fun i j hi hj => by
    unfold mx; rw [ww_get, vv_get _ _ (by rw [hrow i hi]; exact hj)]
  have hk0 : k + 1 ≤ Eb k C := Eb_mono k (Nat.zero_le C)
  refine meets_of_vc Try.func84 (by kernel_rfl) rfl (by kernel_rfl) (Nat.le_of_ble_eq_true rfl) ?_
  refine box_fact (Reads.fact (d := W m) mM) fun p0 => ?_
  refine alloc_rule (d := I false []) fun o ho => ?_
  refine draw_rule [0, 1, 2, 3, 4, 5, 6, 7, 8] [0, 1, 2, 3, 4, 5, 6, 7, 8] (by kernel_rfl) (by kernel_rfl) ?_
  refine load_fact (d := W m) mM (load_W _) fun x1 => ?_
  refine len_fact mM fun _ => ?_
  refine load_fact (d := W m) mM (load_W _) fun x2 => ?_
  refine index_fact mM 0 rfl (by omega) fun a1 => ?_
  refine load_fact (d := V (m.getD 0 [])) mM (load_V _) fun x3 => ?_
  refine len_fact mM fun _ => ?_
  rw [hR, hC]
  refine call_fn (mmade_meets R C 98 [p0] [(p0, .ptr (W m))] (fun i j => (m.getD i []).getD j z0) (fun i j hi hj => barAt_meets p0 m i j (by omega) (by rw [hrow i hi]; exact hj))
    (fun i j _ _ => ⟨((hf.get i).get j).1, Nat.le_trans ((hf.get i).get j).2 (by omega)⟩) (by omega) (by omega)) (Seals.refl _ _) mS ?_
  rintro v' _ _ ⟨hv, vs0, hvs0, rfl, rfl⟩
  refine call_fn (zof_meets 1 (by decide) (by decide)) (Seals.refl _ _) mS ?_
  rintro u0 _ _ ⟨rfl, rfl⟩
  refine alloc_rule (d := I false []) fun l hl => ?_
  refine store_box (d := zd 1) 0 rfl hl rfl (by kernel_rfl) ?_ ?_; exact Reads.fact mM
  refine loop_rule (X := Bs × Nat × (Nat → Value)) (fun x => ([(3, o), (5, v'), (6, l), (7, .bool x.1.odd), (8, .int .i64 (x.1.step : Nat)), (9, .int .i64 (x.2.1 : Nat))], [own1 l 2 1 (fun _ => zd x.1.last), famO x.2.2 R C x.1.x, outer v' R x.2.2, own1 o 2 1 (fun _ => I false [])], []))
    (fun x => x.2.1 ≤ C ∧ x.1.step ≤ R ∧ (∀ i, i < R → isSl (x.2.2 i)) ∧ BSz k R C x.1 x.2.1 ∧ brun R (C - x.2.1) x.2.1 x.1 = bar R C (mx (ww m))) (fun x => C - x.2.1) rfl ?_ ?_
  · refine again (⟨mx (ww m), 1, false, 0⟩, 0, vs0) ⟨Nat.zero_le _, Nat.zero_le _, hvs0, ⟨fun i j _ _ => (mx_at hf i j).mono (by simp only [Eb]; omega), ?_, by simp⟩, rfl⟩ trivial mF
      (Seals.trans (Seals.box0 rfl) (Seals.trans (Seals.famcong (os := [_, _, _, _]) 1 rfl (fun i => i) (fun a ha => ⟨ha, rfl, fun b hb => hA a b ha hb⟩) fun _ _ _ _ e => e) (Seals.nil _ _)))
    exact Nat.lt_of_lt_of_le (show (1 : Int).natAbs < 18446744073709551616 ^ 1 by decide) (Nat.pow_le_pow_right (by decide) (by simp only [Eb]; omega))
  · rintro ⟨⟨x, last, odd, s⟩, c, vs⟩ ⟨h1, h2, hvs, hsz, hrun⟩
    simp only at h1 h2 hvs hsz hrun ⊢
    have hEb : Eb k c ≤ 17179869184 := Nat.le_trans (Eb_mono k h1) hk
    refine index_elem 2 rfl hv 0 rfl (by omega) ?_
    refine load_one_elem 2 rfl 0 (by omega) (u := vs 0) rfl ?_
    refine len_fam 1 0 rfl (by omega) (hvs 0 (by omega)) fun _ => ?_
    refine cmp_split _ rfl (fun hc => ?_) (fun hc => ?_)
    rotate_left
    · have hcC : c = C := by omega
      have hfin : bar R C (mx (ww m)) = ⟨x, last, odd, s⟩ := by rw [← hrun, hcC, Nat.sub_self, brun]
      refine draw_ord [0, 3, 1, 4, 2, 5] (by kernel_rfl) ?_
      refine ord_split 2 4 (by kernel_rfl) (by kernel_rfl) (by kernel_rfl) ?_ ?_
      · refine ord_go [0, 1, 2, 3, 4, 5] (by kernel_rfl) (by kernel_rfl) ?_
        refine load_box (d := zd last) 0 rfl hl rfl (load_I _ _) fun u1 => ?_
        refine store_box (d := zd last) 3 rfl ho rfl (by kernel_rfl) ?_ ?_; exact Reads.fact mM
        refine load_box (d := zd last) 3 rfl ho rfl (load_I _ _) fun r => ?_
        refine fin ⟨rfl, by rw [hfin]; exact hsz.l.mono (Nat.le_trans (Eb_mono k h1) hk), r, ?_, ?_⟩ (Seals.trans (Seals.trans (Seals.trans (Seals.trans (Seals.drop 0 _ _) (Seals.drop 0 _ _)) (Seals.drop 0 _ _)) (Seals.drop 0 _ _)) (Seals.sub (fs' := [(r, zd last)]) mS))
        · rw [hfin]; rfl
        · rw [hfin]
      · refine ord_go [0, 1, 3, 4, 2, 5] (by kernel_rfl) (by kernel_rfl) ?_
        refine load_box (d := zd last) 0 rfl hl rfl (load_I _ _) fun u1 => ?_
        refine store_box (d := zd last) 3 rfl ho rfl (by kernel_rfl) ?_ ?_; exact Reads.fact mM
        refine load_box (d := zd last) 3 rfl ho rfl (load_I _ _) fun r => ?_
        refine fin ⟨rfl, by rw [hfin]; exact hsz.l.mono (Nat.le_trans (Eb_mono k h1) hk), r, ?_, ?_⟩ (Seals.trans (Seals.trans (Seals.trans (Seals.trans (Seals.drop 0 _ _) (Seals.drop 0 _ _)) (Seals.drop 0 _ _)) (Seals.drop 0 _ _)) (Seals.sub (fs' := [(r, zd last)]) mS))
        · rw [hfin]; rfl
        · rw [hfin]
    have hcC : c < C := by omega
    refine len_own 2 rfl hv fun _ => ?_
    refine cmp_split _ rfl (fun hs => ?_) (fun hs => ?_)
    rotate_left
    · have hfin : bar R C (mx (ww m)) = ⟨x, last, odd, s⟩ := by rw [← hrun, brun_full (by simp only; omega)]
      refine draw_ord [0, 3, 1, 4, 2, 5] (by kernel_rfl) ?_
      refine ord_split 2 4 (by kernel_rfl) (by kernel_rfl) (by kernel_rfl) ?_ ?_
      · refine ord_go [0, 1, 2, 3, 4, 5] (by kernel_rfl) (by kernel_rfl) ?_
        refine load_box (d := zd last) 0 rfl hl rfl (load_I _ _) fun u1 => ?_
        refine store_box (d := zd last) 3 rfl ho rfl (by kernel_rfl) ?_ ?_; exact Reads.fact mM
        refine load_box (d := zd last) 3 rfl ho rfl (load_I _ _) fun r => ?_
        refine fin ⟨rfl, by rw [hfin]; exact hsz.l.mono (Nat.le_trans (Eb_mono k h1) hk), r, ?_, ?_⟩ (Seals.trans (Seals.trans (Seals.trans (Seals.trans (Seals.drop 0 _ _) (Seals.drop 0 _ _)) (Seals.drop 0 _ _)) (Seals.drop 0 _ _)) (Seals.sub (fs' := [(r, zd last)]) mS))
        · rw [hfin]; rfl
        · rw [hfin]
      · refine ord_go [0, 1, 3, 4, 2, 5] (by kernel_rfl) (by kernel_rfl) ?_
        refine load_box (d := zd last) 0 rfl hl rfl (load_I _ _) fun u1 => ?_
        refine store_box (d := zd last) 3 rfl ho rfl (by kernel_rfl) ?_ ?_; exact Reads.fact mM
        refine load_box (d := zd last) 3 rfl ho rfl (load_I _ _) fun r => ?_
        refine fin ⟨rfl, by rw [hfin]; exact hsz.l.mono (Nat.le_trans (Eb_mono k h1) hk), r, ?_, ?_⟩ (Seals.trans (Seals.trans (Seals.trans (Seals.trans (Seals.drop 0 _ _) (Seals.drop 0 _ _)) (Seals.drop 0 _ _)) (Seals.drop 0 _ _)) (Seals.sub (fs' := [(r, zd last)]) mS))
        · rw [hfin]; rfl
        · rw [hfin]
    have hsR : s < R := by omega
    have hfin : brun R (C - (c + 1)) (c + 1) (bstep R ⟨x, last, odd, s⟩ c) = bar R C (mx (ww m)) := by
      rw [← hrun, show C - c = (C - (c + 1)) + 1 by omega, brun_more hsR]
    refine loop_rule (X := Nat) (fun p => ([(3, o), (5, v'), (6, l), (7, .bool odd), (8, .int .i64 (s : Nat)), (9, .int .i64 (c : Nat)), (10, .int .i64 (p : Nat))], [own1 l 2 1 (fun _ => zd last), famO vs R C x, outer v' R vs, own1 o 2 1 (fun _ => I false [])], []))
      (fun p => s ≤ p ∧ p < R ∧ pfind x R c (R - s) s = pfind x R c (R - p) p) (fun p => R - p) rfl ?_ ?_
    · exact again s ⟨Nat.le_refl _, hsR, rfl⟩ trivial mF (Seals.nil _ _)
    · rintro p ⟨hp1, hpR, hpf⟩
      refine index_elem 2 rfl hv p rfl (by omega) ?_
      refine load_one_elem 2 rfl p (by omega) (u := vs p) rfl ?_
      refine index_fam 1 p rfl (by omega) (hvs p (by omega)) c rfl (by omega) ?_
      refine load_fam 1 p c rfl (by omega) (by omega) (x p c) rfl fun u1 => ?_
      refine call_fn (zSignZ u1 (x p c) _ (hsz.x p c hpR hcC) (by omega)) (Seals.refl _ _) mS ?_
      rintro _ _ _ ⟨rfl, rfl, rfl⟩
      refine cmp_split _ rfl (fun h0 => ?_) (fun h0 => ?_)
      · have h0' : x p c = 0 := Int.sign_eq_zero_iff_zero.1 h0
        refine ar rfl mI ?_
        refine len_own 2 rfl hv fun _ => ?_
        refine cmp_split _ rfl (fun hq => ?_) (fun hq => ?_)
        · have hb := bstep_none (last := last) (odd := odd) (show pfind x R c (R - s) s = R by rw [hpf, pfind_next hpR h0', show R - (p + 1) = 0 by omega]; rfl)
          rw [hb] at hfin
          refine ar rfl mI ?_
          exact again (⟨x, last, odd, s⟩, c + 1, vs) ⟨by simp only; omega, h2, hvs, hsz.skip, hfin⟩ (by simp only; omega) mF (Seals.nil _ _)
        · exact again (p + 1) ⟨by omega, by omega, by rw [hpf, pfind_next hpR h0']⟩ (by simp only; omega) mF (Seals.nil _ _)
      · have h0' : x p c ≠ 0 := fun e => h0 (Int.sign_eq_zero_iff_zero.2 e)
        have hb := bstep_some (last := last) (odd := odd) (show pfind x R c (R - s) s = p by rw [hpf, pfind_here hpR h0']) hpR
        rw [hb] at hfin
        have h0 : swp x s p s c ≠ 0 := by unfold swp; rw [if_pos rfl]; exact h0'
        have hys : ∀ i j, i < R → j < C → sz (swp x s p i j) (Eb k c) := fun i j hi hj => hsz.x (ex s p i) j (ex_lt hsR hpR hi) hj
        have hstep : ∀ od, BSz k R C ⟨elim (swp x s p) s c last, swp x s p s c, od, s + 1⟩ (c + 1) := fun od => hsz.step hsR hpR hcC h0
        have hyx : ∀ i j, swp x s p i j = x (ex s p i) j := fun _ _ => rfl
        obtain ⟨vs', hv's⟩ : ∃ vs' : Nat → Value, ∀ i, vs' i = vs (ex s p i) := ⟨_, fun _ => rfl⟩
        have hvs' : ∀ i, i < R → isSl (vs' i) := fun i hi => by rw [hv's]; exact hvs _ (ex_lt hsR hpR hi)
        clear hrun hpf h0'
        generalize swp x s p = y at *
        generalize hz : elim y s c last = z at *
        have hzs : ∀ a b, a ≤ s → z a b = y a b := fun a b ha => by rw [← hz]; unfold elim; rw [if_pos ha]
        have hfc : ∀ i, i < R → ex s p i < R ∧ vs' i = vs (ex s p i) ∧ ∀ j, j < C → rowMix z y (s + 1) i j = x (ex s p i) j := fun i hi => ⟨ex_lt hsR hpR hi, hv's i, fun j _ => by
          unfold rowMix
          split
          · rw [hzs i j (by omega), hyx]
          · rw [hyx]⟩
        refine cmp_split _ rfl (fun hne => ?_) (fun hne => ?_)
        · have hps : p ≠ s := by omega
          refine draw_ord [0, 1, 4, 5, 6, 7, 8, 9, 10, 11, 12, 13, 2, 3, 14, 15] (by kernel_rfl) ?_
          refine ord_split 2 13 (by kernel_rfl) (by kernel_rfl) (by kernel_rfl) ?_ ?_
          · refine ord_split 3 13 (by kernel_rfl) (by kernel_rfl) (by kernel_rfl) ?_ ?_
            · refine ord_go [0, 1, 2, 3, 4, 5, 6, 7, 8, 9, 10, 11, 12, 13, 14, 15] (by kernel_rfl) (by kernel_rfl) ?_
              refine index_elem 2 rfl hv s rfl (by omega) ?_
              refine load_one_elem 2 rfl s (by omega) (u := vs s) rfl ?_
              refine index_elem 2 rfl hv p rfl (by omega) ?_
              refine load_one_elem 2 rfl p (by omega) (u := vs p) rfl ?_
              refine index_elem 2 rfl hv p rfl (by omega) ?_
              refine store_elem (d := .one (vs s)) 2 rfl p (by omega) rfl (by kernel_rfl) (Reads.one (hvs s (by omega)).one) ?_
              refine index_elem 2 rfl hv s rfl (by omega) ?_
              refine store_elem (d := .one (vs p)) 2 rfl s (by omega) rfl (by kernel_rfl) (Reads.one (hvs p (by omega)).one) ?_
              have hod : (if p = s then odd else !odd) = (!odd) := by rw [if_neg hps]
              refine ar rfl mI ?_
              refine loop_rule (X := Nat) (fun i => ([(3, o), (5, v'), (6, l), (7, .bool (!odd)), (8, .int .i64 (s : Nat)), (9, .int .i64 (c : Nat)), (11, .int .i64 (i : Nat))], [own1 l 2 1 (fun _ => zd last), famO vs' R C (rowMix z y i), outer v' R vs', own1 o 2 1 (fun _ => I false [])], []))
                (fun i => s + 1 ≤ i ∧ i ≤ R) (fun i => R - i) rfl ?_ ?_
              · exact again (s + 1) ⟨Nat.le_refl _, by omega⟩ trivial mF (Seals.trans (Seals.own_cong (os := [_, _, _, _]) 2 (fun i => .one (vs' i)) rfl rfl fun i _ => by rw [outer_ex hps, hv's]) (Seals.trans (Seals.famcong (os := [_, _, _, _]) 1 rfl (ex s p) hfc fun _ _ _ _ e => ex_inj e) (Seals.nil _ _)))
              · rintro i ⟨hi1, hi2⟩
                refine len_own 2 rfl hv fun _ => ?_
                refine cmp_split _ rfl (fun hi => ?_) (fun hi => ?_)
                · have hiR : i < R := by omega
                  refine ar rfl mI ?_
                  refine loop_rule (X := Nat) (fun k' => ([(3, o), (5, v'), (6, l), (7, .bool (!odd)), (8, .int .i64 (s : Nat)), (9, .int .i64 (c : Nat)), (11, .int .i64 (i : Nat)), (12, .int .i64 (k' : Nat))], [own1 l 2 1 (fun _ => zd last), famO vs' R C (cellMix z y i c k'), outer v' R vs', own1 o 2 1 (fun _ => I false [])], []))
                    (fun k' => c + 1 ≤ k' ∧ k' ≤ C) (fun k' => C - k') rfl ?_ ?_
                  · refine again (c + 1) ⟨Nat.le_refl _, by omega⟩ trivial mF (Seals.famcong (os := [_, _, _, _]) 1 rfl (fun i => i) (fun a ha => ⟨ha, rfl, fun b hb => ?_⟩) fun _ _ _ _ e => e)
                    unfold cellMix rowMix
                    rw [if_neg (show ¬ (a = i ∧ c < b ∧ b < c + 1) by omega)]
                  · rintro k' ⟨hk1, hk2⟩
                    refine index_elem 2 rfl hv 0 rfl (by omega) ?_
                    refine load_one_elem 2 rfl 0 (by omega) (u := vs' 0) rfl ?_
                    refine len_fam 1 0 rfl (by omega) (hvs' 0 (by omega)) fun _ => ?_
                    refine cmp_split _ rfl (fun hc2 => ?_) (fun hc2 => ?_)
                    · have hkC : k' < C := by omega
                      have y1 := hys s c hsR hcC
                      have y2 := hys i k' hiR hkC
                      have y3 := hys i c hiR hcC
                      have y4 := hys s k' hsR hkC
                      refine draw_rule [0, 1, 2, 3, 4, 5, 6, 7, 8, 9, 10, 11, 12, 13, 14, 15, 16, 17, 18, 20, 21, 22, 23, 24, 25, 26, 27, 28, 29, 30, 31, 32, 33, 36, 19, 34, 35, 37, 38, 39] [0, 1, 2, 3, 4, 5, 6, 7, 8, 9, 10, 11, 12, 13, 14, 15, 16, 17, 18, 19, 20, 21, 22, 23, 24, 25, 26, 27, 28, 29, 30, 31, 32, 33, 34, 35, 36, 37, 38, 39] (by kernel_rfl) (by kernel_rfl) ?_
                      refine index_elem 2 rfl hv i rfl (by omega) ?_
                      refine load_one_elem 2 rfl i (by omega) (u := vs' i) rfl ?_
                      refine index_elem 2 rfl hv s rfl (by omega) ?_
                      refine load_one_elem 2 rfl s (by omega) (u := vs' s) rfl ?_
                      refine index_fam 1 s rfl (by omega) (hvs' s (by omega)) c rfl (by omega) ?_
                      refine load_fam 1 s c rfl (by omega) (by omega) (y s c) ?_ fun u1 => ?_
                      · unfold cellMix; rw [if_pos (by omega), hzs _ _ (by omega)]
                      refine index_elem 2 rfl hv i rfl (by omega) ?_
                      refine load_one_elem 2 rfl i (by omega) (u := vs' i) rfl ?_
                      refine index_fam 1 i rfl (by omega) (hvs' i (by omega)) k' rfl (by omega) ?_
                      refine load_fam 1 i k' rfl (by omega) (by omega) (y i k') ?_ fun u2 => ?_
                      · unfold cellMix; rw [if_neg (by omega), if_neg (by omega)]
                      refine index_elem 2 rfl hv i rfl (by omega) ?_
                      refine load_one_elem 2 rfl i (by omega) (u := vs' i) rfl ?_
                      refine index_fam 1 i rfl (by omega) (hvs' i (by omega)) c rfl (by omega) ?_
                      refine load_fam 1 i c rfl (by omega) (by omega) (y i c) ?_ fun u3 => ?_
                      · unfold cellMix; rw [if_neg (by omega), if_neg (by omega)]
                      refine index_elem 2 rfl hv s rfl (by omega) ?_
                      refine load_one_elem 2 rfl s (by omega) (u := vs' s) rfl ?_
                      refine index_fam 1 s rfl (by omega) (hvs' s (by omega)) k' rfl (by omega) ?_
                      refine load_fam 1 s k' rfl (by omega) (by omega) (y s k') ?_ fun u4 => ?_
                      · unfold cellMix; rw [if_pos (by omega), hzs _ _ (by omega)]
                      refine load_box (d := zd last) 0 rfl hl rfl (load_I _ _) fun w4 => ?_
                      refine call_fn (zMulZ u1 u2 (y s c) (y i k') _ _ y1 y2 (by omega) (by omega)) (Seals.refl _ _) mS ?_
                      rintro w1 _ _ ⟨rfl, rfl⟩
                      refine call_fn (zMulZ u3 u4 (y i c) (y s k') _ _ y3 y4 (by omega) (by omega)) (Seals.refl _ _) mS ?_
                      rintro w2 _ _ ⟨rfl, rfl⟩
                      refine call_fn (zSubZ w1 w2 (y s c * y i k') (y i c * y s k') _ _ (y1.mul y2) (y3.mul y4) (by omega) (by omega)) (Seals.refl _ _) mS ?_
                      rintro w3 _ _ ⟨rfl, rfl⟩
                      refine call_fn (quot_meets w3 w4 (y s c * y i k' - y i c * y s k') last _ _ (sz_sub (y1.mul y2) (y3.mul y4)) hsz.l (by omega) (by omega) hsz.ne) (Seals.refl _ _) mS ?_
                      rintro w5 _ _ ⟨rfl, rfl⟩
                      refine index_fam 1 i rfl (by omega) (hvs' i (by omega)) k' rfl (by omega) ?_
                      refine store_mx 1 i k' rfl (by omega) (by omega) _ (cellMix z y i c (k' + 1)) (Reads.fact mM) (fun a b ha hb => ?_) ?_
                      · unfold cellMix
                        by_cases e : a = i ∧ b = k'
                        · rw [if_pos e, e.1, e.2, if_neg (by omega), if_pos (by omega), ← hz]
                          unfold elim; rw [if_neg (by omega), if_neg (by omega), if_neg (by omega)]
                        · rw [if_neg e]
                          by_cases e1 : a < i
                          · rw [if_pos e1, if_pos e1]
                          · rw [if_neg e1, if_neg e1]
                            by_cases e2 : a = i ∧ c < b ∧ b < k'
                            · rw [if_pos e2, if_pos (by omega)]
                            · rw [if_neg e2, if_neg (by omega)]
                      refine ar rfl mI ?_
                      exact again (k' + 1) ⟨by omega, by omega⟩ (by simp only; omega) mF (Seals.nil _ _)
                    · have hkC : k' = C := by omega
                      refine index_elem 2 rfl hv i rfl (by omega) ?_
                      refine load_one_elem 2 rfl i (by omega) (u := vs' i) rfl ?_
                      refine build0 (da := .one (.bool false)) (db := U (lims 0)) (fun S w => ⟨[.bool false], [.slice none 0 0], rfl, rd_false S w, by rw [lims_zero]; exact rd_nil S w 1 _⟩) fun zz => ?_
                      refine index_fam 1 i rfl (by omega) (hvs' i (by omega)) c rfl (by omega) ?_
                      refine store_mx 1 i c rfl (by omega) (by omega) 0 (rowMix z y (i + 1)) (Reads.fact (d := zd 0) mM) (fun a b ha hb => ?_) ?_
                      · unfold cellMix rowMix
                        by_cases e : a = i ∧ b = c
                        · rw [if_pos e, e.1, e.2, if_pos (by omega), ← hz]
                          unfold elim; rw [if_neg (by omega), if_neg (by omega), if_pos rfl]
                        · rw [if_neg e]
                          by_cases e1 : a < i
                          · rw [if_pos e1, if_pos (by omega)]
                          · rw [if_neg e1]
                            by_cases e2 : a = i ∧ c < b ∧ b < k'
                            · rw [if_pos e2, if_pos (by omega)]
                            · rw [if_neg e2]
                              by_cases e3 : a = i
                              · rw [if_pos (by omega), ← hz]
                                unfold elim; rw [if_neg (by omega), if_pos (by omega)]
                              · rw [if_neg (by omega)]
                      refine ar rfl mI ?_
                      exact again (i + 1) ⟨by omega, by omega⟩ (by simp only; omega) mF (Seals.nil _ _)
                · have hiR : R = i := by omega
                  subst hiR
                  refine index_elem 2 rfl hv s rfl (by omega) ?_
                  refine load_one_elem 2 rfl s (by omega) (u := vs' s) rfl ?_
                  refine index_fam 1 s rfl (by omega) (hvs' s (by omega)) c rfl (by omega) ?_
                  refine load_fam 1 s c rfl (by omega) (by omega) (y s c) ?_ fun u1 => ?_
                  · unfold rowMix; rw [if_pos (by omega), hzs _ _ (by omega)]
                  refine store_box (d := zd (y s c)) 0 rfl hl rfl (by kernel_rfl) ?_ ?_; exact Reads.fact mM
                  refine ar rfl mI ?_
                  refine ar rfl mI ?_
                  refine again (⟨z, y s c, (!odd), s + 1⟩, c + 1, vs') ⟨by simp only; omega, by simp only; omega, hvs', ?_, ?_⟩ (by simp only; omega) mF (Seals.trans (Seals.box0 rfl) (Seals.trans (Seals.famcong (os := [_, _, _, _]) 1 rfl (fun i => i) (fun a ha => ⟨ha, rfl, fun b hb => ?_⟩) fun _ _ _ _ e => e) (Seals.nil _ _)))
                  · exact hstep _
                  · simp only
                    rw [← hod]; exact hfin
                  · unfold rowMix; rw [if_pos ha]
            · refine ord_go [0, 1, 2, 4, 5, 6, 7, 8, 9, 10, 11, 12, 13, 3, 14, 15] (by kernel_rfl) (by kernel_rfl) ?_
              refine index_elem 2 rfl hv s rfl (by omega) ?_
              refine load_one_elem 2 rfl s (by omega) (u := vs s) rfl ?_
              refine index_elem 2 rfl hv p rfl (by omega) ?_
              refine load_one_elem 2 rfl p (by omega) (u := vs p) rfl ?_
              refine index_elem 2 rfl hv p rfl (by omega) ?_
              refine store_elem (d := .one (vs s)) 2 rfl p (by omega) rfl (by kernel_rfl) (Reads.one (hvs s (by omega)).one) ?_
              refine index_elem 2 rfl hv s rfl (by omega) ?_
              refine store_elem (d := .one (vs p)) 2 rfl s (by omega) rfl (by kernel_rfl) (Reads.one (hvs p (by omega)).one) ?_
              have hod : (if p = s then odd else !odd) = (!odd) := by rw [if_neg hps]
              refine ar rfl mI ?_
              refine loop_rule (X := Nat) (fun i => ([(3, o), (5, v'), (6, l), (7, .bool (!odd)), (8, .int .i64 (s : Nat)), (9, .int .i64 (c : Nat)), (11, .int .i64 (i : Nat))], [own1 l 2 1 (fun _ => zd last), famO vs' R C (rowMix z y i), outer v' R vs', own1 o 2 1 (fun _ => I false [])], []))
                (fun i => s + 1 ≤ i ∧ i ≤ R) (fun i => R - i) rfl ?_ ?_
              · exact again (s + 1) ⟨Nat.le_refl _, by omega⟩ trivial mF (Seals.trans (Seals.own_cong (os := [_, _, _, _]) 2 (fun i => .one (vs' i)) rfl rfl fun i _ => by rw [outer_ex hps, hv's]) (Seals.trans (Seals.famcong (os := [_, _, _, _]) 1 rfl (ex s p) hfc fun _ _ _ _ e => ex_inj e) (Seals.nil _ _)))
              · rintro i ⟨hi1, hi2⟩
                refine len_own 2 rfl hv fun _ => ?_
                refine cmp_split _ rfl (fun hi => ?_) (fun hi => ?_)
                · have hiR : i < R := by omega
                  refine ar rfl mI ?_
                  refine loop_rule (X := Nat) (fun k' => ([(3, o), (5, v'), (6, l), (7, .bool (!odd)), (8, .int .i64 (s : Nat)), (9, .int .i64 (c : Nat)), (11, .int .i64 (i : Nat)), (12, .int .i64 (k' : Nat))], [own1 l 2 1 (fun _ => zd last), famO vs' R C (cellMix z y i c k'), outer v' R vs', own1 o 2 1 (fun _ => I false [])], []))
                    (fun k' => c + 1 ≤ k' ∧ k' ≤ C) (fun k' => C - k') rfl ?_ ?_
                  · refine again (c + 1) ⟨Nat.le_refl _, by omega⟩ trivial mF (Seals.famcong (os := [_, _, _, _]) 1 rfl (fun i => i) (fun a ha => ⟨ha, rfl, fun b hb => ?_⟩) fun _ _ _ _ e => e)
                    unfold cellMix rowMix
                    rw [if_neg (show ¬ (a = i ∧ c < b ∧ b < c + 1) by omega)]
                  · rintro k' ⟨hk1, hk2⟩
                    refine index_elem 2 rfl hv 0 rfl (by omega) ?_
                    refine load_one_elem 2 rfl 0 (by omega) (u := vs' 0) rfl ?_
                    refine len_fam 1 0 rfl (by omega) (hvs' 0 (by omega)) fun _ => ?_
                    refine cmp_split _ rfl (fun hc2 => ?_) (fun hc2 => ?_)
                    · have hkC : k' < C := by omega
                      have y1 := hys s c hsR hcC
                      have y2 := hys i k' hiR hkC
                      have y3 := hys i c hiR hcC
                      have y4 := hys s k' hsR hkC
                      refine draw_rule [0, 1, 2, 3, 4, 5, 6, 7, 8, 9, 10, 11, 12, 13, 14, 15, 16, 17, 18, 20, 21, 22, 23, 24, 25, 26, 27, 28, 29, 30, 31, 32, 33, 36, 19, 34, 35, 37, 38, 39] [0, 1, 2, 3, 4, 5, 6, 7, 8, 9, 10, 11, 12, 13, 14, 15, 16, 17, 18, 19, 20, 21, 22, 23, 24, 25, 26, 27, 28, 29, 30, 31, 32, 33, 34, 35, 36, 37, 38, 39] (by kernel_rfl) (by kernel_rfl) ?_
                      refine index_elem 2 rfl hv i rfl (by omega) ?_
                      refine load_one_elem 2 rfl i (by omega) (u := vs' i) rfl ?_
                      refine index_elem 2 rfl hv s rfl (by omega) ?_
                      refine load_one_elem 2 rfl s (by omega) (u := vs' s) rfl ?_
                      refine index_fam 1 s rfl (by omega) (hvs' s (by omega)) c rfl (by omega) ?_
                      refine load_fam 1 s c rfl (by omega) (by omega) (y s c) ?_ fun u1 => ?_
                      · unfold cellMix; rw [if_pos (by omega), hzs _ _ (by omega)]
                      refine index_elem 2 rfl hv i rfl (by omega) ?_
                      refine load_one_elem 2 rfl i (by omega) (u := vs' i) rfl ?_
                      refine index_fam 1 i rfl (by omega) (hvs' i (by omega)) k' rfl (by omega) ?_
                      refine load_fam 1 i k' rfl (by omega) (by omega) (y i k') ?_ fun u2 => ?_
                      · unfold cellMix; rw [if_neg (by omega), if_neg (by omega)]
                      refine index_elem 2 rfl hv i rfl (by omega) ?_
                      refine load_one_elem 2 rfl i (by omega) (u := vs' i) rfl ?_
                      refine index_fam 1 i rfl (by omega) (hvs' i (by omega)) c rfl (by omega) ?_
                      refine load_fam 1 i c rfl (by omega) (by omega) (y i c) ?_ fun u3 => ?_
                      · unfold cellMix; rw [if_neg (by omega), if_neg (by omega)]
                      refine index_elem 2 rfl hv s rfl (by omega) ?_
                      refine load_one_elem 2 rfl s (by omega) (u := vs' s) rfl ?_
                      refine index_fam 1 s rfl (by omega) (hvs' s (by omega)) k' rfl (by omega) ?_
                      refine load_fam 1 s k' rfl (by omega) (by omega) (y s k') ?_ fun u4 => ?_
                      · unfold cellMix; rw [if_pos (by omega), hzs _ _ (by omega)]
                      refine load_box (d := zd last) 0 rfl hl rfl (load_I _ _) fun w4 => ?_
                      refine call_fn (zMulZ u1 u2 (y s c) (y i k') _ _ y1 y2 (by omega) (by omega)) (Seals.refl _ _) mS ?_
                      rintro w1 _ _ ⟨rfl, rfl⟩
                      refine call_fn (zMulZ u3 u4 (y i c) (y s k') _ _ y3 y4 (by omega) (by omega)) (Seals.refl _ _) mS ?_
                      rintro w2 _ _ ⟨rfl, rfl⟩
                      refine call_fn (zSubZ w1 w2 (y s c * y i k') (y i c * y s k') _ _ (y1.mul y2) (y3.mul y4) (by omega) (by omega)) (Seals.refl _ _) mS ?_
                      rintro w3 _ _ ⟨rfl, rfl⟩
                      refine call_fn (quot_meets w3 w4 (y s c * y i k' - y i c * y s k') last _ _ (sz_sub (y1.mul y2) (y3.mul y4)) hsz.l (by omega) (by omega) hsz.ne) (Seals.refl _ _) mS ?_
                      rintro w5 _ _ ⟨rfl, rfl⟩
                      refine index_fam 1 i rfl (by omega) (hvs' i (by omega)) k' rfl (by omega) ?_
                      refine store_mx 1 i k' rfl (by omega) (by omega) _ (cellMix z y i c (k' + 1)) (Reads.fact mM) (fun a b ha hb => ?_) ?_
                      · unfold cellMix
                        by_cases e : a = i ∧ b = k'
                        · rw [if_pos e, e.1, e.2, if_neg (by omega), if_pos (by omega), ← hz]
                          unfold elim; rw [if_neg (by omega), if_neg (by omega), if_neg (by omega)]
                        · rw [if_neg e]
                          by_cases e1 : a < i
                          · rw [if_pos e1, if_pos e1]
                          · rw [if_neg e1, if_neg e1]
                            by_cases e2 : a = i ∧ c < b ∧ b < k'
                            · rw [if_pos e2, if_pos (by omega)]
                            · rw [if_neg e2, if_neg (by omega)]
                      refine ar rfl mI ?_
                      exact again (k' + 1) ⟨by omega, by omega⟩ (by simp only; omega) mF (Seals.nil _ _)
                    · have hkC : k' = C := by omega
                      refine index_elem 2 rfl hv i rfl (by omega) ?_
                      refine load_one_elem 2 rfl i (by omega) (u := vs' i) rfl ?_
                      refine build0 (da := .one (.bool false)) (db := U (lims 0)) (fun S w => ⟨[.bool false], [.slice none 0 0], rfl, rd_false S w, by rw [lims_zero]; exact rd_nil S w 1 _⟩) fun zz => ?_
                      refine index_fam 1 i rfl (by omega) (hvs' i (by omega)) c rfl (by omega) ?_
                      refine store_mx 1 i c rfl (by omega) (by omega) 0 (rowMix z y (i + 1)) (Reads.fact (d := zd 0) mM) (fun a b ha hb => ?_) ?_
                      · unfold cellMix rowMix
                        by_cases e : a = i ∧ b = c
                        · rw [if_pos e, e.1, e.2, if_pos (by omega), ← hz]
                          unfold elim; rw [if_neg (by omega), if_neg (by omega), if_pos rfl]
                        · rw [if_neg e]
                          by_cases e1 : a < i
                          · rw [if_pos e1, if_pos (by omega)]
                          · rw [if_neg e1]
                            by_cases e2 : a = i ∧ c < b ∧ b < k'
                            · rw [if_pos e2, if_pos (by omega)]
                            · rw [if_neg e2]
                              by_cases e3 : a = i
                              · rw [if_pos (by omega), ← hz]
                                unfold elim; rw [if_neg (by omega), if_pos (by omega)]
                              · rw [if_neg (by omega)]
                      refine ar rfl mI ?_
                      exact again (i + 1) ⟨by omega, by omega⟩ (by simp only; omega) mF (Seals.nil _ _)
                · have hiR : R = i := by omega
                  subst hiR
                  refine index_elem 2 rfl hv s rfl (by omega) ?_
                  refine load_one_elem 2 rfl s (by omega) (u := vs' s) rfl ?_
                  refine index_fam 1 s rfl (by omega) (hvs' s (by omega)) c rfl (by omega) ?_
                  refine load_fam 1 s c rfl (by omega) (by omega) (y s c) ?_ fun u1 => ?_
                  · unfold rowMix; rw [if_pos (by omega), hzs _ _ (by omega)]
                  refine store_box (d := zd (y s c)) 0 rfl hl rfl (by kernel_rfl) ?_ ?_; exact Reads.fact mM
                  refine ar rfl mI ?_
                  refine ar rfl mI ?_
                  refine again (⟨z, y s c, (!odd), s + 1⟩, c + 1, vs') ⟨by simp only; omega, by simp only; omega, hvs', ?_, ?_⟩ (by simp only; omega) mF (Seals.trans (Seals.box0 rfl) (Seals.trans (Seals.famcong (os := [_, _, _, _]) 1 rfl (fun i => i) (fun a ha => ⟨ha, rfl, fun b hb => ?_⟩) fun _ _ _ _ e => e) (Seals.nil _ _)))
                  · exact hstep _
                  · simp only
                    rw [← hod]; exact hfin
                  · unfold rowMix; rw [if_pos ha]
          · refine ord_split 3 13 (by kernel_rfl) (by kernel_rfl) (by kernel_rfl) ?_ ?_
            · refine ord_go [0, 1, 3, 4, 5, 6, 7, 8, 9, 10, 11, 12, 13, 2, 14, 15] (by kernel_rfl) (by kernel_rfl) ?_
              refine index_elem 2 rfl hv s rfl (by omega) ?_
              refine load_one_elem 2 rfl s (by omega) (u := vs s) rfl ?_
              refine index_elem 2 rfl hv p rfl (by omega) ?_
              refine load_one_elem 2 rfl p (by omega) (u := vs p) rfl ?_
              refine index_elem 2 rfl hv p rfl (by omega) ?_
              refine store_elem (d := .one (vs s)) 2 rfl p (by omega) rfl (by kernel_rfl) (Reads.one (hvs s (by omega)).one) ?_
              refine index_elem 2 rfl hv s rfl (by omega) ?_
              refine store_elem (d := .one (vs p)) 2 rfl s (by omega) rfl (by kernel_rfl) (Reads.one (hvs p (by omega)).one) ?_
              have hod : (if p = s then odd else !odd) = (!odd) := by rw [if_neg hps]
              refine ar rfl mI ?_
              refine loop_rule (X := Nat) (fun i => ([(3, o), (5, v'), (6, l), (7, .bool (!odd)), (8, .int .i64 (s : Nat)), (9, .int .i64 (c : Nat)), (11, .int .i64 (i : Nat))], [own1 l 2 1 (fun _ => zd last), famO vs' R C (rowMix z y i), outer v' R vs', own1 o 2 1 (fun _ => I false [])], []))
                (fun i => s + 1 ≤ i ∧ i ≤ R) (fun i => R - i) rfl ?_ ?_
              · exact again (s + 1) ⟨Nat.le_refl _, by omega⟩ trivial mF (Seals.trans (Seals.own_cong (os := [_, _, _, _]) 2 (fun i => .one (vs' i)) rfl rfl fun i _ => by rw [outer_ex hps, hv's]) (Seals.trans (Seals.famcong (os := [_, _, _, _]) 1 rfl (ex s p) hfc fun _ _ _ _ e => ex_inj e) (Seals.nil _ _)))
              · rintro i ⟨hi1, hi2⟩
                refine len_own 2 rfl hv fun _ => ?_
                refine cmp_split _ rfl (fun hi => ?_) (fun hi => ?_)
                · have hiR : i < R := by omega
                  refine ar rfl mI ?_
                  refine loop_rule (X := Nat) (fun k' => ([(3, o), (5, v'), (6, l), (7, .bool (!odd)), (8, .int .i64 (s : Nat)), (9, .int .i64 (c : Nat)), (11, .int .i64 (i : Nat)), (12, .int .i64 (k' : Nat))], [own1 l 2 1 (fun _ => zd last), famO vs' R C (cellMix z y i c k'), outer v' R vs', own1 o 2 1 (fun _ => I false [])], []))
                    (fun k' => c + 1 ≤ k' ∧ k' ≤ C) (fun k' => C - k') rfl ?_ ?_
                  · refine again (c + 1) ⟨Nat.le_refl _, by omega⟩ trivial mF (Seals.famcong (os := [_, _, _, _]) 1 rfl (fun i => i) (fun a ha => ⟨ha, rfl, fun b hb => ?_⟩) fun _ _ _ _ e => e)
                    unfold cellMix rowMix
                    rw [if_neg (show ¬ (a = i ∧ c < b ∧ b < c + 1) by omega)]
                  · rintro k' ⟨hk1, hk2⟩
                    refine index_elem 2 rfl hv 0 rfl (by omega) ?_
                    refine load_one_elem 2 rfl 0 (by omega) (u := vs' 0) rfl ?_
                    refine len_fam 1 0 rfl (by omega) (hvs' 0 (by omega)) fun _ => ?_
                    refine cmp_split _ rfl (fun hc2 => ?_) (fun hc2 => ?_)
                    · have hkC : k' < C := by omega
                      have y1 := hys s c hsR hcC
                      have y2 := hys i k' hiR hkC
                      have y3 := hys i c hiR hcC
                      have y4 := hys s k' hsR hkC
                      refine draw_rule [0, 1, 2, 3, 4, 5, 6, 7, 8, 9, 10, 11, 12, 13, 14, 15, 16, 17, 18, 20, 21, 22, 23, 24, 25, 26, 27, 28, 29, 30, 31, 32, 33, 36, 19, 34, 35, 37, 38, 39] [0, 1, 2, 3, 4, 5, 6, 7, 8, 9, 10, 11, 12, 13, 14, 15, 16, 17, 18, 19, 20, 21, 22, 23, 24, 25, 26, 27, 28, 29, 30, 31, 32, 33, 34, 35, 36, 37, 38, 39] (by kernel_rfl) (by kernel_rfl) ?_
                      refine index_elem 2 rfl hv i rfl (by omega) ?_
                      refine load_one_elem 2 rfl i (by omega) (u := vs' i) rfl ?_
                      refine index_elem 2 rfl hv s rfl (by omega) ?_
                      refine load_one_elem 2 rfl s (by omega) (u := vs' s) rfl ?_
                      refine index_fam 1 s rfl (by omega) (hvs' s (by omega)) c rfl (by omega) ?_
                      refine load_fam 1 s c rfl (by omega) (by omega) (y s c) ?_ fun u1 => ?_
                      · unfold cellMix; rw [if_pos (by omega), hzs _ _ (by omega)]
                      refine index_elem 2 rfl hv i rfl (by omega) ?_
                      refine load_one_elem 2 rfl i (by omega) (u := vs' i) rfl ?_
                      refine index_fam 1 i rfl (by omega) (hvs' i (by omega)) k' rfl (by omega) ?_
                      refine load_fam 1 i k' rfl (by omega) (by omega) (y i k') ?_ fun u2 => ?_
                      · unfold cellMix; rw [if_neg (by omega), if_neg (by omega)]
                      refine index_elem 2 rfl hv i rfl (by omega) ?_
                      refine load_one_elem 2 rfl i (by omega) (u := vs' i) rfl ?_
                      refine index_fam 1 i rfl (by omega) (hvs' i (by omega)) c rfl (by omega) ?_
                      refine load_fam 1 i c rfl (by omega) (by omega) (y i c) ?_ fun u3 => ?_
                      · unfold cellMix; rw [if_neg (by omega), if_neg (by omega)]
                      refine index_elem 2 rfl hv s rfl (by omega) ?_
                      refine load_one_elem 2 rfl s (by omega) (u := vs' s) rfl ?_
                      refine index_fam 1 s rfl (by omega) (hvs' s (by omega)) k' rfl (by omega) ?_
                      refine load_fam 1 s k' rfl (by omega) (by omega) (y s k') ?_ fun u4 => ?_
                      · unfold cellMix; rw [if_pos (by omega), hzs _ _ (by omega)]
                      refine load_box (d := zd last) 0 rfl hl rfl (load_I _ _) fun w4 => ?_
                      refine call_fn (zMulZ u1 u2 (y s c) (y i k') _ _ y1 y2 (by omega) (by omega)) (Seals.refl _ _) mS ?_
                      rintro w1 _ _ ⟨rfl, rfl⟩
                      refine call_fn (zMulZ u3 u4 (y i c) (y s k') _ _ y3 y4 (by omega) (by omega)) (Seals.refl _ _) mS ?_
                      rintro w2 _ _ ⟨rfl, rfl⟩
                      refine call_fn (zSubZ w1 w2 (y s c * y i k') (y i c * y s k') _ _ (y1.mul y2) (y3.mul y4) (by omega) (by omega)) (Seals.refl _ _) mS ?_
                      rintro w3 _ _ ⟨rfl, rfl⟩
                      refine call_fn (quot_meets w3 w4 (y s c * y i k' - y i c * y s k') last _ _ (sz_sub (y1.mul y2) (y3.mul y4)) hsz.l (by omega) (by omega) hsz.ne) (Seals.refl _ _) mS ?_
                      rintro w5 _ _ ⟨rfl, rfl⟩
                      refine index_fam 1 i rfl (by omega) (hvs' i (by omega)) k' rfl (by omega) ?_
                      refine store_mx 1 i k' rfl (by omega) (by omega) _ (cellMix z y i c (k' + 1)) (Reads.fact mM) (fun a b ha hb => ?_) ?_
                      · unfold cellMix
                        by_cases e : a = i ∧ b = k'
                        · rw [if_pos e, e.1, e.2, if_neg (by omega), if_pos (by omega), ← hz]
                          unfold elim; rw [if_neg (by omega), if_neg (by omega), if_neg (by omega)]
                        · rw [if_neg e]
                          by_cases e1 : a < i
                          · rw [if_pos e1, if_pos e1]
                          · rw [if_neg e1, if_neg e1]
                            by_cases e2 : a = i ∧ c < b ∧ b < k'
                            · rw [if_pos e2, if_pos (by omega)]
                            · rw [if_neg e2, if_neg (by omega)]
                      refine ar rfl mI ?_
                      exact again (k' + 1) ⟨by omega, by omega⟩ (by simp only; omega) mF (Seals.nil _ _)
                    · have hkC : k' = C := by omega
                      refine index_elem 2 rfl hv i rfl (by omega) ?_
                      refine load_one_elem 2 rfl i (by omega) (u := vs' i) rfl ?_
                      refine build0 (da := .one (.bool false)) (db := U (lims 0)) (fun S w => ⟨[.bool false], [.slice none 0 0], rfl, rd_false S w, by rw [lims_zero]; exact rd_nil S w 1 _⟩) fun zz => ?_
                      refine index_fam 1 i rfl (by omega) (hvs' i (by omega)) c rfl (by omega) ?_
                      refine store_mx 1 i c rfl (by omega) (by omega) 0 (rowMix z y (i + 1)) (Reads.fact (d := zd 0) mM) (fun a b ha hb => ?_) ?_
                      · unfold cellMix rowMix
                        by_cases e : a = i ∧ b = c
                        · rw [if_pos e, e.1, e.2, if_pos (by omega), ← hz]
                          unfold elim; rw [if_neg (by omega), if_neg (by omega), if_pos rfl]
                        · rw [if_neg e]
                          by_cases e1 : a < i
                          · rw [if_pos e1, if_pos (by omega)]
                          · rw [if_neg e1]
                            by_cases e2 : a = i ∧ c < b ∧ b < k'
                            · rw [if_pos e2, if_pos (by omega)]
                            · rw [if_neg e2]
                              by_cases e3 : a = i
                              · rw [if_pos (by omega), ← hz]
                                unfold elim; rw [if_neg (by omega), if_pos (by omega)]
                              · rw [if_neg (by omega)]
                      refine ar rfl mI ?_
                      exact again (i + 1) ⟨by omega, by omega⟩ (by simp only; omega) mF (Seals.nil _ _)
                · have hiR : R = i := by omega
                  subst hiR
                  refine index_elem 2 rfl hv s rfl (by omega) ?_
                  refine load_one_elem 2 rfl s (by omega) (u := vs' s) rfl ?_
                  refine index_fam 1 s rfl (by omega) (hvs' s (by omega)) c rfl (by omega) ?_
                  refine load_fam 1 s c rfl (by omega) (by omega) (y s c) ?_ fun u1 => ?_
                  · unfold rowMix; rw [if_pos (by omega), hzs _ _ (by omega)]
                  refine store_box (d := zd (y s c)) 0 rfl hl rfl (by kernel_rfl) ?_ ?_; exact Reads.fact mM
                  refine ar rfl mI ?_
                  refine ar rfl mI ?_
                  refine again (⟨z, y s c, (!odd), s + 1⟩, c + 1, vs') ⟨by simp only; omega, by simp only; omega, hvs', ?_, ?_⟩ (by simp only; omega) mF (Seals.trans (Seals.box0 rfl) (Seals.trans (Seals.famcong (os := [_, _, _, _]) 1 rfl (fun i => i) (fun a ha => ⟨ha, rfl, fun b hb => ?_⟩) fun _ _ _ _ e => e) (Seals.nil _ _)))
                  · exact hstep _
                  · simp only
                    rw [← hod]; exact hfin
                  · unfold rowMix; rw [if_pos ha]
            · refine ord_go [0, 1, 4, 5, 6, 7, 8, 9, 10, 11, 12, 13, 2, 3, 14, 15] (by kernel_rfl) (by kernel_rfl) ?_
              refine index_elem 2 rfl hv s rfl (by omega) ?_
              refine load_one_elem 2 rfl s (by omega) (u := vs s) rfl ?_
              refine index_elem 2 rfl hv p rfl (by omega) ?_
              refine load_one_elem 2 rfl p (by omega) (u := vs p) rfl ?_
              refine index_elem 2 rfl hv p rfl (by omega) ?_
              refine store_elem (d := .one (vs s)) 2 rfl p (by omega) rfl (by kernel_rfl) (Reads.one (hvs s (by omega)).one) ?_
              refine index_elem 2 rfl hv s rfl (by omega) ?_
              refine store_elem (d := .one (vs p)) 2 rfl s (by omega) rfl (by kernel_rfl) (Reads.one (hvs p (by omega)).one) ?_
              have hod : (if p = s then odd else !odd) = (!odd) := by rw [if_neg hps]
              refine ar rfl mI ?_
              refine loop_rule (X := Nat) (fun i => ([(3, o), (5, v'), (6, l), (7, .bool (!odd)), (8, .int .i64 (s : Nat)), (9, .int .i64 (c : Nat)), (11, .int .i64 (i : Nat))], [own1 l 2 1 (fun _ => zd last), famO vs' R C (rowMix z y i), outer v' R vs', own1 o 2 1 (fun _ => I false [])], []))
                (fun i => s + 1 ≤ i ∧ i ≤ R) (fun i => R - i) rfl ?_ ?_
              · exact again (s + 1) ⟨Nat.le_refl _, by omega⟩ trivial mF (Seals.trans (Seals.own_cong (os := [_, _, _, _]) 2 (fun i => .one (vs' i)) rfl rfl fun i _ => by rw [outer_ex hps, hv's]) (Seals.trans (Seals.famcong (os := [_, _, _, _]) 1 rfl (ex s p) hfc fun _ _ _ _ e => ex_inj e) (Seals.nil _ _)))
              · rintro i ⟨hi1, hi2⟩
                refine len_own 2 rfl hv fun _ => ?_
                refine cmp_split _ rfl (fun hi => ?_) (fun hi => ?_)
                · have hiR : i < R := by omega
                  refine ar rfl mI ?_
                  refine loop_rule (X := Nat) (fun k' => ([(3, o), (5, v'), (6, l), (7, .bool (!odd)), (8, .int .i64 (s : Nat)), (9, .int .i64 (c : Nat)), (11, .int .i64 (i : Nat)), (12, .int .i64 (k' : Nat))], [own1 l 2 1 (fun _ => zd last), famO vs' R C (cellMix z y i c k'), outer v' R vs', own1 o 2 1 (fun _ => I false [])], []))
                    (fun k' => c + 1 ≤ k' ∧ k' ≤ C) (fun k' => C - k') rfl ?_ ?_
                  · refine again (c + 1) ⟨Nat.le_refl _, by omega⟩ trivial mF (Seals.famcong (os := [_, _, _, _]) 1 rfl (fun i => i) (fun a ha => ⟨ha, rfl, fun b hb => ?_⟩) fun _ _ _ _ e => e)
                    unfold cellMix rowMix
                    rw [if_neg (show ¬ (a = i ∧ c < b ∧ b < c + 1) by omega)]
                  · rintro k' ⟨hk1, hk2⟩
                    refine index_elem 2 rfl hv 0 rfl (by omega) ?_
                    refine load_one_elem 2 rfl 0 (by omega) (u := vs' 0) rfl ?_
                    refine len_fam 1 0 rfl (by omega) (hvs' 0 (by omega)) fun _ => ?_
                    refine cmp_split _ rfl (fun hc2 => ?_) (fun hc2 => ?_)
                    · have hkC : k' < C := by omega
                      have y1 := hys s c hsR hcC
                      have y2 := hys i k' hiR hkC
                      have y3 := hys i c hiR hcC
                      have y4 := hys s k' hsR hkC
                      refine draw_rule [0, 1, 2, 3, 4, 5, 6, 7, 8, 9, 10, 11, 12, 13, 14, 15, 16, 17, 18, 20, 21, 22, 23, 24, 25, 26, 27, 28, 29, 30, 31, 32, 33, 36, 19, 34, 35, 37, 38, 39] [0, 1, 2, 3, 4, 5, 6, 7, 8, 9, 10, 11, 12, 13, 14, 15, 16, 17, 18, 19, 20, 21, 22, 23, 24, 25, 26, 27, 28, 29, 30, 31, 32, 33, 34, 35, 36, 37, 38, 39] (by kernel_rfl) (by kernel_rfl) ?_
                      refine index_elem 2 rfl hv i rfl (by omega) ?_
                      refine load_one_elem 2 rfl i (by omega) (u := vs' i) rfl ?_
                      refine index_elem 2 rfl hv s rfl (by omega) ?_
                      refine load_one_elem 2 rfl s (by omega) (u := vs' s) rfl ?_
                      refine index_fam 1 s rfl (by omega) (hvs' s (by omega)) c rfl (by omega) ?_
                      refine load_fam 1 s c rfl (by omega) (by omega) (y s c) ?_ fun u1 => ?_
                      · unfold cellMix; rw [if_pos (by omega), hzs _ _ (by omega)]
                      refine index_elem 2 rfl hv i rfl (by omega) ?_
                      refine load_one_elem 2 rfl i (by omega) (u := vs' i) rfl ?_
                      refine index_fam 1 i rfl (by omega) (hvs' i (by omega)) k' rfl (by omega) ?_
                      refine load_fam 1 i k' rfl (by omega) (by omega) (y i k') ?_ fun u2 => ?_
                      · unfold cellMix; rw [if_neg (by omega), if_neg (by omega)]
                      refine index_elem 2 rfl hv i rfl (by omega) ?_
                      refine load_one_elem 2 rfl i (by omega) (u := vs' i) rfl ?_
                      refine index_fam 1 i rfl (by omega) (hvs' i (by omega)) c rfl (by omega) ?_
                      refine load_fam 1 i c rfl (by omega) (by omega) (y i c) ?_ fun u3 => ?_
                      · unfold cellMix; rw [if_neg (by omega), if_neg (by omega)]
                      refine index_elem 2 rfl hv s rfl (by omega) ?_
                      refine load_one_elem 2 rfl s (by omega) (u := vs' s) rfl ?_
                      refine index_fam 1 s rfl (by omega) (hvs' s (by omega)) k' rfl (by omega) ?_
                      refine load_fam 1 s k' rfl (by omega) (by omega) (y s k') ?_ fun u4 => ?_
                      · unfold cellMix; rw [if_pos (by omega), hzs _ _ (by omega)]
                      refine load_box (d := zd last) 0 rfl hl rfl (load_I _ _) fun w4 => ?_
                      refine call_fn (zMulZ u1 u2 (y s c) (y i k') _ _ y1 y2 (by omega) (by omega)) (Seals.refl _ _) mS ?_
                      rintro w1 _ _ ⟨rfl, rfl⟩
                      refine call_fn (zMulZ u3 u4 (y i c) (y s k') _ _ y3 y4 (by omega) (by omega)) (Seals.refl _ _) mS ?_
                      rintro w2 _ _ ⟨rfl, rfl⟩
                      refine call_fn (zSubZ w1 w2 (y s c * y i k') (y i c * y s k') _ _ (y1.mul y2) (y3.mul y4) (by omega) (by omega)) (Seals.refl _ _) mS ?_
                      rintro w3 _ _ ⟨rfl, rfl⟩
                      refine call_fn (quot_meets w3 w4 (y s c * y i k' - y i c * y s k') last _ _ (sz_sub (y1.mul y2) (y3.mul y4)) hsz.l (by omega) (by omega) hsz.ne) (Seals.refl _ _) mS ?_
                      rintro w5 _ _ ⟨rfl, rfl⟩
                      refine index_fam 1 i rfl (by omega) (hvs' i (by omega)) k' rfl (by omega) ?_
                      refine store_mx 1 i k' rfl (by omega) (by omega) _ (cellMix z y i c (k' + 1)) (Reads.fact mM) (fun a b ha hb => ?_) ?_
                      · unfold cellMix
                        by_cases e : a = i ∧ b = k'
                        · rw [if_pos e, e.1, e.2, if_neg (by omega), if_pos (by omega), ← hz]
                          unfold elim; rw [if_neg (by omega), if_neg (by omega), if_neg (by omega)]
                        · rw [if_neg e]
                          by_cases e1 : a < i
                          · rw [if_pos e1, if_pos e1]
                          · rw [if_neg e1, if_neg e1]
                            by_cases e2 : a = i ∧ c < b ∧ b < k'
                            · rw [if_pos e2, if_pos (by omega)]
                            · rw [if_neg e2, if_neg (by omega)]
                      refine ar rfl mI ?_
                      exact again (k' + 1) ⟨by omega, by omega⟩ (by simp only; omega) mF (Seals.nil _ _)
                    · have hkC : k' = C := by omega
                      refine index_elem 2 rfl hv i rfl (by omega) ?_
                      refine load_one_elem 2 rfl i (by omega) (u := vs' i) rfl ?_
                      refine build0 (da := .one (.bool false)) (db := U (lims 0)) (fun S w => ⟨[.bool false], [.slice none 0 0], rfl, rd_false S w, by rw [lims_zero]; exact rd_nil S w 1 _⟩) fun zz => ?_
                      refine index_fam 1 i rfl (by omega) (hvs' i (by omega)) c rfl (by omega) ?_
                      refine store_mx 1 i c rfl (by omega) (by omega) 0 (rowMix z y (i + 1)) (Reads.fact (d := zd 0) mM) (fun a b ha hb => ?_) ?_
                      · unfold cellMix rowMix
                        by_cases e : a = i ∧ b = c
                        · rw [if_pos e, e.1, e.2, if_pos (by omega), ← hz]
                          unfold elim; rw [if_neg (by omega), if_neg (by omega), if_pos rfl]
                        · rw [if_neg e]
                          by_cases e1 : a < i
                          · rw [if_pos e1, if_pos (by omega)]
                          · rw [if_neg e1]
                            by_cases e2 : a = i ∧ c < b ∧ b < k'
                            · rw [if_pos e2, if_pos (by omega)]
                            · rw [if_neg e2]
                              by_cases e3 : a = i
                              · rw [if_pos (by omega), ← hz]
                                unfold elim; rw [if_neg (by omega), if_pos (by omega)]
                              · rw [if_neg (by omega)]
                      refine ar rfl mI ?_
                      exact again (i + 1) ⟨by omega, by omega⟩ (by simp only; omega) mF (Seals.nil _ _)
                · have hiR : R = i := by omega
                  subst hiR
                  refine index_elem 2 rfl hv s rfl (by omega) ?_
                  refine load_one_elem 2 rfl s (by omega) (u := vs' s) rfl ?_
                  refine index_fam 1 s rfl (by omega) (hvs' s (by omega)) c rfl (by omega) ?_
                  refine load_fam 1 s c rfl (by omega) (by omega) (y s c) ?_ fun u1 => ?_
                  · unfold rowMix; rw [if_pos (by omega), hzs _ _ (by omega)]
                  refine store_box (d := zd (y s c)) 0 rfl hl rfl (by kernel_rfl) ?_ ?_; exact Reads.fact mM
                  refine ar rfl mI ?_
                  refine ar rfl mI ?_
                  refine again (⟨z, y s c, (!odd), s + 1⟩, c + 1, vs') ⟨by simp only; omega, by simp only; omega, hvs', ?_, ?_⟩ (by simp only; omega) mF (Seals.trans (Seals.box0 rfl) (Seals.trans (Seals.famcong (os := [_, _, _, _]) 1 rfl (fun i => i) (fun a ha => ⟨ha, rfl, fun b hb => ?_⟩) fun _ _ _ _ e => e) (Seals.nil _ _)))
                  · exact hstep _
                  · simp only
                    rw [← hod]; exact hfin
                  · unfold rowMix; rw [if_pos ha]
        · have hps : p = s := by omega
          have hod : (if p = s then odd else !odd) = (odd) := by rw [if_pos hps]
          refine ar rfl mI ?_
          refine loop_rule (X := Nat) (fun i => ([(3, o), (5, v'), (6, l), (7, .bool (odd)), (8, .int .i64 (s : Nat)), (9, .int .i64 (c : Nat)), (11, .int .i64 (i : Nat))], [own1 l 2 1 (fun _ => zd last), famO vs' R C (rowMix z y i), outer v' R vs', own1 o 2 1 (fun _ => I false [])], []))
            (fun i => s + 1 ≤ i ∧ i ≤ R) (fun i => R - i) rfl ?_ ?_
          · exact again (s + 1) ⟨Nat.le_refl _, by omega⟩ trivial mF (Seals.trans (Seals.own_cong (os := [_, _, _, _]) 2 (fun i => .one (vs' i)) rfl rfl fun i _ => by rw [hv's, hps, ex_same]) (Seals.trans (Seals.famcong (os := [_, _, _, _]) 1 rfl (ex s p) hfc fun _ _ _ _ e => ex_inj e) (Seals.nil _ _)))
          · rintro i ⟨hi1, hi2⟩
            refine len_own 2 rfl hv fun _ => ?_
            refine cmp_split _ rfl (fun hi => ?_) (fun hi => ?_)
            · have hiR : i < R := by omega
              refine ar rfl mI ?_
              refine loop_rule (X := Nat) (fun k' => ([(3, o), (5, v'), (6, l), (7, .bool (odd)), (8, .int .i64 (s : Nat)), (9, .int .i64 (c : Nat)), (11, .int .i64 (i : Nat)), (12, .int .i64 (k' : Nat))], [own1 l 2 1 (fun _ => zd last), famO vs' R C (cellMix z y i c k'), outer v' R vs', own1 o 2 1 (fun _ => I false [])], []))
                (fun k' => c + 1 ≤ k' ∧ k' ≤ C) (fun k' => C - k') rfl ?_ ?_
              · refine again (c + 1) ⟨Nat.le_refl _, by omega⟩ trivial mF (Seals.famcong (os := [_, _, _, _]) 1 rfl (fun i => i) (fun a ha => ⟨ha, rfl, fun b hb => ?_⟩) fun _ _ _ _ e => e)
                unfold cellMix rowMix
                rw [if_neg (show ¬ (a = i ∧ c < b ∧ b < c + 1) by omega)]
              · rintro k' ⟨hk1, hk2⟩
                refine index_elem 2 rfl hv 0 rfl (by omega) ?_
                refine load_one_elem 2 rfl 0 (by omega) (u := vs' 0) rfl ?_
                refine len_fam 1 0 rfl (by omega) (hvs' 0 (by omega)) fun _ => ?_
                refine cmp_split _ rfl (fun hc2 => ?_) (fun hc2 => ?_)
                · have hkC : k' < C := by omega
                  have y1 := hys s c hsR hcC
                  have y2 := hys i k' hiR hkC
                  have y3 := hys i c hiR hcC
                  have y4 := hys s k' hsR hkC
                  refine draw_rule [0, 1, 2, 3, 4, 5, 6, 7, 8, 9, 10, 11, 12, 13, 14, 15, 16, 17, 18, 20, 21, 22, 23, 24, 25, 26, 27, 28, 29, 30, 31, 32, 33, 36, 19, 34, 35, 37, 38, 39] [0, 1, 2, 3, 4, 5, 6, 7, 8, 9, 10, 11, 12, 13, 14, 15, 16, 17, 18, 19, 20, 21, 22, 23, 24, 25, 26, 27, 28, 29, 30, 31, 32, 33, 34, 35, 36, 37, 38, 39] (by kernel_rfl) (by kernel_rfl) ?_
                  refine index_elem 2 rfl hv i rfl (by omega) ?_
                  refine load_one_elem 2 rfl i (by omega) (u := vs' i) rfl ?_
                  refine index_elem 2 rfl hv s rfl (by omega) ?_
                  refine load_one_elem 2 rfl s (by omega) (u := vs' s) rfl ?_
                  refine index_fam 1 s rfl (by omega) (hvs' s (by omega)) c rfl (by omega) ?_
                  refine load_fam 1 s c rfl (by omega) (by omega) (y s c) ?_ fun u1 => ?_
                  · unfold cellMix; rw [if_pos (by omega), hzs _ _ (by omega)]
                  refine index_elem 2 rfl hv i rfl (by omega) ?_
                  refine load_one_elem 2 rfl i (by omega) (u := vs' i) rfl ?_
                  refine index_fam 1 i rfl (by omega) (hvs' i (by omega)) k' rfl (by omega) ?_
                  refine load_fam 1 i k' rfl (by omega) (by omega) (y i k') ?_ fun u2 => ?_
                  · unfold cellMix; rw [if_neg (by omega), if_neg (by omega)]
                  refine index_elem 2 rfl hv i rfl (by omega) ?_
                  refine load_one_elem 2 rfl i (by omega) (u := vs' i) rfl ?_
                  refine index_fam 1 i rfl (by omega) (hvs' i (by omega)) c rfl (by omega) ?_
                  refine load_fam 1 i c rfl (by omega) (by omega) (y i c) ?_ fun u3 => ?_
                  · unfold cellMix; rw [if_neg (by omega), if_neg (by omega)]
                  refine index_elem 2 rfl hv s rfl (by omega) ?_
                  refine load_one_elem 2 rfl s (by omega) (u := vs' s) rfl ?_
                  refine index_fam 1 s rfl (by omega) (hvs' s (by omega)) k' rfl (by omega) ?_
                  refine load_fam 1 s k' rfl (by omega) (by omega) (y s k') ?_ fun u4 => ?_
                  · unfold cellMix; rw [if_pos (by omega), hzs _ _ (by omega)]
                  refine load_box (d := zd last) 0 rfl hl rfl (load_I _ _) fun w4 => ?_
                  refine call_fn (zMulZ u1 u2 (y s c) (y i k') _ _ y1 y2 (by omega) (by omega)) (Seals.refl _ _) mS ?_
                  rintro w1 _ _ ⟨rfl, rfl⟩
                  refine call_fn (zMulZ u3 u4 (y i c) (y s k') _ _ y3 y4 (by omega) (by omega)) (Seals.refl _ _) mS ?_
                  rintro w2 _ _ ⟨rfl, rfl⟩
                  refine call_fn (zSubZ w1 w2 (y s c * y i k') (y i c * y s k') _ _ (y1.mul y2) (y3.mul y4) (by omega) (by omega)) (Seals.refl _ _) mS ?_
                  rintro w3 _ _ ⟨rfl, rfl⟩
                  refine call_fn (quot_meets w3 w4 (y s c * y i k' - y i c * y s k') last _ _ (sz_sub (y1.mul y2) (y3.mul y4)) hsz.l (by omega) (by omega) hsz.ne) (Seals.refl _ _) mS ?_
                  rintro w5 _ _ ⟨rfl, rfl⟩
                  refine index_fam 1 i rfl (by omega) (hvs' i (by omega)) k' rfl (by omega) ?_
                  refine store_mx 1 i k' rfl (by omega) (by omega) _ (cellMix z y i c (k' + 1)) (Reads.fact mM) (fun a b ha hb => ?_) ?_
                  · unfold cellMix
                    by_cases e : a = i ∧ b = k'
                    · rw [if_pos e, e.1, e.2, if_neg (by omega), if_pos (by omega), ← hz]
                      unfold elim; rw [if_neg (by omega), if_neg (by omega), if_neg (by omega)]
                    · rw [if_neg e]
                      by_cases e1 : a < i
                      · rw [if_pos e1, if_pos e1]
                      · rw [if_neg e1, if_neg e1]
                        by_cases e2 : a = i ∧ c < b ∧ b < k'
                        · rw [if_pos e2, if_pos (by omega)]
                        · rw [if_neg e2, if_neg (by omega)]
                  refine ar rfl mI ?_
                  exact again (k' + 1) ⟨by omega, by omega⟩ (by simp only; omega) mF (Seals.nil _ _)
                · have hkC : k' = C := by omega
                  refine index_elem 2 rfl hv i rfl (by omega) ?_
                  refine load_one_elem 2 rfl i (by omega) (u := vs' i) rfl ?_
                  refine build0 (da := .one (.bool false)) (db := U (lims 0)) (fun S w => ⟨[.bool false], [.slice none 0 0], rfl, rd_false S w, by rw [lims_zero]; exact rd_nil S w 1 _⟩) fun zz => ?_
                  refine index_fam 1 i rfl (by omega) (hvs' i (by omega)) c rfl (by omega) ?_
                  refine store_mx 1 i c rfl (by omega) (by omega) 0 (rowMix z y (i + 1)) (Reads.fact (d := zd 0) mM) (fun a b ha hb => ?_) ?_
                  · unfold cellMix rowMix
                    by_cases e : a = i ∧ b = c
                    · rw [if_pos e, e.1, e.2, if_pos (by omega), ← hz]
                      unfold elim; rw [if_neg (by omega), if_neg (by omega), if_pos rfl]
                    · rw [if_neg e]
                      by_cases e1 : a < i
                      · rw [if_pos e1, if_pos (by omega)]
                      · rw [if_neg e1]
                        by_cases e2 : a = i ∧ c < b ∧ b < k'
                        · rw [if_pos e2, if_pos (by omega)]
                        · rw [if_neg e2]
                          by_cases e3 : a = i
                          · rw [if_pos (by omega), ← hz]
                            unfold elim; rw [if_neg (by omega), if_pos (by omega)]
                          · rw [if_neg (by omega)]
                  refine ar rfl mI ?_
                  exact again (i + 1) ⟨by omega, by omega⟩ (by simp only; omega) mF (Seals.nil _ _)
            · have hiR : R = i := by omega
              subst hiR
              refine index_elem 2 rfl hv s rfl (by omega) ?_
              refine load_one_elem 2 rfl s (by omega) (u := vs' s) rfl ?_
              refine index_fam 1 s rfl (by omega) (hvs' s (by omega)) c rfl (by omega) ?_
              refine load_fam 1 s c rfl (by omega) (by omega) (y s c) ?_ fun u1 => ?_
              · unfold rowMix; rw [if_pos (by omega), hzs _ _ (by omega)]
              refine store_box (d := zd (y s c)) 0 rfl hl rfl (by kernel_rfl) ?_ ?_; exact Reads.fact mM
              refine ar rfl mI ?_
              refine ar rfl mI ?_
              refine again (⟨z, y s c, (odd), s + 1⟩, c + 1, vs') ⟨by simp only; omega, by simp only; omega, hvs', ?_, ?_⟩ (by simp only; omega) mF (Seals.trans (Seals.box0 rfl) (Seals.trans (Seals.famcong (os := [_, _, _, _]) 1 rfl (fun i => i) (fun a ha => ⟨ha, rfl, fun b hb => ?_⟩) fun _ _ _ _ e => e) (Seals.nil _ _)))
              · exact hstep _
              · simp only
                rw [← hod]; exact hfin
              · unfold rowMix; rw [if_pos ha]
end Go.Proofs.Ytabdfhdddmbmlaa

namespace Go.Proofs.Ytabdfhdddmbmlaa
open Go.RowKit
theorem mdet_meets (v : Value) (m : List Row) (k : Nat) (hr : square m) (hf : Fits k m) (lm : m.length ≤ 1048576) (hk : Eb k m.length ≤ 17179869184) :
    Meets Try.prog 58 [v] [(v, W m)] (fun r os fs => os = [] ∧ fs = [(r, zd (det m.length (mx (ww m))))]) := by
  have hsq := hr.2
  refine meets_of_vc Try.func58 (by kernel_rfl) rfl (by kernel_rfl) (Nat.le_of_ble_eq_true rfl) ?_
  refine alloc_rule (d := I false []) fun o ho => ?_
  refine call_fn (bareiss_meets v m k hr.1 hf lm (by omega) (by rw [← hsq]; exact hk)) (Seals.refl _ _) mS ?_
  rintro _ _ _ ⟨rfl, hsz, q, rfl, rfl⟩
  rw [← hsq] at hsz ⊢
  have hd := bar_det m.length (mx (ww m))
  generalize bar m.length m.length (mx (ww m)) = st at *
  refine alloc_rule (d := I false []) fun l hl => ?_
  refine store_box (d := zd st.last) 0 rfl hl rfl (by kernel_rfl) ?_ ?_; exact Reads.fact mM
  refine len_fact mM fun _ => ?_
  refine cmp_split _ rfl (fun hlt => ?_) (fun hlt => ?_)
  · rw [if_pos (by omega)] at hd
    refine build0 (da := .one (.bool false)) (db := U (lims 0)) (fun S w => ⟨[.bool false], [.slice none 0 0], rfl, rd_false S w, by rw [lims_zero]; exact rd_nil S w 1 _⟩) fun z => ?_
    refine store_box (d := zd 0) 1 rfl ho rfl (by kernel_rfl) ?_ ?_; exact Reads.fact mM
    refine load_box (d := zd 0) 1 rfl ho rfl (load_I _ _) fun r => ?_
    rw [hd]
    exact fin ⟨rfl, rfl⟩ (Seals.trans (Seals.drop 0 _ _) (Seals.trans (Seals.drop 0 _ _) (Seals.sub mS)))
  · rw [if_neg (by omega)] at hd
    cases hodd : st.odd with
    | true =>
      rw [hodd, if_pos rfl] at hd
      refine load_box (d := zd st.last) 0 rfl hl rfl (load_I _ _) fun u => ?_
      refine call_fn (zNegZ u st.last _ hsz (by omega)) (Seals.refl _ _) mS ?_
      rintro w _ _ ⟨rfl, rfl⟩
      refine store_box (d := zd (-st.last)) 1 rfl ho rfl (by kernel_rfl) ?_ ?_; exact Reads.fact mM
      refine load_box (d := zd (-st.last)) 1 rfl ho rfl (load_I _ _) fun r => ?_
      rw [hd]
      exact fin ⟨rfl, rfl⟩ (Seals.trans (Seals.drop 0 _ _) (Seals.trans (Seals.drop 0 _ _) (Seals.sub mS)))
    | false =>
      rw [hodd, if_neg (by simp)] at hd
      refine load_box (d := zd st.last) 0 rfl hl rfl (load_I _ _) fun u => ?_
      refine call_fn (zNormZ u st.last _ hsz (by omega)) (Seals.refl _ _) mS ?_
      rintro w _ _ ⟨rfl, rfl⟩
      refine store_box (d := zd st.last) 1 rfl ho rfl (by kernel_rfl) ?_ ?_; exact Reads.fact mM
      refine load_box (d := zd st.last) 1 rfl ho rfl (load_I _ _) fun r => ?_
      rw [hd]
      exact fin ⟨rfl, rfl⟩ (Seals.trans (Seals.drop 0 _ _) (Seals.trans (Seals.drop 0 _ _) (Seals.sub mS)))
theorem mDet_meets (v : Value) (m : List Row) (k : Nat) (hf : Fits k m) (lm : m.length ≤ 1048576) (hk : Eb k m.length ≤ 17179869184) :
    Meets Try.prog 29 [v] [(v, W m)] (fun r os fs => os = [] ∧ ∃ q, r = .tuple #[q, .int .i64 (if square m then 0 else 1)] ∧ fs = [(q, zd (if square m then det m.length (mx (ww m)) else 0))]) := by
  refine meets_of_vc Try.func29 (by kernel_rfl) rfl (by kernel_rfl) (Nat.le_of_ble_eq_true rfl) ?_
  refine alloc_rule (d := I false []) fun o ho => ?_
  refine call_fn (mSquare_meets v m) (Seals.refl _ _) mS ?_
  rintro _ _ _ ⟨rfl, rfl, rfl⟩
  by_cases hs : square m
  · rw [decide_eq_true hs, if_pos hs, if_pos hs]
    refine call_fn (mdet_meets v m k hs hf lm hk) (Seals.refl _ _) mS ?_
    rintro w _ _ ⟨rfl, rfl⟩
    refine store_box (d := zd (det m.length (mx (ww m)))) 0 rfl ho rfl (by kernel_rfl) ?_ ?_; exact Reads.fact mM
    refine load_box (d := zd (det m.length (mx (ww m)))) 0 rfl ho rfl (load_I _ _) fun r => ?_
    exact fin ⟨rfl, r, rfl, rfl⟩ (Seals.trans (Seals.drop 0 _ _) (Seals.sub mS))
  · rw [decide_eq_false hs, if_neg hs, if_neg hs]
    refine build0 (da := .one (.bool false)) (db := U (lims 0)) (fun S w => ⟨[.bool false], [.slice none 0 0], rfl, rd_false S w, by rw [lims_zero]; exact rd_nil S w 1 _⟩) fun z => ?_
    refine store_box (d := zd 0) 0 rfl ho rfl (by kernel_rfl) ?_ ?_; exact Reads.fact mM
    refine load_box (d := zd 0) 0 rfl ho rfl (load_I _ _) fun r => ?_
    exact fin ⟨rfl, r, rfl, rfl⟩ (Seals.trans (Seals.drop 0 _ _) (Seals.sub mS))
end Go.Proofs.Ytabdfhdddmbmlaa

namespace Go.Proofs.Ytabdfhdddmbmlaa
open Go.RowKit
theorem info_n : (Try.prog.info? 3).map (fun i => (i.zero, i.size, i.bytes)) = some (some (.int .i64 0), 1, 8) := by kernel_rfl
instance tzN : TZero Try.prog 3 (.one (.int .i64 0)) := tzero info_n fun _ _ => ⟨rfl, rfl⟩
/-- A matrix, told: square and fitting. -/
theorem matL_square {n : Nat} (x : Mx) (h : 0 < n) : square ((matL n n x).map (·.map cn)) := by
  have hl : ((matL n n x).map (·.map cn)).length = n := by rw [List.length_map, matL_len]
  have hr : ∀ r, r ∈ (matL n n x).map (·.map cn) → r.length = n := fun r hr => by
    obtain ⟨r', h1, rfl⟩ := List.mem_map.1 hr
    obtain ⟨i, _, rfl⟩ := List.mem_map.1 h1
    simp
  have h0 : (((matL n n x).map (·.map cn)).getD 0 []).length = n := hr _ (getD_mem [] (by omega))
  exact ⟨⟨by omega, fun r h => by rw [hr r h, h0]; exact ⟨by omega, rfl⟩⟩, by rw [hl, h0]⟩
theorem matL_fits {R C k : Nat} {x : Mx} (h : ∀ i j, i < R → j < C → sz (x i j) k) : Fits k ((matL R C x).map (·.map cn)) := fun r hr => by
  obtain ⟨r', h1, rfl⟩ := List.mem_map.1 hr
  obtain ⟨i, h2, rfl⟩ := List.mem_map.1 h1
  refine Fit_cn fun y hy => ?_
  obtain ⟨j, h3, rfl⟩ := List.mem_map.1 hy
  exact h i j (List.mem_range.1 h2) (List.mem_range.1 h3)
theorem matL_mx {R C i j : Nat} (x : Mx) (hi : i < R) (hj : j < C) : mx (ww ((matL R C x).map (·.map cn))) i j = x i j := by
  rw [ww_cn]; exact matL_at x hi hj
/-- The determinant of a matrix of one's own making. -/
theorem mdet_of (v : Value) (n k : Nat) (x : Mx) (h0 : 0 < n) (hx : ∀ i j, i < n → j < n → sz (x i j) k) (hn : n ≤ 1048576) (hk : Eb k n ≤ 17179869184) :
    Meets Try.prog 58 [v] [(v, wd (matL n n x))] (fun r os fs => os = [] ∧ fs = [(r, zd (det n x))]) := by
  have hl : ((matL n n x).map (·.map cn)).length = n := by rw [List.length_map, matL_len]
  have h := mdet_meets v ((matL n n x).map (·.map cn)) k (matL_square x h0) (matL_fits hx) (by omega) (by rw [hl]; exact hk)
  rw [hl, det_congr (B := x) fun i j hi hj => matL_mx x hi hj] at h
  exact h
/-- A sum of n products' size: the determinant's. -/
theorem det_sz : ∀ (n : Nat) {x : Mx} {k : Nat}, n < 1048576 → (∀ i j, i < n → j < n → sz (x i j) k) → sz (det n x) ((k + 1) * n + 1)
  | 0, x, k, _, _ => by unfold det; exact Nat.lt_of_lt_of_le (show (1 : Int).natAbs < 18446744073709551616 ^ 1 by decide) (Nat.pow_le_pow_right (by decide) (by omega))
  | n + 1, x, k, hn, h => by
    unfold det
    refine (isum_sz (e := k + ((k + 1) * n + 1)) (fun i hi => sg_sz i (sz.mul (h i 0 hi (by omega)) (det_sz n (by omega) fun a b ha hb => h _ _ (sk_lt ha) (sk_lt hb)))) (by omega)).mono ?_
    rw [Nat.mul_add]; omega
end Go.Proofs.Ytabdfhdddmbmlaa

namespace Go.Proofs.Ytabdfhdddmbmlaa
open Go.RowKit
theorem solAt_meets (pc pb pa : Value) (m : List Row) (b : Row) (c i j : Nat) (hi : i < m.length) (hj : j < (m.getD i []).length) (hb : i < b.length) :
    Meets Try.prog 72 [.int .i64 (i : Nat), .int .i64 (j : Nat), pc, pb, pa] [(pc, .ptr (.one (.int .i64 (c : Nat)))), (pb, .ptr (V b)), (pa, .ptr (W m))]
      (fun r os fs => os = [] ∧ fs = [(r, J (if j = c then b.getD i z0 else (m.getD i []).getD j z0))]) := by
  refine meets_of_vc Try.func72 (by kernel_rfl) rfl (by kernel_rfl) (Nat.le_of_ble_eq_true rfl) ?_
  refine alloc_rule (d := I false []) fun o ho => ?_
  refine load_one (u := .int .i64 (c : Nat)) mM ?_
  refine cmp_split _ rfl (fun h => ?_) (fun h => ?_)
  · rw [if_pos (by omega)]
    refine load_fact (d := V b) mM (load_V _) fun x1 => ?_
    refine index_fact mM i rfl hb fun a1 => ?_
    refine load_fact (d := J (b.getD i z0)) mM (load_J _) fun x2 => ?_
    refine store_box (d := J (b.getD i z0)) 0 rfl ho rfl (by kernel_rfl) ?_ ?_; exact Reads.fact mM
    refine load_box (d := J (b.getD i z0)) 0 rfl ho rfl (load_J _) fun r => ?_
    exact fin ⟨rfl, rfl⟩ (Seals.trans (Seals.drop 0 _ _) (Seals.sub mS))
  · rw [if_neg (by omega)]
    refine load_fact (d := W m) mM (load_W _) fun x1 => ?_
    refine index_fact mM i rfl hi fun a1 => ?_
    refine load_fact (d := V (m.getD i [])) mM (load_V _) fun x2 => ?_
    refine index_fact mM j rfl hj fun a2 => ?_
    refine load_fact (d := J ((m.getD i []).getD j z0)) mM (load_J _) fun x3 => ?_
    refine store_box (d := J ((m.getD i []).getD j z0)) 0 rfl ho rfl (by kernel_rfl) ?_ ?_; exact Reads.fact mM
    refine load_box (d := J ((m.getD i []).getD j z0)) 0 rfl ho rfl (load_J _) fun r => ?_
    exact fin ⟨rfl, rfl⟩ (Seals.trans (Seals.drop 0 _ _) (Seals.sub mS))
/-- What solves, its divisor, what is told. -/
def msolve (m : List Row) (b : Row) : List Int × Int × Int :=
  if ¬ (square m ∧ b.length = m.length) then ([], 0, 1)
  else if det m.length (mx (ww m)) = 0 then ([], 0, 8)
  else ((List.range m.length).map fun c => det m.length (cw (mx (ww m)) c fun i => (vv b).getD i 0), det m.length (mx (ww m)), 0)
theorem Eb_lin (k : Nat) : ∀ c, (k + 1) * (c + 1) ≤ Eb k c := fun c => by
  induction c with
  | zero => simp [Eb]
  | succ c ih => simp only [Eb]; rw [Nat.mul_add]; have : k + 1 ≤ (k + 1) * (c + 1) := Nat.le_mul_of_pos_right _ (by omega); omega
theorem Knw.vd_of {os : List Own} {fs : List Fact} {v : Value} {n : Nat} {g : Nat → Int} (h : Knw os fs v (.sl 2 n fun i => J ((((List.range n).map g).map cn).getD i z0))) : Knw os fs v (vd ((List.range n).map g)) :=
  h.cast (by unfold vd V LD; simp)
end Go.Proofs.Ytabdfhdddmbmlaa

namespace Go.Proofs.Ytabdfhdddmbmlaa
open Go.RowKit
end Go.Proofs.Ytabdfhdddmbmlaa

namespace Go.Proofs.Ytabdfhdddmbmlaa
open Go.RowKit
theorem mulAt_meets (pb pa : Value) (a b : List Row) (k i j : Nat) (ha : Fits k a) (hb : Fits k b) (hk : k ≤ 34359738368) (lb : b.length ≤ 1048576) (hi : i < a.length) (hr : (a.getD i []).length = b.length) (hc : ∀ l, l < b.length → j < (b.getD l []).length) :
    Meets Try.prog 56 [.int .i64 (i : Nat), .int .i64 (j : Nat), pb, pa] [(pb, .ptr (W b)), (pa, .ptr (W a))]
      (fun r os fs => os = [] ∧ fs = [(r, J (cn (isum (fun l => mx (ww a) i l * mx (ww b) l j) b.length)))]) := by
  have hga : ∀ l, l < b.length → mx (ww a) i l = jv ((a.getD i []).getD l z0) := fun l hl => by unfold mx; rw [ww_get, vv_get _ _ (by omega)]
  have hgb : ∀ l, l < b.length → mx (ww b) l j = jv ((b.getD l []).getD j z0) := fun l hl => by unfold mx; rw [ww_get, vv_get _ _ (hc l hl)]
  have hts : ∀ l, l < b.length → sz (mx (ww a) i l * mx (ww b) l j) (k + k) := fun l hl => sz.mul (mx_at ha i l) (mx_at hb l j)
  have hS : ∀ n, n ≤ b.length → sz (isum (fun l => mx (ww a) i l * mx (ww b) l j) n) (k + k + 1) := fun n hn => isum_sz (fun l hl => hts l (by omega)) (by omega)
  generalize hg : (fun l => mx (ww a) i l * mx (ww b) l j) = g at *
  have hgl : ∀ l, l < b.length → g l = jv ((a.getD i []).getD l z0) * jv ((b.getD l []).getD j z0) := fun l hl => by rw [← hg, ← hga l hl, ← hgb l hl]
  have hts' : ∀ l, l < b.length → sz (g l) (k + k + 1) := fun l hl => by rw [← hg]; exact (hts l hl).mono (by omega)
  refine meets_of_vc Try.func56 (by kernel_rfl) rfl (by kernel_rfl) (Nat.le_of_ble_eq_true rfl) ?_
  refine alloc_rule (d := I false []) fun o ho => ?_
  refine build0 (da := .one (.bool false)) (db := U (lims 0)) (fun S w => ⟨[.bool false], [.slice none 0 0], rfl, rd_false S w, by rw [lims_zero]; exact rd_nil S w 1 _⟩) fun z => ?_
  refine alloc_rule (d := I false []) fun s hs => ?_
  refine store_box (d := zd 0) 0 rfl hs rfl (by kernel_rfl) ?_ ?_; exact Reads.fact mM
  refine load_fact (d := W b) mM (load_W _) fun x1 => ?_
  refine len_fact mM fun _ => ?_
  refine loop_rule (X := Nat) (fun l => ([(0, .int .i64 (i : Nat)), (1, .int .i64 (j : Nat)), (2, pb), (3, pa), (6, o), (7, s), (11, .int .i64 (b.length : Nat)), (12, .int .i64 (l : Nat))],
    [own1 s 2 1 (fun _ => zd (isum g l)), own1 o 2 1 (fun _ => I false [])], [(pb, .ptr (W b)), (pa, .ptr (W a))])) (fun l => l ≤ b.length) (fun l => b.length - l) rfl ?_ ?_
  · exact again 0 (Nat.zero_le _) trivial mF (Seals.trans (Seals.box0 rfl) (Seals.sub mS))
  · rintro l hl
    refine cmp_split _ rfl (fun hd => ?_) (fun hd => ?_)
    · have hlt : l < b.length := by omega
      have hcl := hc l hlt
      have hxa := (ha.get i).get l
      have hxb := (hb.get l).get j
      refine draw_rule [0, 1, 2, 3, 4, 5, 6, 7, 8, 9, 10, 11, 12, 13, 14, 15, 16, 17] [0, 1, 2, 3, 4, 5, 6, 7, 8, 9, 10, 11, 12, 13, 14, 15, 16, 17] (by kernel_rfl) (by kernel_rfl) ?_
      refine load_box (d := zd (isum g l)) 0 rfl hs rfl (load_I _ _) fun y1 => ?_
      refine load_fact (d := W a) mM (load_W _) fun y2 => ?_
      refine index_fact mM i rfl hi fun a1 => ?_
      refine load_fact (d := V (a.getD i [])) mM (load_V _) fun y3 => ?_
      refine index_fact mM l rfl (by omega) fun a2 => ?_
      refine load_fact (d := J ((a.getD i []).getD l z0)) mM (load_J _) fun y4 => ?_
      refine load_fact (d := W b) mM (load_W _) fun y5 => ?_
      refine index_fact mM l rfl hlt fun a3 => ?_
      refine load_fact (d := V (b.getD l [])) mM (load_V _) fun y6 => ?_
      refine index_fact mM j rfl hcl fun a4 => ?_
      refine load_fact (d := J ((b.getD l []).getD j z0)) mM (load_J _) fun y7 => ?_
      refine call_fn (zMulJ y4 y7 ((a.getD i []).getD l z0) ((b.getD l []).getD j z0) hxa.1 (by omega) hxb.1 (by omega)) (Seals.refl _ _) mS ?_
      rintro y8 _ _ ⟨rfl, rfl⟩
      rw [← hgl l hlt]
      refine call_fn (zAddZ y1 y8 (isum g l) (g l) _ _ (hS l hl) (hts' l hlt) (by omega) (by omega)) (Seals.refl _ _) mS ?_
      rintro y9 _ _ ⟨rfl, rfl⟩
      refine store_box (d := zd (isum g (l + 1))) 0 rfl hs rfl (by kernel_rfl) ?_ ?_; exact Reads.fact mM
      refine ar rfl mI ?_
      exact again (l + 1) (by omega) (by simp only; omega) mF (Seals.trans (Seals.box0 rfl) (Seals.sub mS))
    · have hlb : l = b.length := by omega
      subst hlb
      refine load_box (d := zd (isum g b.length)) 0 rfl hs rfl (load_I _ _) fun y1 => ?_
      refine store_box (d := zd (isum g b.length)) 1 rfl ho rfl (by kernel_rfl) ?_ ?_; exact Reads.fact mM
      refine load_box (d := zd (isum g b.length)) 1 rfl ho rfl (load_I _ _) fun r => ?_
      exact fin ⟨rfl, rfl⟩ (Seals.trans (Seals.drop 0 _ _) (Seals.trans (Seals.drop 0 _ _) (Seals.sub (fs' := [(r, zd (isum g b.length))]) mS)))
theorem mMul_meets (v w : Value) (a b : List Row) (k : Nat) (ha : Fits k a) (hb : Fits k b) (hk : k ≤ 34359738368) (la : a.length ≤ 1048576) (lb : b.length ≤ 1048576) (lc : (b.getD 0 []).length ≤ 1048576) :
    Meets Try.prog 28 [v, w] [(v, W a), (w, W b)] (fun r os fs => os = [] ∧ ∃ q, r = .tuple #[q, .int .i64 (if fitsProd a b then 0 else 1)] ∧ fs = [(q, wd (if fitsProd a b then prod (ww a) (ww b) else []))]) := by
  refine meets_of_vc Try.func28 (by kernel_rfl) rfl (by kernel_rfl) (Nat.le_of_ble_eq_true rfl) ?_
  refine box_fact (Reads.fact (d := W a) mM) fun pa => ?_
  refine box_fact (Reads.fact (d := W b) mM) fun pb => ?_
  refine draw_rule [0, 1, 2, 3, 4, 5, 6, 7, 8, 9, 10, 11, 12, 13, 14, 15, 16] [0, 1, 2, 3, 4, 5, 6, 7, 8, 9, 10, 11, 12, 13, 14, 15, 16] (by kernel_rfl) (by kernel_rfl) ?_
  refine load_fact (d := W a) mM (load_W _) fun x1 => ?_
  refine call_fn (mRight_meets x1 a) (Seals.refl _ _) mS ?_
  rintro _ _ _ ⟨rfl, rfl, rfl⟩
  by_cases hra : right a
  case neg =>
    rw [decide_eq_false hra, if_neg (fun h : fitsProd a b => hra h.1), if_neg (fun h : fitsProd a b => hra h.1)]
    exact fin ⟨rfl, .slice none 0 0, rfl, rfl⟩ (Seals.cons (Knw.nil 1 _) (Seals.nil _ _))
  rw [decide_eq_true hra]
  refine load_fact (d := W b) mM (load_W _) fun x2 => ?_
  refine call_fn (mRight_meets x2 b) (Seals.refl _ _) mS ?_
  rintro _ _ _ ⟨rfl, rfl, rfl⟩
  by_cases hrb : right b
  case neg =>
    rw [decide_eq_false hrb, if_neg (fun h : fitsProd a b => hrb h.2.1), if_neg (fun h : fitsProd a b => hrb h.2.1)]
    exact fin ⟨rfl, .slice none 0 0, rfl, rfl⟩ (Seals.cons (Knw.nil 1 _) (Seals.nil _ _))
  rw [decide_eq_true hrb]
  refine load_fact (d := W b) mM (load_W _) fun x3 => ?_
  refine len_fact mM fun _ => ?_
  refine load_fact (d := W a) mM (load_W _) fun x4 => ?_
  refine index_fact mM 0 rfl hra.1 fun a1 => ?_
  refine load_fact (d := V (a.getD 0 [])) mM (load_V _) fun x5 => ?_
  refine len_fact mM fun _ => ?_
  refine cmp_split _ rfl (fun hd => ?_) (fun hd => ?_)
  · rw [if_neg (fun h : fitsProd a b => hd (by rw [h.2.2])), if_neg (fun h : fitsProd a b => hd (by rw [h.2.2]))]
    exact fin ⟨rfl, .slice none 0 0, rfl, rfl⟩ (Seals.cons (Knw.nil 1 _) (Seals.nil _ _))
  have hfp : fitsProd a b := ⟨hra, hrb, by omega⟩
  have hbl := hfp.2.2
  rw [if_pos hfp, if_pos hfp]
  refine draw_rule [0, 1, 2, 3, 4, 5, 6, 7, 8, 9] [0, 1, 2, 3, 4, 5, 6, 7, 8, 9] (by kernel_rfl) (by kernel_rfl) ?_
  refine load_fact (d := W a) mM (load_W _) fun x6 => ?_
  refine len_fact mM fun _ => ?_
  refine load_fact (d := W b) mM (load_W _) fun x7 => ?_
  refine index_fact mM 0 rfl hrb.1 fun a2 => ?_
  refine load_fact (d := V (b.getD 0 [])) mM (load_V _) fun x8 => ?_
  refine len_fact mM fun _ => ?_
  refine call_fn (mmade_meets a.length (b.getD 0 []).length 56 [pb, pa] [(pb, .ptr (W b)), (pa, .ptr (W a))] (fun i j => cn (isum (fun l => mx (ww a) i l * mx (ww b) l j) b.length))
    (fun i j hi hj => mulAt_meets pb pa a b k i j ha hb hk lb hi (by rw [(hra.get hi).2, hbl]) fun l hl => by rw [(hrb.get hl).2]; exact hj)
    (fun i j _ _ => ⟨Lim_lims _, Nat.le_trans (sz.len (e := k + k + 1) (isum_sz (fun l _ => sz.mul (mx_at ha i l) (mx_at hb l j)) (by omega))) (by omega)⟩) (by omega) (by omega)) (Seals.refl _ _) mS ?_
  rintro r _ _ ⟨hv, vs, hvs, rfl, rfl⟩
  refine fin ⟨rfl, r, rfl, rfl⟩ (Seals.trans (Seals.made hv hvs) ?_)
  have e : prod (ww a) (ww b) = matL a.length (b.getD 0 []).length (fun i k => jv (cn (isum (fun l => mx (ww a) i l * mx (ww b) l k) b.length))) := by
    unfold prod matL
    rw [ww_len, ww_len, ww_get, vv_len]
    simp only [jv_cn]
    rfl
  rw [e]
  exact Seals.sub mS
end Go.Proofs.Ytabdfhdddmbmlaa

namespace Go.Proofs.Ytabdfhdddmbmlaa
open Go.RowKit
/-- Whatever order is drawn, it comes to one of the states of I; from these it goes on. -/
theorem draw_join {P : Program} {N id : Nat} {L : List Oper} {f : Fr} {os : List Own} {fs : List Fact} {K : Next1} {X : Type} (I : X → Fr × List Own × List Fact) (ok : X → Prop)
    (h : DrawK P N id L f os fs fun f os fs => AtK I ok f os fs fun _ => True) (k : ∀ x, ok x → K (I x).1 (I x).2.1 (I x).2.2) : DrawK P N id L f os fs K := by
  refine ⟨fun G Q hQ a w hk hw => ?_⟩
  let Q' : Post := fun e => match e with
    | .normal => fun f os fs => AtK I ok f os fs fun _ => True
    | e => Q e
  refine wp_mono (h.out G Q' rfl a w hk hw) ?_
  rintro e a' w' ⟨f', os', fs', hk', hw', hq⟩
  cases e with
  | normal =>
    obtain ⟨⟨x, hx, _, g1, g2⟩⟩ := hq
    exact ⟨_, _, _, hk'.sub g1, g2 G w' hw', by rw [hQ]; exact k x hx⟩
  | exit id => exact ⟨f', os', fs', hk', hw', hq⟩
  | goto l => exact ⟨f', os', fs', hk', hw', hq⟩
  | ret => exact ⟨f', os', fs', hk', hw', hq⟩
  | panic ch => exact ⟨f', os', fs', hk', hw', hq⟩
  | outgrown => exact ⟨f', os', fs', hk', hw', hq⟩
end Go.Proofs.Ytabdfhdddmbmlaa

namespace Go.Proofs.Ytabdfhdddmbmlaa
open Go.RowKit
theorem get_cn (m : List (List Int)) (i : Nat) : ((m.map (·.map cn)).getD i []) = (m.getD i []).map cn := by
  by_cases h : i < m.length
  · simp [List.getD_eq_getElem?_getD, h]
  · simp [List.getD_eq_getElem?_getD, h]
theorem right_cn (m : List (List Int)) : right (m.map (·.map cn)) ↔ right m := by
  unfold right
  rw [List.length_map, get_cn, List.length_map]
  constructor
  · rintro ⟨h1, h2⟩
    exact ⟨h1, fun r hr => by have := h2 _ (List.mem_map.2 ⟨r, hr, rfl⟩); rwa [List.length_map] at this⟩
  · rintro ⟨h1, h2⟩
    refine ⟨h1, fun r hr => ?_⟩
    obtain ⟨r', hr', rfl⟩ := List.mem_map.1 hr
    rw [List.length_map]; exact h2 r' hr'
/-- All numbers are of at most e limbs. -/
def szM (e : Nat) (m : List (List Int)) : Prop := ∀ r, r ∈ m → ∀ x, x ∈ r → sz x e
def szR (e : Nat) (l : List Int) : Prop := ∀ x, x ∈ l → sz x e
theorem szM.fits {e : Nat} {m : List (List Int)} (h : szM e m) : Fits e (m.map (·.map cn)) := fun r hr => by
  obtain ⟨r', hr', rfl⟩ := List.mem_map.1 hr
  exact Fit_cn fun x hx => h r' hr' x hx
-- Told matrices.
theorem exactW (v w : Value) (x y : Int) : Meets Try.prog 15 [v, w] [(v, zd x), (w, zd y)] (fun r os fs => os = [] ∧ fs = [] ∧ r = .bool (decide (x = y))) := by
  have h := exact_meets v w (cn x) (cn y)
  have e : (cn x = cn y) ↔ x = y := ⟨fun h => by rw [← jv_cn x, h, jv_cn], fun h => by rw [h]⟩
  rw [decide_eq_decide.2 e] at h
  exact h
theorem map_cn_inj {l m : List Int} : l.map cn = m.map cn ↔ l = m := ⟨fun h => by rw [← vv_cn l, h, vv_cn], fun h => by rw [h]⟩
theorem mapm_cn_inj {l m : List (List Int)} : l.map (·.map cn) = m.map (·.map cn) ↔ l = m := ⟨fun h => by rw [← ww_cn l, h, ww_cn], fun h => by rw [h]⟩
theorem exactAllW (v w : Value) (x y : List Int) : Meets Try.prog 24 [v, w] [(v, vd x), (w, vd y)] (fun r os fs => os = [] ∧ fs = [] ∧ r = .bool (decide (x = y))) := by
  have h := exactAll_meets v w (x.map cn) (y.map cn)
  rw [decide_eq_decide.2 map_cn_inj] at h
  exact h
/-- Small numbers. -/
def IL (l : List Int) : Dat := .sl 1 l.length fun i => .one (.int .i64 (l.getD i 0))
theorem lit_IL {P : Program} {t e : TypeId} {os : List Own} {fs : List Fact} {K : Cont} [ht : TSl P t e 1] [he : TEl P e 1 8] {n : Nat} (l : List Int) {ps : List (Nat × Value)} (hps : ps = enumP 0 (l.map fun x => Value.int .i64 x)) (hn : n = l.length) (hl : l.length ≤ 1000) (k : ∀ v, K v os ((v, IL l) :: fs)) :
    BuildSliceK P t n ps os fs K := by
  have hr : ∀ l : List Int, ReadsAll os fs 1 (l.map fun x => Value.int .i64 x) (l.map fun x => Dat.one (.int .i64 x)) := fun l => by
    induction l with
    | nil => trivial
    | cons x l ih => exact ⟨Reads.one rfl, rfl, ih⟩
  have h1 := buildSlice_fact (P := P) (t := t) (os := os) (fs := fs) (K := fun u os' fs' => ∃ os'' fs'', Seals os' fs' os'' fs'' ∧ K u os'' fs'') (n := n) (l.map fun x => Value.int .i64 x) (l.map fun x => Dat.one (.int .i64 x)) hps (by rw [hn, List.length_map]) (by omega) (by decide) (hr l)
  refine ⟨Grw.sealed (h1 fun v => ⟨_, _, ?_, k v⟩).out⟩
  exact Seals.knw_cong hn fun i hi => by
    have hi' : i < l.length := by omega
    simp [List.getD_eq_getElem?_getD, hi']
end Go.Proofs.Ytabdfhdddmbmlaa

namespace Go.Proofs.Ytabdfhdddmbmlaa
-- The rank.
def at' (S : List (List Int)) (j k : Nat) : Int := (S.getD j []).getD k 0
/-- Steps: each begins where those behind it have a nought. -/
structure Steps (C : Nat) (S : List (List Int)) : Prop where
  len : ∀ s, s ∈ S → s.length = C
  lead : ∀ s, s ∈ S → lead0 s < C
  stair : ∀ i j, i < j → j < S.length → at' S j (lead0 (S.getD i [])) = 0
theorem lead0_ne {l : List Int} (h : lead0 l < l.length) : l.getD (lead0 l) 0 ≠ 0 := by
  induction l with
  | nil => simp at h
  | cons x l ih =>
    unfold lead0 at h ⊢
    by_cases hx : x = 0
    · simp only [hx, if_true] at h ⊢
      rw [List.getD_cons_succ]
      exact ih (by simpa using h)
    · simp only [hx, if_false]
      simpa using hx
theorem lead0_all {l : List Int} (h : lead0 l = l.length) (k : Nat) : l.getD k 0 = 0 := by
  induction l generalizing k with
  | nil => simp
  | cons x l ih =>
    unfold lead0 at h
    by_cases hx : x = 0
    · simp only [hx, if_true, List.length_cons] at h
      cases k with
      | zero => simpa using hx
      | succ k => rw [List.getD_cons_succ]; exact ih (by omega) k
    · simp [hx] at h
theorem at_snoc_lt {S : List (List Int)} {s : List Int} {j : Nat} (h : j < S.length) : (S ++ [s]).getD j [] = S.getD j [] := by
  simp [List.getD_eq_getElem?_getD, List.getElem?_append_left h]
theorem at_snoc_eq (S : List (List Int)) (s : List Int) : (S ++ [s]).getD S.length [] = s := by
  simp [List.getD_eq_getElem?_getD]
theorem Steps.init {C : Nat} {S : List (List Int)} {s : List Int} (h : Steps C (S ++ [s])) : Steps C S :=
  ⟨fun x hx => h.len x (by simp [hx]), fun x hx => h.lead x (by simp [hx]), fun i j hij hj => by
    have := h.stair i j hij (by simp; omega)
    unfold at' at this ⊢
    rwa [at_snoc_lt hj, at_snoc_lt (by omega)] at this⟩
theorem dep_snoc (S : List (List Int)) (s r : List Int) : dep (S ++ [s]) r = red1 s (dep S r) := by
  unfold dep; rw [List.foldl_append]; rfl
theorem dep_len (S : List (List Int)) (r : List Int) : (dep S r).length = r.length := by
  unfold dep
  induction S generalizing r with
  | nil => rfl
  | cons s S ih => rw [List.foldl_cons, ih, red1_len]
theorem dep_spec {C : Nat} (r : List Int) (hr : r.length = C) : ∀ (n : Nat) (S : List (List Int)), S.length = n → Steps C S →
    (∃ D : Int, D ≠ 0 ∧ ∃ g : Nat → Int, ∀ k, k < C → (dep S r).getD k 0 = D * r.getD k 0 - isum (fun j => g j * at' S j k) S.length) ∧ ∀ j, j < S.length → (dep S r).getD (lead0 (S.getD j [])) 0 = 0
  | 0, S, hn, _ => by
    have : S = [] := List.eq_nil_of_length_eq_zero hn
    subst this
    exact ⟨⟨1, by decide, fun _ => 0, fun k _ => by simp [dep, isum]⟩, fun j hj => by simp at hj⟩
  | n + 1, S, hn, hS => by
    obtain ⟨S', s, rfl⟩ : ∃ S' s, S = S' ++ [s] := by
      refine ⟨S.dropLast, S.getLast (by intro e; simp [e] at hn), ?_⟩
      rw [List.dropLast_concat_getLast]
    have hn' : S'.length = n := by simpa using hn
    obtain ⟨⟨D, hD, g, hg⟩, hz⟩ := dep_spec r hr n S' hn' hS.init
    have hs : s.length = C := hS.len s (by simp)
    have hl : lead0 s < C := hS.lead s (by simp)
    have hsp : s.getD (lead0 s) 0 ≠ 0 := lead0_ne (by omega)
    have hdl : (dep S' r).length = C := by rw [dep_len, hr]
    rw [dep_snoc]
    constructor
    · refine ⟨s.getD (lead0 s) 0 * D, Int.mul_ne_zero hsp hD, fun j => if j = S'.length then (dep S' r).getD (lead0 s) 0 else s.getD (lead0 s) 0 * g j, fun k hk => ?_⟩
      rw [red1_get _ _ (by omega), hg k hk, List.length_append, List.length_singleton, isum]
      have e1 : at' (S' ++ [s]) S'.length k = s.getD k 0 := by unfold at'; rw [at_snoc_eq]
      have e2 : isum (fun j => (if j = S'.length then (dep S' r).getD (lead0 s) 0 else s.getD (lead0 s) 0 * g j) * at' (S' ++ [s]) j k) S'.length = s.getD (lead0 s) 0 * isum (fun j => g j * at' S' j k) S'.length := by
        rw [← isum_mul]
        refine isum_congr fun j hj => ?_
        rw [if_neg (by omega)]
        unfold at'
        rw [at_snoc_lt hj, Int.mul_assoc]
      rw [e2, e1]
      simp only [if_true]
      grind
    · intro j hj
      rw [List.length_append, List.length_singleton] at hj
      by_cases e : j = S'.length
      · rw [e, at_snoc_eq, red1_get s (dep S' r) (k := lead0 s) (by omega)]
        grind
      · have hj' : j < S'.length := by omega
        have hlj : lead0 (S'.getD j []) < C := hS.lead _ (List.mem_append.2 (.inl (getD_mem [] hj')))
        have hst := hS.stair j S'.length hj' (by simp)
        unfold at' at hst
        rw [at_snoc_eq, at_snoc_lt hj'] at hst
        rw [at_snoc_lt hj', red1_get s (dep S' r) (k := lead0 (S'.getD j [])) (by omega), hz j hj', hst]
        simp
/-- What the first rows have come to. -/
structure RInv (C : Nat) (A : Mx) (i : Nat) (S : List (List Int)) : Prop where
  steps : Steps C S
  made : ∃ X : Mx, ∀ j k, j < S.length → k < C → at' S j k = isum (fun t => X j t * A t k) i
  told : ∀ t, t < i → ∃ d : Int, d ≠ 0 ∧ ∃ b : Nat → Int, ∀ k, k < C → d * A t k = isum (fun j => b j * at' S j k) S.length
theorem RInv.next {C : Nat} {A : Mx} {i : Nat} {S : List (List Int)} {r : List Int} (h : RInv C A i S) (hr : r.length = C) (hA : ∀ k, k < C → A i k = r.getD k 0) : RInv C A (i + 1) (rstep S r) := by
  obtain ⟨⟨D, hD, g, hg⟩, hz⟩ := dep_spec r hr S.length S rfl h.steps
  obtain ⟨X, hX⟩ := h.made
  unfold rstep
  split
  · rename_i he
    refine ⟨h.steps, ⟨fun j t => if t = i then 0 else X j t, fun j k hj hk => ?_⟩, fun t ht => ?_⟩
    · rw [hX j k hj hk, isum]
      dsimp only
      rw [if_pos rfl, Int.zero_mul, Int.add_zero]
      exact isum_congr fun t ht => by rw [if_neg (by omega)]
    · by_cases e : t = i
      · subst e
        refine ⟨D, hD, g, fun k hk => ?_⟩
        have := hg k hk
        rw [lead0_all he] at this
        rw [hA k hk]; omega
      · exact h.told t (by omega)
  · rename_i he
    have hlen : (dep S r).length = C := by rw [dep_len, hr]
    have hlead : lead0 (dep S r) < C := by have := lead0_le (dep S r); omega
    refine ⟨⟨fun s hs => ?_, fun s hs => ?_, fun a b hab hb => ?_⟩, ⟨fun j t => if j = S.length then (if t = i then D else - isum (fun l => g l * X l t) S.length) else (if t = i then 0 else X j t), fun j k hj hk => ?_⟩, fun t ht => ?_⟩
    · rcases List.mem_append.1 hs with hs | hs
      · exact h.steps.len s hs
      · rw [List.mem_singleton.1 hs, hlen]
    · rcases List.mem_append.1 hs with hs | hs
      · exact h.steps.lead s hs
      · rw [List.mem_singleton.1 hs]; exact hlead
    · rw [List.length_append, List.length_singleton] at hb
      by_cases e : b = S.length
      · unfold at'
        rw [e, at_snoc_eq, at_snoc_lt (by omega)]
        exact hz a (by omega)
      · have := h.steps.stair a b hab (by omega)
        unfold at' at this ⊢
        rwa [at_snoc_lt (by omega), at_snoc_lt (by omega)]
    · rw [List.length_append, List.length_singleton] at hj
      by_cases e : j = S.length
      · unfold at'
        rw [e, at_snoc_eq, hg k hk, isum]
        dsimp only
        rw [if_pos rfl, if_pos rfl, hA k hk]
        have e2 : isum (fun t => (if S.length = S.length then (if t = i then D else - isum (fun l => g l * X l t) S.length) else (if t = i then 0 else X S.length t)) * A t k) i = - isum (fun l => g l * at' S l k) S.length := by
          rw [← isum_neg]
          rw [isum_congr (g' := fun l => isum (fun t => - (g l * X l t * A t k)) i) (n := S.length) fun l hl => by
            rw [hX l k hl hk, isum_neg, ← isum_mul]
            congr 1
            exact isum_congr fun t _ => by grind]
          rw [isum_swap]
          refine isum_congr fun t ht => ?_
          rw [if_pos rfl, if_neg (by omega), isum_neg]
          rw [Int.neg_mul]
          congr 1
          rw [← isum_mul_right]
        rw [e2]; omega
      · have hj' : j < S.length := by omega
        unfold at'
        rw [at_snoc_lt hj']
        have := hX j k hj' hk
        unfold at' at this
        rw [this, isum]
        dsimp only
        rw [if_neg e, if_pos rfl, Int.zero_mul, Int.add_zero]
        exact isum_congr fun t ht => by rw [if_neg e, if_neg (by omega)]
    · by_cases e : t = i
      · subst e
        refine ⟨D, hD, fun j => if j = S.length then 1 else g j, fun k hk => ?_⟩
        rw [List.length_append, List.length_singleton, isum]
        dsimp only
        rw [if_pos rfl]
        have e1 : at' (S ++ [dep S r]) S.length k = (dep S r).getD k 0 := by unfold at'; rw [at_snoc_eq]
        have e2 : isum (fun j => (if j = S.length then 1 else g j) * at' (S ++ [dep S r]) j k) S.length = isum (fun j => g j * at' S j k) S.length := isum_congr fun j hj => by
          rw [if_neg (by omega)]
          unfold at'
          rw [at_snoc_lt hj]
        rw [e1, e2, hg k hk, hA k hk]; omega
      · obtain ⟨d, hd, b, hb⟩ := h.told t (by omega)
        refine ⟨d, hd, fun j => if j = S.length then 0 else b j, fun k hk => ?_⟩
        rw [hb k hk, List.length_append, List.length_singleton, isum]
        dsimp only
        rw [if_pos rfl, Int.zero_mul, Int.add_zero]
        refine isum_congr fun j hj => ?_
        rw [if_neg (by omega)]
        unfold at'
        rw [at_snoc_lt hj]
end Go.Proofs.Ytabdfhdddmbmlaa

namespace Go.Proofs.Ytabdfhdddmbmlaa
open Go.RowKit
instance (x : Int) (e : Nat) : Decidable (sz x e) := inferInstanceAs (Decidable (_ < _))
end Go.Proofs.Ytabdfhdddmbmlaa

namespace Go.Proofs.Ytabdfhdddmbmlaa
open Go.RowKit
/-- Each limb of each number is one. -/
def limM (m : List Row) : Prop := ∀ r, r ∈ m → ∀ x, x ∈ r → Lim x.2
theorem small.fits {n k c : Nat} {m : List Row} (h : small n k c m) (hl : limM m) : Fits c m := fun r hr x hx => ⟨hl r hr x hx, (h.2 r hr).2 x hx⟩
theorem small.cols {n k c : Nat} {m : List Row} (h : small n k c m) : (m.getD 0 []).length ≤ k := by
  by_cases h0 : 0 < m.length
  · exact (h.2 _ (getD_mem [] h0)).1
  · simp [List.getD_eq_getElem?_getD, show m.length = 0 by omega, List.eq_nil_of_length_eq_zero (show m.length = 0 by omega)]
end Go.Proofs.Ytabdfhdddmbmlaa

namespace Go.Proofs.Ytabdfhdddmbmlaa
open Go.RowKit
def smallR (n c : Nat) (r : Row) : Prop := r.length ≤ n ∧ ∀ x, x ∈ r → x.2.length ≤ c
instance (n c : Nat) (r : Row) : Decidable (smallR n c r) := inferInstanceAs (Decidable (_ ∧ _))
end Go.Proofs.Ytabdfhdddmbmlaa

namespace Go.Proofs.Ytabdfhdddmbmlaa
open Go.RowKit Go.ChangeShapes Go.WideShapes Go.ChangeAt Go.Deep
section
variable {H : Type} {enc : TypeId × Value → H} {w : World} {base : Nat} {spare : Nat → Bool} {held : Bool}
theorem rd_u64 {fuel : Nat} {cs : List Value} {x : DataW H × List MemPlace} (h : DataW.trod enc Try.prog w base spare held fuel 46 cs = some x) : ∃ n : Nat, n < 18446744073709551616 ∧ cs = [.int .u64 (n : Int)] := by
  obtain ⟨n, rfl, _, hw⟩ := DataW.trod_int Try.underlying46 h
  have : 0 ≤ n ∧ n < 18446744073709551616 := by
    simp [Lit.wf, IntKind.min, IntKind.max, IntKind.signed, IntKind.bits] at hw
    omega
  exact ⟨n.toNat, by omega, by rw [Int.toNat_of_nonneg this.1]⟩
/-- A slice, if each element reads. -/
theorem rd_slice {α : Type} (f : α → Dat) (z : α) (ok : α → Prop) {t e : TypeId} {size : Nat} (ht : Try.prog.underlying t = some (.slice e)) (hc : Try.prog.cellsOf e = size) (hs : 0 < size)
    (el : ∀ n cs x, cs.length = size → DataW.trod enc Try.prog w base spare held n e cs = some x → ∃ a, ok a ∧ RdC (fun b => b < w.heap.size) w (f a) cs)
    {fuel : Nat} {cs : List Value} {x : DataW H × List MemPlace} (h : DataW.trod enc Try.prog w base spare held fuel t cs = some x) :
    ∃ l : List α, (∀ a, a ∈ l → ok a) ∧ RdC (fun b => b < w.heap.size) w (LD size f z l) cs := by
  rcases open_slice ht h with ⟨rfl, _⟩ | ⟨a, len, cap, m, n, D, Pl, rfl, hb, hl, hm, hmm, _, hx⟩
  · exact ⟨[], (fun _ h => by simp at h), rd_nil _ _ _ _⟩
  · have hle : len ≤ m := by rw [hmm]; split <;> omega
    rw [hc] at hx
    have hspot : 0 < len → a.spot = none := fun h0 => by
      obtain ⟨cs', h1, h2⟩ := hx 0 (by omega)
      obtain ⟨_, hlen, hcell⟩ := World.cells?_some h1
      have h0 := hcell 0 hs
      rw [List.getElem?_eq_getElem (by omega)] at h0
      have := World.cell?_spot h0
      simpa [Addr.add] using this
    have hel : ∀ i, ∃ y : α, i < len → ok y ∧ ∃ cs', RdC (fun b => b < w.heap.size) w (f y) cs' ∧ cs'.length = size ∧ a.spot = none ∧ CellsAt (fun b => b < w.heap.size) w a.block (a.off + i * size) cs' := by
      intro i
      by_cases hi : i < len
      · obtain ⟨cs', h1, h2⟩ := hx i (by omega)
        obtain ⟨_, hlen, hcell⟩ := World.cells?_some h1
        obtain ⟨y, hy1, hy2⟩ := el n cs' _ hlen h2
        have hsp := hspot (by omega)
        refine ⟨y, fun _ => ⟨hy1, cs', hy2, hlen, hsp, fun j hj => ?_⟩⟩
        have h0 := hcell j (by omega)
        have ha : (a.add (i * size)).add j = ⟨a.block, a.off + i * size + j, none⟩ := by
          obtain ⟨b, o, s⟩ := a
          simp only at hsp
          subst hsp
          rw [add_none, add_none]
        rw [ha] at h0
        refine ⟨?_, h0⟩
        rw [List.getElem?_eq_getElem hj] at h0
        unfold World.cell? at h0
        simp only at h0
        split at h0
        · rename_i heq
          exact (Array.getElem?_eq_some_iff.1 heq).1
        · simp at h0
      · exact ⟨z, fun h => absurd h hi⟩
    have hch := fun i => Classical.choose_spec (hel i)
    let g : Nat → α := fun i => Classical.choose (hel i)
    have hg : ∀ i, i < len → ((List.range len).map g).getD i z = g i := fun i hi => by simp [List.getD_eq_getElem?_getD, hi]
    refine ⟨(List.range len).map g, fun y hy => ?_, ?_⟩
    · obtain ⟨i, hi, rfl⟩ := List.mem_map.1 hy
      exact (hch i (List.mem_range.1 hi)).1
    · unfold LD
      rw [List.length_map, List.length_range]
      refine ⟨some a, cap, rfl, hl, hm, fun h => by simp at h, fun b hb' hpos => ?_, fun i hi => ?_⟩
      · simp only [Option.some.injEq] at hb'
        subst hb'
        obtain ⟨_, _, _, _, hsp, _⟩ := hch 0 hpos
        exact hsp
      · obtain ⟨_, cs', q1, q2, _, q3⟩ := hch i hi
        refine ⟨a, cs', rfl, ?_, q2, q3⟩
        show RdC _ _ (f (((List.range len).map g).getD i z)) cs'
        rw [hg i hi]; exact q1
theorem rd_limbs {fuel : Nat} {cs : List Value} {x : DataW H × List MemPlace} (h : DataW.trod enc Try.prog w base spare held fuel 31 cs = some x) : ∃ l : List Nat, Lim l ∧ RdC (fun b => b < w.heap.size) w (U l) cs := by
  obtain ⟨l, h1, h2⟩ := rd_slice (size := 1) (fun n : Nat => .one (.int .u64 (n : Int))) 0 (fun n => n < 18446744073709551616) Try.underlying31 (by kernel_rfl) (by decide) (fun n cs x _ h => by
    obtain ⟨n, hn, rfl⟩ := rd_u64 h
    exact ⟨n, hn, rfl, rfl⟩) h
  exact ⟨l, h1, h2⟩
theorem rd_int2 {P : Program} {t tb tl : TypeId} {f0 f1 : Field} (ht : P.underlying t = some (.struct #[f0, f1])) (h0t : f0.type = tb) (h0o : f0.offset = 0) (h1t : f1.type = tl) (h1o : f1.offset = 1)
    (cb : P.cellsOf tb = 1) (cl : P.cellsOf tl = 1) (hb : P.underlying tb = some .bool) (el : ∀ (n : Nat) (cs : List Value) (x : DataW H × List MemPlace), DataW.trod enc P w base spare held n tl cs = some x → ∃ l : List Nat, Lim l ∧ RdC (fun b => b < w.heap.size) w (U l) cs)
    {fuel : Nat} {cs : List Value} {x : DataW H × List MemPlace} (hl : cs.length = 2) (h : DataW.trod enc P w base spare held fuel t cs = some x) : ∃ y : Bool × List Nat, Lim y.2 ∧ RdC (fun b => b < w.heap.size) w (J y) cs := by
  obtain ⟨y0, y1, n, _, hlen, h0, h1⟩ := trod_struct2 ht h
  rw [h0t, h0o, cb] at h0
  rw [h1t, h1o, cl] at h1
  match cs, hl with
  | [c0, c1], _ =>
    obtain ⟨s, hs, _⟩ := DataW.trod_bool hb h0
    obtain ⟨l, hl1, hl2⟩ := el _ _ _ h1
    have hc0 : c0 = .bool s := by simpa using hs
    subst hc0
    exact ⟨(s, l), hl1, [.bool s], [c1], rfl, ⟨rfl, rfl⟩, hl2⟩
theorem rd_int {fuel : Nat} {cs : List Value} {x : DataW H × List MemPlace} (hl : cs.length = 2) (h : DataW.trod enc Try.prog w base spare held fuel 33 cs = some x) : ∃ y : Bool × List Nat, Lim y.2 ∧ RdC (fun b => b < w.heap.size) w (J y) cs :=
  rd_int2 Try.underlying33 rfl rfl rfl rfl (tb := 4) (tl := 31) (by kernel_rfl) (by kernel_rfl) Try.underlying4 (fun _ _ _ h => rd_limbs h) hl h
theorem rd_row {fuel : Nat} {cs : List Value} {x : DataW H × List MemPlace} (h : DataW.trod enc Try.prog w base spare held fuel 36 cs = some x) : ∃ r : Row, (∀ y, y ∈ r → Lim y.2) ∧ RdC (fun b => b < w.heap.size) w (V r) cs := by
  obtain ⟨l, h1, h2⟩ := rd_slice (size := 2) J z0 (fun y => Lim y.2) Try.underlying36 (by kernel_rfl) (by decide) (fun n cs x hl h => rd_int hl h) h
  exact ⟨l, h1, h2⟩
theorem rd_rows {fuel : Nat} {cs : List Value} {x : DataW H × List MemPlace} (h : DataW.trod enc Try.prog w base spare held fuel 22 cs = some x) : ∃ m : List Row, limM m ∧ RdC (fun b => b < w.heap.size) w (W m) cs := by
  obtain ⟨l, h1, h2⟩ := rd_slice (size := 1) V [] (fun r => ∀ y, y ∈ r → Lim y.2) Try.underlying22 (by kernel_rfl) (by decide) (fun n cs x _ h => rd_row h) h
  exact ⟨l, h1, h2⟩
end
theorem rd_val {S : Nat → Prop} {w : World} {a : Option Addr} {n c : Nat} {d : Dat} (hd : d.flat = true) (h : RdC S w d (Value.slice a n c).cells.toList) : Rd S w (.slice a n c) d := by
  refine ⟨_, h, ?_⟩
  obtain ⟨v, h1, _, h3⟩ := RdC.single hd h
  rw [h3]
  simpa [Value.cells] using h1
theorem calls_of_meets {g : FuncId} {args : List Value} {fs : List Fact} {w : World} (h : Meets Try.prog g args fs (fun r os fs' => os = [] ∧ fs' = [] ∧ r = .bool true)) (hf : HF (fun b => b < w.heap.size) w fs) :
    Calls Try.prog g args.toArray w fun e w' => e = .returned (.bool true) ∧ Below w.heap.size w w' := by
  refine (h.calls (fun _ => False) w (fun _ h => h.elim) (hf.mono (fun _ _ => rfl) fun b hb => ⟨hb, id⟩)).mono ?_
  rintro e w' ⟨v, os', fs', rfl, ⟨rfl, rfl, rfl⟩, hh⟩
  exact ⟨rfl, hh.below⟩
theorem own0 : ownKnob Try.prog.godebug = none := by kernel_rfl
theorem laid0 : laidOutB Try.prog = true := by kernel_rfl
end Go.Proofs.Ytabdfhdddmbmlaa

namespace Go.Proofs.Ytabdfhdddmbmlaa
open Go.RowKit
end Go.Proofs.Ytabdfhdddmbmlaa

namespace Go.Proofs.Ytabdfhdddmbmlaa
/-- The value at x. -/
def pev : List Int → Int → Int
  | [], _ => 0
  | c :: l, x => c + x * pev l x
/-- Without noughts on top. -/
def nrm : List Int → List Int
  | [] => []
  | c :: l => match nrm l with
    | [] => if c = 0 then [] else [c]
    | d :: m => c :: d :: m
theorem nrm_cons (c : Int) (l : List Int) : nrm (c :: l) = if nrm l = [] ∧ c = 0 then [] else c :: nrm l := by
  rw [nrm]
  cases h : nrm l with
  | nil => by_cases hc : c = 0 <;> simp [hc]
  | cons d m => simp
theorem nrm_nrm (l : List Int) : nrm (nrm l) = nrm l := by
  induction l with
  | nil => rfl
  | cons c l ih =>
    rw [nrm_cons]
    by_cases h : nrm l = [] ∧ c = 0
    · rw [if_pos h]; rfl
    · rw [if_neg h, nrm_cons, ih, if_neg h]
theorem ev_nrm (l : List Int) (x : Int) : pev (nrm l) x = pev l x := by
  induction l with
  | nil => rfl
  | cons c l ih =>
    rw [nrm_cons]
    by_cases h : nrm l = [] ∧ c = 0
    · rw [if_pos h, h.2]
      rw [h.1] at ih
      simp only [pev] at ih ⊢
      rw [← ih]; simp
    · rw [if_neg h]; simp only [pev]; rw [ih]
theorem co_nrm (l : List Int) (i : Nat) : (nrm l).getD i 0 = l.getD i 0 := by
  induction l generalizing i with
  | nil => rfl
  | cons c l ih =>
    rw [nrm_cons]
    by_cases h : nrm l = [] ∧ c = 0
    · rw [if_pos h]
      cases i with
      | zero => simp [h.2]
      | succ i => rw [List.getD_cons_succ, ← ih i, h.1]; simp
    · rw [if_neg h]
      cases i with
      | zero => rfl
      | succ i => rw [List.getD_cons_succ, List.getD_cons_succ, ih]
/-- The last number is not a nought. -/
theorem nrm_last (l : List Int) (h : 0 < (nrm l).length) : (nrm l).getD ((nrm l).length - 1) 0 ≠ 0 := by
  induction l with
  | nil => simp [nrm] at h
  | cons c l ih =>
    rw [nrm_cons] at h ⊢
    by_cases hc : nrm l = [] ∧ c = 0
    · rw [if_pos hc] at h; simp at h
    · rw [if_neg hc] at h ⊢
      cases e : nrm l with
      | nil =>
        have : c ≠ 0 := fun h0 => hc ⟨e, h0⟩
        simpa using this
      | cons d m =>
        have := ih (by rw [e]; simp)
        rw [e] at this
        simpa using this
theorem nrm_of_last {l : List Int} (h : l = [] ∨ l.getD (l.length - 1) 0 ≠ 0) : nrm l = l := by
  induction l with
  | nil => rfl
  | cons c l ih =>
    rcases h with h | h
    · simp at h
    · rw [nrm_cons]
      cases l with
      | nil =>
        have : c ≠ 0 := by simpa using h
        simp [nrm, this]
      | cons d m =>
        have h' : (d :: m).getD ((d :: m).length - 1) 0 ≠ 0 := by simpa using h
        rw [ih (.inr h')]
        simp
/-- Lists of the same numbers, but for noughts on top. -/
theorem nrm_ext : ∀ {l m : List Int}, (∀ i, l.getD i 0 = m.getD i 0) → nrm l = nrm m
  | [], [], _ => rfl
  | [], d :: m, h => by
    have h0 : d = 0 := by have := h 0; simpa using this.symm
    have h1 := nrm_ext (l := []) (m := m) fun i => by have := h (i + 1); simpa using this
    rw [nrm_cons, ← h1, if_pos ⟨rfl, h0⟩]; rfl
  | c :: l, [], h => by
    have h0 : c = 0 := by have := h 0; simpa using this
    have h1 := nrm_ext (l := l) (m := []) fun i => by have := h (i + 1); simpa using this
    rw [nrm_cons, h1, if_pos ⟨rfl, h0⟩]; rfl
  | c :: l, d :: m, h => by
    have h0 : c = d := by have := h 0; simpa using this
    have h1 := nrm_ext (l := l) (m := m) fun i => by have := h (i + 1); simpa using this
    rw [nrm_cons, nrm_cons, h1, h0]
theorem small_dvd {c k x : Int} (h : c = x * k) (hx : c.natAbs < x.natAbs) : c = 0 := by
  by_cases hk : k = 0
  · rw [h, hk, Int.mul_zero]
  · exfalso
    have h1 : c.natAbs = x.natAbs * k.natAbs := by rw [h, Int.natAbs_mul]
    have h2 : 1 ≤ k.natAbs := by omega
    have h3 : x.natAbs * 1 ≤ x.natAbs * k.natAbs := Nat.mul_le_mul_left _ h2
    omega
/-- Polynomials that have one value at all great numbers are one. -/
theorem ev_ext_great : ∀ {l m : List Int} (N : Nat), (∀ x : Int, (N : Int) ≤ x → pev l x = pev m x) → nrm l = nrm m
  | [], [], _, _ => rfl
  | [], d :: m, N, h => by
    have h0 : d = 0 := by
      have := h (N + d.natAbs + 1) (by omega)
      simp only [pev] at this
      refine small_dvd (x := (N : Int) + d.natAbs + 1) (k := - pev m ((N : Int) + d.natAbs + 1)) ?_ (by omega)
      rw [Int.mul_neg]; omega
    have h1 := ev_ext_great (l := []) (m := m) (N + 1) fun x hx => by
      have := h x (by omega)
      simp only [pev, h0] at this ⊢
      have : x * pev m x = 0 := by omega
      rcases Int.mul_eq_zero.1 this with h2 | h2
      · omega
      · exact h2.symm
    rw [nrm_cons, ← h1, if_pos ⟨rfl, h0⟩]; rfl
  | c :: l, [], N, h => by
    have h0 : c = 0 := by
      have := h (N + c.natAbs + 1) (by omega)
      simp only [pev] at this
      refine small_dvd (x := (N : Int) + c.natAbs + 1) (k := - pev l ((N : Int) + c.natAbs + 1)) ?_ (by omega)
      rw [Int.mul_neg]; omega
    have h1 := ev_ext_great (l := l) (m := []) (N + 1) fun x hx => by
      have := h x (by omega)
      simp only [pev, h0] at this ⊢
      have : x * pev l x = 0 := by omega
      rcases Int.mul_eq_zero.1 this with h2 | h2
      · omega
      · exact h2
    rw [nrm_cons, h1, if_pos ⟨rfl, h0⟩]; rfl
  | c :: l, d :: m, N, h => by
    have h0 : c - d = 0 := by
      have := h (N + (c - d).natAbs + 1) (by omega)
      simp only [pev] at this
      refine small_dvd (x := (N : Int) + (c - d).natAbs + 1) (k := pev m ((N : Int) + (c - d).natAbs + 1) - pev l ((N : Int) + (c - d).natAbs + 1)) ?_ (by omega)
      rw [Int.mul_sub]; omega
    have h1 := ev_ext_great (l := l) (m := m) (N + 1) fun x hx => by
      have := h x (by omega)
      simp only [pev] at this
      have h2 : x * (pev l x - pev m x) = 0 := by rw [Int.mul_sub]; omega
      rcases Int.mul_eq_zero.1 h2 with h3 | h3 <;> omega
    rw [nrm_cons, nrm_cons, h1, show c = d by omega]
theorem ev_ext {l m : List Int} (h : ∀ x, pev l x = pev m x) : nrm l = nrm m := ev_ext_great 0 fun x _ => h x
theorem ev_of_nrm {l m : List Int} (h : nrm l = nrm m) (x : Int) : pev l x = pev m x := by rw [← ev_nrm l, h, ev_nrm]
theorem ev_append (l m : List Int) (x : Int) : pev (l ++ m) x = pev l x + x ^ l.length * pev m x := by
  induction l with
  | nil => simp [pev]
  | cons c l ih => simp only [List.cons_append, pev, ih, List.length_cons, Int.pow_succ]; grind
theorem ev_map_mul (c : Int) (l : List Int) (x : Int) : pev (l.map fun y => c * y) x = c * pev l x := by
  induction l with
  | nil => simp [pev]
  | cons d l ih => simp only [List.map_cons, pev, ih]; grind
theorem ev_replicate (n : Nat) (x : Int) : pev (List.replicate n 0) x = 0 := by
  induction n with
  | zero => rfl
  | succ n ih => rw [List.replicate_succ, pev, ih]; simp
theorem ev_take_succ {l : List Int} {i : Nat} (h : i < l.length) (x : Int) : pev (l.take (i + 1)) x = pev (l.take i) x + x ^ i * l.getD i 0 := by
  have e : l.take (i + 1) = l.take i ++ [l.getD i 0] := by rw [List.take_add_one]; simp [List.getD_eq_getElem?_getD, h]
  rw [e, ev_append, List.length_take, Nat.min_eq_left (Nat.le_of_lt h)]
  simp [pev]
/-- The degree is less than n. -/
theorem ev_getD {l : List Int} {n : Nat} (h : l.length ≤ n) (x : Int) : pev ((List.range n).map fun i => l.getD i 0) x = pev l x := by
  have : nrm ((List.range n).map fun i => l.getD i 0) = nrm l := nrm_ext fun i => by
    by_cases hi : i < n
    · simp [List.getD_eq_getElem?_getD, hi]
    · have : l.length ≤ i := by omega
      simp [List.getD_eq_getElem?_getD, hi, this]
  exact ev_of_nrm this x
end Go.Proofs.Ytabdfhdddmbmlaa

namespace Go.Proofs.Ytabdfhdddmbmlaa
open Go.RowKit
/-- An answer that is looked at in another way. -/
theorem Meets.closed {P : Program} {g : FuncId} {args : List Value} {fs : List Fact} {R R' : Value → List Own → List Fact → Prop} (h : Meets P g args fs R)
    (hr : ∀ v os fs, R v os fs → ∃ os' fs', R' v os' fs' ∧ Seals os fs os' fs') : Meets P g args fs R' := by
  refine ⟨h.enter, fun A w hA hf => (h.calls A w hA hf).mono ?_⟩
  rintro e w' ⟨v, os', fs', he, hv, hh⟩
  obtain ⟨os2, fs2, h2, hs⟩ := hr v os' fs' hv
  exact ⟨v, os2, fs2, he, h2, hs _ _ hh⟩
/-- A told list of one's own becomes a fact. -/
theorem Seals.told {v : Value} {n : Nat} {g : Nat → Int} {e : Nat → Dat} {os : List Own} {fs : List Fact} (hv : isSl v) (he : ∀ i, i < n → e i = zd (g i)) :
    Seals (own1 v 2 n e :: os) fs os ((v, vd ((List.range n).map g)) :: fs) :=
  Seals.trans (Seals.slice (os := own1 v 2 n e :: os) 0 (fun i => J ((((List.range n).map g).map cn).getD i z0)) rfl hv fun i hi => by rw [he i hi, range_cn g hi]; rfl)
    (Seals.cons (Knw.vd_of (Knw.fact (List.Mem.head _))) (Seals.sub fun _ hF => .tail _ hF))
end Go.Proofs.Ytabdfhdddmbmlaa

namespace Go.Proofs.Ytabdfhdddmbmlaa
def Nm (l : List Int) : Prop := nrm l = l
theorem Nm.nil : Nm [] := rfl
theorem Nm.nrm (l : List Int) : Nm (nrm l) := nrm_nrm l
/-- The list of the first n values. -/
def lst (n : Nat) (f : Nat → Int) : List Int := (List.range n).map f
theorem lst_len (n : Nat) (f : Nat → Int) : (lst n f).length = n := by simp [lst]
theorem lst_get {n : Nat} {f : Nat → Int} {i : Nat} (h : i < n) : (lst n f).getD i 0 = f i := by simp [lst, List.getD_eq_getElem?_getD, h]
theorem lst_get' (n : Nat) (f : Nat → Int) (i : Nat) : (lst n f).getD i 0 = if i < n then f i else 0 := by
  by_cases h : i < n
  · rw [lst_get h, if_pos h]
  · rw [if_neg h, List.getD_eq_getElem?_getD, List.getElem?_eq_none (by rw [lst_len]; omega)]; rfl
theorem lst_congr {n : Nat} {f g : Nat → Int} (h : ∀ i, i < n → f i = g i) : lst n f = lst n g := List.map_congr_left fun i hi => h i (List.mem_range.1 hi)
theorem lst_succ (n : Nat) (f : Nat → Int) : lst (n + 1) f = f 0 :: lst n fun i => f (i + 1) := by
  simp [lst, List.range_succ_eq_map, Function.comp_def]
theorem getD_none {l : List Int} {i : Nat} (h : l.length ≤ i) : l.getD i 0 = 0 := by rw [List.getD_eq_getElem?_getD, List.getElem?_eq_none h]; rfl
theorem ev_lst_succ (n : Nat) (f : Nat → Int) (x : Int) : pev (lst (n + 1) f) x = f 0 + x * pev (lst n fun i => f (i + 1)) x := by rw [lst_succ]; rfl
theorem ev_lst_add (n : Nat) (f g : Nat → Int) (x : Int) : pev (lst n fun i => f i + g i) x = pev (lst n f) x + pev (lst n g) x := by
  induction n generalizing f g with
  | zero => rfl
  | succ n ih => rw [ev_lst_succ, ev_lst_succ, ev_lst_succ, ih]; grind
theorem ev_lst_mul (n : Nat) (c : Int) (f : Nat → Int) (x : Int) : pev (lst n fun i => c * f i) x = c * pev (lst n f) x := by
  induction n generalizing f with
  | zero => simp [lst, pev]
  | succ n ih => rw [ev_lst_succ, ev_lst_succ, ih]; grind
theorem ev_lst_zero (n : Nat) (x : Int) : pev (lst n fun _ => 0) x = 0 := by
  induction n with
  | zero => rfl
  | succ n ih => rw [ev_lst_succ, ih]; simp
theorem ev_lst {l : List Int} {n : Nat} (h : l.length ≤ n) (x : Int) : pev (lst n fun i => l.getD i 0) x = pev l x := ev_getD h x
/-- Moved up by s. -/
def up (s : Nat) (l : List Int) : List Int := List.replicate s 0 ++ l
theorem ev_up (s : Nat) (l : List Int) (x : Int) : pev (up s l) x = x ^ s * pev l x := by
  rw [up, ev_append, ev_replicate, List.length_replicate]; simp
theorem up_get (s : Nat) (l : List Int) (i : Nat) : (up s l).getD i 0 = if i < s then 0 else l.getD (i - s) 0 := by
  unfold up
  by_cases h : i < s
  · rw [if_pos h, List.getD_eq_getElem?_getD, List.getElem?_append_left (by simpa using h)]; simp [h]
  · rw [if_neg h, List.getD_eq_getElem?_getD, List.getElem?_append_right (by simpa using Nat.le_of_not_lt h)]; simp [List.getD_eq_getElem?_getD]
def padd (l m : List Int) : List Int := nrm (lst (max l.length m.length) fun i => l.getD i 0 + m.getD i 0)
def psub (l m : List Int) : List Int := nrm (lst (max l.length m.length) fun i => l.getD i 0 - m.getD i 0)
def prai (c : Int) (s : Nat) (l : List Int) : List Int := nrm (up s (l.map fun y => c * y))
theorem ev_padd (l m : List Int) (x : Int) : pev (padd l m) x = pev l x + pev m x := by
  rw [padd, ev_nrm, ev_lst_add, ev_lst (Nat.le_max_left _ _), ev_lst (Nat.le_max_right _ _)]
theorem ev_psub (l m : List Int) (x : Int) : pev (psub l m) x = pev l x - pev m x := by
  have e : (fun i => l.getD i 0 - m.getD i 0) = fun i => l.getD i 0 + (-1) * m.getD i 0 := funext fun i => by omega
  rw [psub, ev_nrm, e, ev_lst_add, ev_lst_mul, ev_lst (Nat.le_max_left _ _), ev_lst (Nat.le_max_right _ _)]; omega
theorem ev_prai (c : Int) (s : Nat) (l : List Int) (x : Int) : pev (prai c s l) x = x ^ s * (c * pev l x) := by rw [prai, ev_nrm, ev_up, ev_map_mul]
theorem ev_lst_isum (n m : Nat) (f : Nat → Nat → Int) (x : Int) : pev (lst n fun y => isum (fun t => f t y) m) x = isum (fun t => pev (lst n (f t)) x) m := by
  induction m with
  | zero => exact ev_lst_zero n x
  | succ m ih => simp only [isum]; rw [ev_lst_add, ih]
theorem ev_isum (l : List Int) (x : Int) : pev l x = isum (fun i => l.getD i 0 * x ^ i) l.length := by
  have : ∀ (l : List Int), pev l x = isum (fun i => l.getD i 0 * x ^ i) l.length := by
    intro l
    have h : ∀ n, n ≤ l.length → pev (l.take n) x = isum (fun i => l.getD i 0 * x ^ i) n := by
      intro n
      induction n with
      | zero => intro _; rfl
      | succ n ih => intro hn; rw [ev_take_succ (by omega), ih (by omega), isum, Int.mul_comm]
    have := h l.length (Nat.le_refl _)
    rwa [List.take_length] at this
  exact this l
/-- The product's coefficient at y, of the first m of a. -/
def conv (a b : List Int) (m y : Nat) : Int := isum (fun t => if t ≤ y then a.getD t 0 * b.getD (y - t) 0 else 0) m
def pmul (l m : List Int) : List Int :=
  let a := nrm l
  let b := nrm m
  if a = [] ∨ b = [] then [] else nrm (lst (a.length + b.length - 1) fun y => conv a b a.length y)
theorem ev_shifted (b : List Int) (t n : Nat) (h : t + b.length ≤ n) (c x : Int) : pev (lst n fun y => if t ≤ y then c * b.getD (y - t) 0 else 0) x = c * x ^ t * pev b x := by
  have e : pev (lst n fun y => if t ≤ y then c * b.getD (y - t) 0 else 0) x = pev (up t (b.map fun y => c * y)) x := by
    refine ev_of_nrm (nrm_ext fun i => ?_) x
    rw [up_get, lst_get']
    by_cases h1 : i < t
    · rw [if_pos h1, if_neg (by omega : ¬ t ≤ i)]; split <;> rfl
    · rw [if_neg h1]
      by_cases h2 : i < n
      · rw [if_pos h2, if_pos (by omega)]
        simp [List.getD_eq_getElem?_getD]
        cases b[i - t]? <;> simp
      · rw [if_neg h2, getD_none]; rw [List.length_map]; omega
  rw [e, ev_up, ev_map_mul]; grind
theorem ev_conv (a b : List Int) (x : Int) (hb : b ≠ []) (ha : a ≠ []) : pev (lst (a.length + b.length - 1) fun y => conv a b a.length y) x = pev a x * pev b x := by
  unfold conv
  rw [ev_lst_isum]
  have h : ∀ t, t < a.length → pev (lst (a.length + b.length - 1) fun y => if t ≤ y then a.getD t 0 * b.getD (y - t) 0 else 0) x = pev b x * (a.getD t 0 * x ^ t) := fun t ht => by
    rw [ev_shifted b t _ (by have := List.length_pos_iff.2 hb; omega)]; grind
  rw [isum_congr h, isum_mul, ← ev_isum, Int.mul_comm]
theorem ev_pmul (l m : List Int) (x : Int) : pev (pmul l m) x = pev l x * pev m x := by
  unfold pmul
  simp only
  split
  · rename_i h
    rcases h with h | h
    · rw [← ev_nrm l, h]; simp [pev]
    · rw [← ev_nrm m, h]; simp [pev]
  · rename_i h
    rw [ev_nrm, ev_conv _ _ _ (fun e => h (.inr e)) (fun e => h (.inl e)), ev_nrm, ev_nrm]
theorem pmul_nm (l m : List Int) : Nm (pmul l m) := by unfold pmul; simp only; split; exact rfl; exact nrm_nrm _
end Go.Proofs.Ytabdfhdddmbmlaa

namespace Go.Proofs.Ytabdfhdddmbmlaa
open Go.RowKit
theorem szR.mono {k k' : Nat} {l : List Int} (h : szR k l) (hk : k ≤ k') : szR k' l := fun x hx => (h x hx).mono hk
theorem szR.get {k : Nat} {l : List Int} (h : szR k l) (i : Nat) : sz (l.getD i 0) k := by
  by_cases hi : i < l.length
  · exact h _ (getD_mem 0 hi)
  · rw [getD_none (by omega)]; exact sz_zero _
theorem mem_nrm {l : List Int} {x : Int} (h : x ∈ nrm l) : x ∈ l := by
  induction l with
  | nil => exact h
  | cons c l ih =>
    rw [nrm_cons] at h
    split at h
    · simp at h
    · rcases List.mem_cons.1 h with rfl | h
      · exact .head _
      · exact .tail _ (ih h)
theorem szR.nrm {k : Nat} {l : List Int} (h : szR k l) : szR k (nrm l) := fun x hx => h x (mem_nrm hx)
end Go.Proofs.Ytabdfhdddmbmlaa

namespace Go.Proofs.Ytabdfhdddmbmlaa
open Go.RowKit
theorem load_elem' {P : Program} {t : TypeId} {v : Value} {size n : Nat} {e : Nat → Dat} {os : List Own} {fs : List Fact} {K : Cont} (pos : Nat) (h : nthOwn os pos = some (own1 v size n e)) (j : Nat)
    (hj : j < n) {d : Dat} (hd : e j = d) (ht : LoadAs P t d) (k' : ∀ u, K u os ((u, d) :: fs)) : LoadK P t (eptr v (j * size)) os fs K := by
  subst hd
  exact load_elem pos h j hj ht k'
end Go.Proofs.Ytabdfhdddmbmlaa

namespace Go.Proofs.Ytabdfhdddmbmlaa
open Go.RowKit
theorem szR.map {k a : Nat} {c : Int} {l : List Int} (h : szR k l) (hc : sz c a) : szR (k + a) (l.map fun y => c * y) := fun x hx => by
  obtain ⟨y, hy, rfl⟩ := List.mem_map.1 hx
  rw [Nat.add_comm]; exact hc.mul (h y hy)
theorem szR.prai {k a : Nat} {c : Int} {l : List Int} (h : szR k l) (hc : sz c a) (s : Nat) : szR (k + a) (prai c s l) := szR.nrm fun x hx => by
  rcases List.mem_append.1 hx with h1 | h1
  · rw [(List.mem_replicate.1 h1).2]; exact sz_zero _
  · exact h.map hc x h1
theorem szR.neg {k : Nat} {l : List Int} (h : szR k l) : szR k (Go.Proofs.Ytabdfhdddmbmlaa.prai (-1) 0 l) := szR.nrm fun x hx => by
  rcases List.mem_append.1 hx with h1 | h1
  · rw [(List.mem_replicate.1 h1).2]; exact sz_zero _
  · obtain ⟨y, hy, rfl⟩ := List.mem_map.1 h1
    have := (h y hy).neg
    rwa [← Int.neg_one_mul] at this
end Go.Proofs.Ytabdfhdddmbmlaa

namespace Go.Proofs.Ytabdfhdddmbmlaa
open Go.RowKit
theorem szR.drop {k : Nat} {l : List Int} (h : szR k l) (i : Nat) : szR k (l.drop i) := fun x hx => h x (List.mem_of_mem_drop hx)
theorem zMulZJ (v w : Value) (x : Int) (y : Bool × List Nat) (a : Nat) (hx : sz x a) (ha : a ≤ 137438953472) (hy : Lim y.2) (ly : y.2.length ≤ 137438953472) :
    Meets Try.prog 51 [v, w] [(v, zd x), (w, J y)] (fun r os fs => os = [] ∧ fs = [(r, zd (x * jv y))]) := by
  have h := zMulJ v w (cn x) y (Lim_lims _) (Nat.le_trans hx.len ha) hy ly
  rw [jv_cn] at h
  exact h
end Go.Proofs.Ytabdfhdddmbmlaa

namespace Go.Proofs.Ytabdfhdddmbmlaa
def dg (l : List Int) : Nat := (nrm l).length
def ld (l : List Int) : Int := l.getD (dg l - 1) 0
theorem co_ext {l m : List Int} (h : ∀ x, pev l x = pev m x) (i : Nat) : l.getD i 0 = m.getD i 0 := by rw [← co_nrm l, ev_ext h, co_nrm]
theorem dg_ext {l m : List Int} (h : ∀ x, pev l x = pev m x) : dg l = dg m := by unfold dg; rw [ev_ext h]
theorem ld_ext {l m : List Int} (h : ∀ x, pev l x = pev m x) : ld l = ld m := by unfold ld; rw [dg_ext h, co_ext h]
theorem dg_nm {l : List Int} (h : Nm l) : dg l = l.length := by unfold dg; rw [h]
theorem dg_le {l : List Int} {n : Nat} : dg l ≤ n ↔ ∀ i, n ≤ i → l.getD i 0 = 0 := by
  constructor
  · intro h i hi
    rw [← co_nrm]
    exact getD_none (Nat.le_trans h hi)
  · intro h
    refine Nat.le_of_not_lt fun hn => ?_
    have := nrm_last l (show 0 < (nrm l).length by unfold dg at hn; omega)
    rw [co_nrm] at this
    exact this (h _ (by unfold dg at hn; omega))
theorem ld_ne {l : List Int} (h : 0 < dg l) : ld l ≠ 0 := by
  have := nrm_last l h
  rwa [co_nrm] at this
theorem dg_zero {l : List Int} : dg l = 0 ↔ ∀ x, pev l x = 0 := by
  constructor
  · intro h x
    rw [← ev_nrm, List.length_eq_zero_iff.1 h]; rfl
  · intro h
    have := dg_ext (l := l) (m := []) fun x => by rw [h]; rfl
    rw [this]; rfl
theorem dg_pos {l : List Int} (h : ¬ ∀ x, pev l x = 0) : 0 < dg l := Nat.pos_of_ne_zero fun e => h (dg_zero.1 e)
theorem co_psub (l m : List Int) (i : Nat) : (psub l m).getD i 0 = l.getD i 0 - m.getD i 0 := by
  rw [psub, co_nrm, lst_get']
  split
  · rfl
  · rw [getD_none (by omega), getD_none (by omega)]; rfl
theorem co_padd (l m : List Int) (i : Nat) : (padd l m).getD i 0 = l.getD i 0 + m.getD i 0 := by
  rw [padd, co_nrm, lst_get']
  split
  · rfl
  · rw [getD_none (by omega), getD_none (by omega)]; rfl
theorem co_map (c : Int) (l : List Int) (i : Nat) : (l.map fun y => c * y).getD i 0 = c * l.getD i 0 := by
  simp only [List.getD_eq_getElem?_getD, List.getElem?_map]
  cases l[i]? <;> simp
theorem co_prai (c : Int) (s : Nat) (l : List Int) (i : Nat) : (prai c s l).getD i 0 = if i < s then 0 else c * l.getD (i - s) 0 := by
  rw [prai, co_nrm, up_get]
  split
  · rfl
  · rw [co_map]
/-- The product's degree and lead. -/
theorem pmul_dg {a b : List Int} (ha : 0 < dg a) (hb : 0 < dg b) : dg (pmul a b) + 1 = dg a + dg b ∧ ld (pmul a b) = ld a * ld b := by
  have ea : ld a = (nrm a).getD ((nrm a).length - 1) 0 := by rw [co_nrm]; rfl
  have eb : ld b = (nrm b).getD ((nrm b).length - 1) 0 := by rw [co_nrm]; rfl
  have h1 : ¬ (nrm a = [] ∨ nrm b = []) := by
    unfold dg at ha hb
    rintro (h | h)
    · rw [h] at ha; simp at ha
    · rw [h] at hb; simp at hb
  have hn : (lst ((nrm a).length + (nrm b).length - 1) fun y => conv (nrm a) (nrm b) (nrm a).length y).getD ((nrm a).length + (nrm b).length - 1 - 1) 0 = ld a * ld b := by
    unfold dg at ha hb
    rw [lst_get (by omega), conv, isum_one (r := (nrm a).length - 1) (by omega) fun k hk hne => by
      split
      · rw [getD_none (l := nrm b) (by omega), Int.mul_zero]
      · rfl]
    rw [if_pos (by omega), ea, eb]
    congr 2; omega
  have hne : ld a * ld b ≠ 0 := Int.mul_ne_zero (ld_ne ha) (ld_ne hb)
  have e : pmul a b = lst ((nrm a).length + (nrm b).length - 1) fun y => conv (nrm a) (nrm b) (nrm a).length y := by
    unfold pmul
    simp only
    rw [if_neg h1]
    refine nrm_of_last (.inr ?_)
    rw [lst_len, hn]; exact hne
  have hd : dg (pmul a b) = (nrm a).length + (nrm b).length - 1 := by
    rw [dg_nm (pmul_nm a b), e, lst_len]
  refine ⟨by rw [hd]; unfold dg at ha hb ⊢; omega, ?_⟩
  unfold ld
  rw [hd, e, hn]
  rfl
theorem mul_dg {a b c : List Int} (h : ∀ x, pev c x = pev a x * pev b x) (ha : 0 < dg a) (hb : 0 < dg b) : dg c + 1 = dg a + dg b ∧ ld c = ld a * ld b := by
  have e : ∀ x, pev c x = pev (pmul a b) x := fun x => by rw [h, ev_pmul]
  rw [dg_ext e, ld_ext e]
  exact pmul_dg ha hb
/-- a is a divisor of b. -/
def Dv (a b : List Int) : Prop := ∃ u, ∀ x, pev b x = pev a x * pev u x
theorem Dv.refl (a : List Int) : Dv a a := ⟨[1], fun x => by simp [pev]⟩
theorem Dv.trans {a b c : List Int} (h : Dv a b) (k : Dv b c) : Dv a c := by
  obtain ⟨u, hu⟩ := h; obtain ⟨v, hv⟩ := k
  exact ⟨pmul u v, fun x => by rw [hv, hu, ev_pmul]; grind⟩
theorem Dv.zero (a : List Int) {b : List Int} (h : ∀ x, pev b x = 0) : Dv a b := ⟨[], fun x => by rw [h]; simp [pev]⟩
theorem Dv.mul_right {a b c d : List Int} (h : Dv a b) (e : ∀ x, pev d x = pev b x * pev c x) : Dv a d := by
  obtain ⟨u, hu⟩ := h
  exact ⟨pmul u c, fun x => by rw [e, hu, ev_pmul]; grind⟩
theorem Dv.add {a b c d : List Int} (h : Dv a b) (k : Dv a c) (e : ∀ x, pev d x = pev b x + pev c x) : Dv a d := by
  obtain ⟨u, hu⟩ := h; obtain ⟨v, hv⟩ := k
  exact ⟨padd u v, fun x => by rw [e, hu, hv, ev_padd]; grind⟩
theorem Dv.sub {a b c d : List Int} (h : Dv a b) (k : Dv a c) (e : ∀ x, pev d x = pev b x - pev c x) : Dv a d := by
  obtain ⟨u, hu⟩ := h; obtain ⟨v, hv⟩ := k
  exact ⟨psub u v, fun x => by rw [e, hu, hv, ev_psub]; grind⟩
theorem Dv.deg {a b : List Int} (h : Dv a b) (hb : 0 < dg b) : 0 < dg a ∧ dg a ≤ dg b := by
  obtain ⟨u, hu⟩ := h
  have ha : 0 < dg a := dg_pos fun h => by
    have := (dg_zero (l := b)).2 fun x => by rw [hu, h]; simp
    omega
  have h2 : 0 < dg u := dg_pos fun h => by
    have := (dg_zero (l := b)).2 fun x => by rw [hu, h]; simp
    omega
  have := (mul_dg hu ha h2).1
  exact ⟨ha, by omega⟩
-- Contents.
def cont (l : List Int) : Nat := l.foldr (fun c g => Nat.gcd c.natAbs g) 0
theorem dvd_cont {k : Nat} {l : List Int} : k ∣ cont l ↔ ∀ i, (k : Int) ∣ l.getD i 0 := by
  induction l with
  | nil => exact ⟨fun _ i => by simp, fun _ => Nat.dvd_zero k⟩
  | cons c l ih =>
    show k ∣ Nat.gcd c.natAbs (cont l) ↔ _
    rw [Nat.dvd_gcd_iff, ih]
    constructor
    · rintro ⟨h1, h2⟩ i
      cases i with
      | zero => exact Int.ofNat_dvd_left.2 h1
      | succ i => simpa using h2 i
    · intro h
      exact ⟨Int.ofNat_dvd_left.1 (by simpa using h 0), fun i => by simpa using h (i + 1)⟩
theorem cont_ext {l m : List Int} (h : ∀ x, pev l x = pev m x) : cont l = cont m :=
  Nat.dvd_antisymm (dvd_cont.2 fun i => by rw [← co_ext h]; exact dvd_cont.1 (Nat.dvd_refl _) i) (dvd_cont.2 fun i => by rw [co_ext h]; exact dvd_cont.1 (Nat.dvd_refl _) i)
theorem cont_zero {l : List Int} : cont l = 0 ↔ dg l = 0 := by
  constructor
  · intro h
    have := dvd_cont.1 (show 0 ∣ cont l from ⟨0, by omega⟩)
    refine Nat.eq_zero_of_not_pos fun hp => ld_ne hp ?_
    exact Int.zero_dvd.1 (this _)
  · intro h
    refine Nat.eq_zero_of_zero_dvd (dvd_cont.2 fun i => ?_)
    rw [dg_le.1 (Nat.le_of_eq h) i (Nat.zero_le i)]; exact ⟨0, by simp⟩
theorem cont_map (c : Int) (l : List Int) : cont (l.map fun y => c * y) = c.natAbs * cont l := by
  induction l with
  | nil => rfl
  | cons d l ih =>
    show Nat.gcd (c * d).natAbs (cont _) = c.natAbs * Nat.gcd d.natAbs (cont l)
    rw [ih, Int.natAbs_mul, Nat.gcd_mul_left]
theorem cont_mul {l m : List Int} {c : Int} (h : ∀ x, pev m x = c * pev l x) : cont m = c.natAbs * cont l := by
  rw [← cont_map]; exact cont_ext fun x => by rw [h, ev_map_mul]
/-- What a number divides. -/
theorem by_const {k : Nat} {l : List Int} (h : k ∣ cont l) : ∃ u, ∀ x, pev l x = k * pev u x := by
  refine ⟨l.map fun y => y / k, fun x => ?_⟩
  rw [← ev_map_mul]
  congr 1
  rw [List.map_map]
  have : ∀ y, y ∈ l → y = ((fun y => (k : Int) * y) ∘ fun y => y / k) y := fun y hy => by
    obtain ⟨i, hi, rfl⟩ := List.mem_iff_getElem.1 hy
    have := dvd_cont.1 h i
    rw [List.getD_eq_getElem?_getD, List.getElem?_eq_getElem hi] at this
    exact (Int.mul_ediv_cancel' this).symm
  exact (List.map_id l).symm.trans (List.map_congr_left this)
theorem prim_exists {l : List Int} (h : 0 < dg l) : ∃ u, cont u = 1 ∧ ∀ x, pev l x = cont l * pev u x := by
  obtain ⟨u, hu⟩ := by_const (Nat.dvd_refl (cont l))
  refine ⟨u, ?_, hu⟩
  have h1 := cont_mul hu
  rw [Int.natAbs_natCast] at h1
  have h2 : cont l ≠ 0 := fun e => by have := cont_zero.1 e; omega
  exact Nat.eq_of_mul_eq_mul_left (Nat.pos_of_ne_zero h2) (by omega)
/-- Without its lead. -/
def tail (l : List Int) : List Int := psub l (prai (ld l) (dg l - 1) [1])
theorem tail_dg {l : List Int} (h : 0 < dg l) : dg (tail l) < dg l := by
  have : dg (tail l) ≤ dg l - 1 := dg_le.2 fun i hi => by
    rw [tail, co_psub, co_prai, if_neg (by omega)]
    by_cases e : i = dg l - 1
    · rw [e, Nat.sub_self]; simp [ld]
    · rw [dg_le.1 (Nat.le_refl (dg l)) i (by omega), getD_none (l := [1]) (by simp; omega)]; simp
  omega
theorem tail_ev (l : List Int) (x : Int) : pev l x = pev (tail l) x + ld l * x ^ (dg l - 1) := by
  rw [tail, ev_psub, ev_prai]; simp only [pev]; grind
/-- Gauss: a content of a product is a product of contents. -/
theorem gauss : ∀ (n : Nat) (a b c : List Int), dg a + dg b ≤ n → (∀ x, pev c x = pev a x * pev b x) → cont c = cont a * cont b := by
  intro n
  induction n with
  | zero =>
    intro a b c hn h
    have h1 : dg a = 0 := by omega
    have h2 : dg c = 0 := dg_zero.2 fun x => by rw [h, dg_zero.1 h1]; simp
    rw [cont_zero.2 h1, cont_zero.2 h2]; simp
  | succ n ih =>
    intro a b c hn h
    by_cases ha : dg a = 0
    · have h2 : dg c = 0 := dg_zero.2 fun x => by rw [h, dg_zero.1 ha]; simp
      rw [cont_zero.2 ha, cont_zero.2 h2]; simp
    by_cases hb : dg b = 0
    · have h2 : dg c = 0 := dg_zero.2 fun x => by rw [h, dg_zero.1 hb]; simp
      rw [cont_zero.2 hb, cont_zero.2 h2]; simp
    obtain ⟨a1, ha1, ea⟩ := prim_exists (Nat.pos_of_ne_zero ha)
    obtain ⟨b1, hb1, eb⟩ := prim_exists (Nat.pos_of_ne_zero hb)
    have hca : cont a ≠ 0 := fun e => ha (cont_zero.1 e)
    have hcb : cont b ≠ 0 := fun e => hb (cont_zero.1 e)
    have hda : 0 < dg a1 := dg_pos fun e => ha (dg_zero.2 fun x => by rw [ea, e]; simp)
    have hdb : 0 < dg b1 := dg_pos fun e => hb (dg_zero.2 fun x => by rw [eb, e]; simp)
    have da : dg a1 ≤ dg a := ((show Dv a1 a from ⟨[(cont a : Int)], fun x => by rw [ea]; simp only [pev]; grind⟩).deg (by omega)).2
    have db : dg b1 ≤ dg b := ((show Dv b1 b from ⟨[(cont b : Int)], fun x => by rw [eb]; simp only [pev]; grind⟩).deg (by omega)).2
    have key : cont (pmul a1 b1) = 1 := by
      have hk : ∀ (u v : List Int), dg u + dg v ≤ n + 1 → cont u = 1 → cont v = 1 → 0 < dg u → Nat.gcd (cont (pmul u v)) (ld u).natAbs = 1 := fun u v hl hu hv hd => by
        have t := tail_dg hd
        have e1 := ih (tail u) v (pmul (tail u) v) (by omega) (ev_pmul _ _)
        rw [hv, Nat.mul_one] at e1
        have g1 : Nat.gcd (cont (pmul u v)) (ld u).natAbs ∣ cont (tail u) := by
          rw [← e1]
          refine dvd_cont.2 fun i => ?_
          have e2 : ∀ x, pev (pmul (tail u) v) x = pev (psub (pmul u v) (prai (ld u) (dg u - 1) v)) x := fun x => by
            rw [ev_pmul, ev_psub, ev_pmul, ev_prai, tail_ev u x]; grind
          rw [co_ext e2, co_psub, co_prai]
          refine Int.dvd_sub (Int.dvd_trans (Int.natCast_dvd_natCast.2 (Nat.gcd_dvd_left _ _)) (dvd_cont.1 (Nat.dvd_refl _) i)) ?_
          split
          · exact ⟨0, by simp⟩
          · exact Int.dvd_trans (Int.ofNat_dvd_left.2 (Nat.gcd_dvd_right _ _)) ⟨_, rfl⟩
        have g2 : Nat.gcd (cont (pmul u v)) (ld u).natAbs ∣ cont u := by
          refine dvd_cont.2 fun i => ?_
          have e3 : ∀ x, pev u x = pev (padd (tail u) (prai (ld u) (dg u - 1) [1])) x := fun x => by
            rw [ev_padd, ev_prai, tail_ev u x]; simp only [pev]; grind
          rw [co_ext e3, co_padd, co_prai]
          refine Int.dvd_add (dvd_cont.1 g1 i) ?_
          split
          · exact ⟨0, by simp⟩
          · exact Int.dvd_trans (Int.ofNat_dvd_left.2 (Nat.gcd_dvd_right _ _)) ⟨_, rfl⟩
        rw [hu] at g2
        exact Nat.dvd_one.1 g2
      have k1 := hk a1 b1 (by omega) ha1 hb1 hda
      have k2 := hk b1 a1 (by omega) hb1 ha1 hdb
      have e4 : cont (pmul b1 a1) = cont (pmul a1 b1) := cont_ext fun x => by rw [ev_pmul, ev_pmul, Int.mul_comm]
      rw [e4] at k2
      have h5 : (cont (pmul a1 b1) : Int) ∣ ld a1 * ld b1 := by
        rw [← (pmul_dg hda hdb).2]
        exact dvd_cont.1 (Nat.dvd_refl _) _
      have h6 : cont (pmul a1 b1) ∣ (ld a1).natAbs * (ld b1).natAbs := by rw [← Int.natAbs_mul]; exact Int.ofNat_dvd_left.1 h5
      have h7 : cont (pmul a1 b1) ∣ (ld b1).natAbs := Nat.Coprime.dvd_of_dvd_mul_left k1 h6
      have h8 : Nat.gcd (cont (pmul a1 b1)) (ld b1).natAbs = cont (pmul a1 b1) := Nat.gcd_eq_left h7
      omega
    have e5 : ∀ x, pev c x = ((cont a * cont b : Nat) : Int) * pev (pmul a1 b1) x := fun x => by
      rw [h, ea, eb, ev_pmul]; push_cast; grind
    rw [cont_mul e5, key, Int.natAbs_natCast, Nat.mul_one]
theorem cont_prod {a b c : List Int} (h : ∀ x, pev c x = pev a x * pev b x) : cont c = cont a * cont b := gauss _ a b c (Nat.le_refl _) h
end Go.Proofs.Ytabdfhdddmbmlaa

namespace Go.Proofs.Ytabdfhdddmbmlaa
/-- A greatest common divisor, its lead not below 0. -/
def Gc (g p q : List Int) : Prop := Dv g p ∧ Dv g q ∧ (∀ h, Dv h p → Dv h q → Dv h g) ∧ 0 ≤ ld g
theorem const_ev {u : List Int} (h : dg u ≤ 1) (x : Int) : pev u x = u.getD 0 0 := by
  have : nrm u = nrm [u.getD 0 0] := nrm_ext fun i => by
    cases i with
    | zero => rfl
    | succ i => rw [dg_le.1 h (i + 1) (by omega)]; rfl
  rw [ev_of_nrm this]; simp [pev]
/-- The content, with the sign of the lead. -/
def scont (l : List Int) : Int := if ld l < 0 then - (cont l : Int) else cont l
def pprim (l : List Int) : List Int := nrm ((nrm l).map fun y => y / scont l)
end Go.Proofs.Ytabdfhdddmbmlaa

namespace Go.Proofs.Ytabdfhdddmbmlaa
open Go.RowKit
theorem szR.take {k : Nat} {l : List Int} (h : szR k l) (i : Nat) : szR k (l.take i) := fun x hx => h x (List.mem_of_mem_take hx)
theorem zAbsZ (v : Value) (x : Int) (a : Nat) (hx : sz x a) (ha : a ≤ 137438953472) :
    Meets Try.prog 40 [v] [(v, zd x)] (fun r os fs => os = [] ∧ fs = [(r, zd (x.natAbs : Nat))]) := by
  have h := zabs_meets v (decide (x < 0)) (lims x.natAbs) (Lim_lims _) (Nat.le_trans hx.len ha)
  rw [nv_lims] at h
  exact h
end Go.Proofs.Ytabdfhdddmbmlaa

namespace Go.Proofs.Ytabdfhdddmbmlaa
open Go.RowKit
end Go.Proofs.Ytabdfhdddmbmlaa

namespace Go.Proofs.Ytabdfhdddmbmlaa
open Go.RowKit
/-- What Rest tells: t and r with L^d p = q t + r, r of a lesser degree. -/
structure RestSpec (p q t r : List Int) : Prop where
  tn : Nm t
  rn : Nm r
  low : dg r < dg q
  eq : ∀ x, ld q ^ (dg p + 1 - dg q) * pev p x = pev q x * pev t x + pev r x
end Go.Proofs.Ytabdfhdddmbmlaa

namespace Go.Proofs.Ytabdfhdddmbmlaa
open Go.RowKit
end Go.Proofs.Ytabdfhdddmbmlaa

namespace Go.Proofs.Ytabdfhdddmbmlaa
end Go.Proofs.Ytabdfhdddmbmlaa

namespace Go.Proofs.Ytabdfhdddmbmlaa
open Go.RowKit
end Go.Proofs.Ytabdfhdddmbmlaa

namespace Go.Proofs.Ytabdfhdddmbmlaa
open Go.RowKit
/-- t and the errno that Divide tells. -/
structure DivSpec (p q t : List Int) (e : Int) : Prop where
  tn : Nm t
  zero : dg q = 0 → e = 2 ∧ t = []
  ok : 0 < dg q → Dv q p → e = 0 ∧ ∀ x, pev p x = pev q x * pev t x
  no : 0 < dg q → ¬ Dv q p → e = 11 ∧ t = []
def put (f : Nat → Int) (s : Nat) (c : Int) : Nat → Int := fun y => if y = s then c else f y
end Go.Proofs.Ytabdfhdddmbmlaa

namespace Go.Proofs.Ytabdfhdddmbmlaa
-- What no other one divides.
/-- Of one degree, and primitive: the same but for the sign. -/
theorem Dv.back {d h : List Int} (hh : cont h = 1) (k : Dv d h) (e : dg d = dg h) : Dv h d := by
  have h0 : 0 < dg h := Nat.pos_of_ne_zero fun e => by rw [cont_zero.2 e] at hh; omega
  obtain ⟨u, hu⟩ := k
  have hu0 : 0 < dg u := dg_pos fun e => by
    have := (dg_zero (l := h)).2 fun x => by rw [hu, e]; simp
    omega
  have h1 := (mul_dg hu (by omega) hu0).1
  have h2 := cont_prod hu
  rw [hh] at h2
  have h3 : cont u = 1 := by
    exact Nat.eq_one_of_mul_eq_one_left h2.symm
  have h4 : ∀ x, pev u x = u.getD 0 0 := const_ev (by omega)
  have h5 : cont u = (u.getD 0 0).natAbs := by
    have := cont_ext (l := u) (m := [u.getD 0 0]) fun x => by rw [h4]; simp [pev]
    rw [this]; simp [cont]
  have h6 : u.getD 0 0 * u.getD 0 0 = 1 := by
    have : (u.getD 0 0).natAbs = 1 := by omega
    have h7 := Int.natAbs_mul_self (a := u.getD 0 0)
    rw [this] at h7; simpa using h7.symm
  exact ⟨u, fun x => by rw [hu, h4, Int.mul_assoc, h6, Int.mul_one]⟩
-- Derivatives.
def pder (l : List Int) : List Int := nrm (lst (l.length - 1) fun i => ((i + 1 : Nat) : Int) * l.getD (i + 1) 0)
end Go.Proofs.Ytabdfhdddmbmlaa

namespace Go.Proofs.Ytabdfhdddmbmlaa
open Go.RowKit
theorem lst_snoc (n : Nat) (f : Nat → Int) : lst (n + 1) f = lst n f ++ [f n] := by
  simp [lst, List.range_succ]
end Go.Proofs.Ytabdfhdddmbmlaa

namespace Go.Proofs.Ytabdfhdddmbmlaa
open Go.RowKit
end Go.Proofs.Ytabdfhdddmbmlaa

namespace Go.Proofs.Ytabdfhdddmbmlaa
open Go.RowKit
/-- What Simple tells. -/
structure SimSpec (p s : List Int) : Prop where
  sn : Nm s
  zero : dg p = 0 → s = []
  ok : 0 < dg p → ∃ g, Gc g (pprim p) (pder (pprim p)) ∧ ∀ x, pev (pprim p) x = pev g x * pev s x
end Go.Proofs.Ytabdfhdddmbmlaa

namespace Go.Proofs.Ytabdfhdddmbmlaa
open Go.RowKit
theorem ev_lst_snoc (n : Nat) (f : Nat → Int) (x : Int) : pev (lst (n + 1) f) x = pev (lst n f) x + x ^ n * f n := by
  rw [lst_snoc, ev_append, lst_len]; simp [pev]
/-- Of the numbers from i on, those above m are already moved. -/
def ShI (n : Nat) (a : Int) (U : Int → Int) (f : Nat → Int) (i m : Nat) : Prop :=
  ∀ x, U x = pev (lst (m - i) fun y => f (i + y)) x + x ^ (m - i) * (f m + (x - a) * pev (lst (n - 1 - m) fun y => f (m + 1 + y)) x)
def ShO (n : Nat) (a : Int) (P : Int → Int) (f : Nat → Int) (i : Nat) : Prop :=
  ∀ x, P x = pev (lst i f) (x - a) + (x - a) ^ i * pev (lst (n - i) fun y => f (i + y)) x
theorem ShI.start {n i : Nat} {a : Int} {f : Nat → Int} (h : i < n) : ShI n a (fun x => pev (lst (n - i) fun y => f (i + y)) x) f i (n - 1) := fun x => by
  have e : n - i = (n - 1 - i) + 1 := by omega
  have e2 : i + (n - 1 - i) = n - 1 := by omega
  simp only
  rw [e, ev_lst_snoc, e2, show n - 1 - (n - 1) = 0 by omega]
  simp [lst, pev]
theorem ShI.step {n i m : Nat} {a : Int} {U : Int → Int} {f : Nat → Int} (h : ShI n a U f i m) (hm : i < m) (hn : m ≤ n - 1) : ShI n a U (put f (m - 1) (f (m - 1) + a * f m)) i (m - 1) := fun x => by
  rw [h x]
  have e : m - i = (m - 1 - i) + 1 := by omega
  have e2 : i + (m - 1 - i) = m - 1 := by omega
  have e3 : n - 1 - (m - 1) = (n - 1 - m) + 1 := by omega
  have c1 : lst (m - 1 - i) (fun y => put f (m - 1) (f (m - 1) + a * f m) (i + y)) = lst (m - 1 - i) fun y => f (i + y) := lst_congr fun y hy => by unfold put; rw [if_neg (by omega)]
  have c2 : lst (n - 1 - m) (fun y => put f (m - 1) (f (m - 1) + a * f m) (m - 1 + 1 + (y + 1))) = lst (n - 1 - m) fun y => f (m + 1 + y) := lst_congr fun y hy => by unfold put; rw [if_neg (by omega)]; congr 1; omega
  have c3 : put f (m - 1) (f (m - 1) + a * f m) (m - 1 + 1 + 0) = f m := by unfold put; rw [if_neg (by omega)]; congr 1; omega
  have c4 : put f (m - 1) (f (m - 1) + a * f m) (m - 1) = f (m - 1) + a * f m := by unfold put; rw [if_pos rfl]
  rw [e, ev_lst_snoc, e2, e3, ev_lst_succ, c1, c2, c3, c4, Int.pow_succ]
  grind
theorem ShO.next {n i : Nat} {a : Int} {P : Int → Int} {f f' : Nat → Int} (h : ShO n a P f i) (hi : i < n) (hs : ShI n a (fun x => pev (lst (n - i) fun y => f (i + y)) x) f' i i) (hf : ∀ y, y < i → f' y = f y) : ShO n a P f' (i + 1) := fun x => by
  have h1 := hs x
  simp only [Nat.sub_self, Int.pow_zero] at h1
  have c1 : lst i f = lst i f' := lst_congr fun y hy => (hf y hy).symm
  rw [h x, h1, c1, ev_lst_snoc, show n - (i + 1) = n - 1 - i by omega, Int.pow_succ]
  simp only [lst, List.range_zero, List.map_nil, pev]
  grind
end Go.Proofs.Ytabdfhdddmbmlaa

namespace Go.Proofs.Ytabdfhdddmbmlaa
open Go.RowKit
theorem cmpN_range (a b : Nat) : -1 ≤ cmpN a b ∧ cmpN a b ≤ 1 ∧ (cmpN a b = 0 ↔ a = b) := by
  unfold cmpN
  split
  · omega
  · split <;> omega
end Go.Proofs.Ytabdfhdddmbmlaa

namespace Go.Proofs.Ytabdfhdddmbmlaa
/-- The product of two rows, of m places. -/
def ip (m : Nat) (u v : Nat → Int) : Int := isum (fun c => u c * v c) m
def gr (m : Nat) (b : Mx) : Mx := fun i j => ip m (b i) (b j)
/-- k - 1 .. 0. -/
def dn : Nat → List Nat
  | 0 => []
  | k + 1 => k :: dn k
/-- The table: what is left of (i, j) after k steps. -/
def mi (G : Mx) (k i j : Nat) : Int := det (k + 1) (sub' G (i :: dn k) (j :: dn k))
def dG (G : Mx) (k : Nat) : Int := det k (sub' G (dn k) (dn k))
theorem dn_get {k j : Nat} (h : j < k) : (dn k).getD j 0 = k - 1 - j := by
  induction k generalizing j with
  | zero => omega
  | succ k ih =>
    cases j with
    | zero => rw [dn, List.getD_cons_zero]; omega
    | succ j => rw [dn, List.getD_cons_succ, ih (by omega)]; omega
theorem ip_comm (m : Nat) (u v : Nat → Int) : ip m u v = ip m v u := isum_congr fun c _ => Int.mul_comm _ _
theorem gr_symm (m : Nat) (b : Mx) (i j : Nat) : gr m b i j = gr m b j i := ip_comm _ _ _
theorem dG_zero (G : Mx) : dG G 0 = 1 := rfl
theorem dG_succ (G : Mx) (k : Nat) : dG G (k + 1) = mi G k k k := rfl
theorem mi_none (G : Mx) (i j : Nat) : mi G 0 i j = G i j := by simp [mi, dn, det, isum, sg, sub']
theorem mi_symm {G : Mx} (h : ∀ i j, G i j = G j i) (k i j : Nat) : mi G k i j = mi G k j i := by
  unfold mi
  rw [← det_tr]
  exact det_congr fun x y _ _ => h _ _
theorem mi_step {G : Mx} {k : Nat} (h : dG G k ≠ 0) (i j : Nat) : dG G k * mi G (k + 1) i j = dG G (k + 1) * mi G k i j - mi G k i k * mi G k k j :=
  sylv G k k i k j (dn k) (dn k) h
theorem mi_low {G : Mx} {k i j : Nat} (hj : j < k) : mi G k i j = 0 :=
  bord_zero G (dn k) (dn k) (j := k - 1 - j) (by omega) (by rw [dn_get (by omega)]; omega)
theorem mi_low' {G : Mx} (h : ∀ i j, G i j = G j i) {k i j : Nat} (hi : i < k) : mi G k i j = 0 := by rw [mi_symm h, mi_low hi]
theorem dG_congr {G H : Mx} {k : Nat} (h : ∀ i j, i < k → j < k → G i j = H i j) : dG G k = dG H k :=
  det_congr fun x y hx hy => by
    show G ((dn k).getD x 0) ((dn k).getD y 0) = H _ _
    rw [dn_get hx, dn_get hy]; exact h _ _ (by omega) (by omega)
-- What is orthogonal.
/-- The cofactor of the r-th row of k, k - 1 .. 0, at a column ahead. -/
def cf (G : Mx) (k r : Nat) : Int := sg r * det k (cut (sub' G (dn (k + 1)) (0 :: dn k)) r 0)
theorem cf_zero (G : Mx) (k : Nat) : cf G k 0 = dG G k := by
  unfold cf dG
  rw [sg_zero, Int.one_mul]
  exact det_congr fun x y _ _ => by simp [cut, sub', sk_zero, dn]
theorem mi_cf (G : Mx) (k j : Nat) : mi G k k j = isum (fun r => G (k - r) j * cf G k r) (k + 1) := by
  unfold mi
  rw [det]
  refine isum_congr fun r hr => ?_
  have e1 : det k (cut (sub' G (k :: dn k) (j :: dn k)) r 0) = det k (cut (sub' G (dn (k + 1)) (0 :: dn k)) r 0) := det_congr fun x y _ _ => by simp [cut, sub', sk_zero, dn]
  have e2 : sub' G (k :: dn k) (j :: dn k) r 0 = G (k - r) j := by
    show G ((dn (k + 1)).getD r 0) j = _
    rw [dn_get hr]; congr 1
  rw [e1, e2]; unfold cf; grind
/-- The row k, straightened, times dG k. -/
def wv (m : Nat) (b : Mx) (k : Nat) : Nat → Int := fun c => isum (fun r => b (k - r) c * cf (gr m b) k r) (k + 1)
theorem ip_wv (m : Nat) (b : Mx) (k : Nat) (v : Nat → Int) : ip m (wv m b k) v = isum (fun r => ip m (b (k - r)) v * cf (gr m b) k r) (k + 1) := by
  unfold ip wv
  have h1 : isum (fun c => isum (fun r => b (k - r) c * cf (gr m b) k r) (k + 1) * v c) m = isum (fun c => isum (fun r => b (k - r) c * v c * cf (gr m b) k r) (k + 1)) m :=
    isum_congr fun c _ => by
      rw [← isum_mul_right]
      exact isum_congr fun r _ => by grind
  rw [h1, isum_swap]
  exact isum_congr fun r _ => isum_mul_right _ _ _
theorem wv_row (m : Nat) (b : Mx) (k j : Nat) : ip m (wv m b k) (b j) = mi (gr m b) k k j := by
  rw [ip_wv, mi_cf]; rfl
theorem wv_wv (m : Nat) (b : Mx) (k : Nat) : ip m (wv m b k) (wv m b k) = dG (gr m b) k * dG (gr m b) (k + 1) := by
  have h1 : ip m (wv m b k) (wv m b k) = isum (fun r => ip m (b (k - r)) (wv m b k) * cf (gr m b) k r) (k + 1) := ip_wv _ _ _ _
  rw [h1, isum_one (r := 0) (by omega) fun r hr h0 => by
    rw [ip_comm, wv_row, mi_low (by omega), Int.zero_mul], ip_comm, Nat.sub_zero, wv_row, cf_zero, dG_succ]
  exact Int.mul_comm _ _
theorem isum_nn {f : Nat → Int} {n : Nat} (h : ∀ i, i < n → 0 ≤ f i) : 0 ≤ isum f n := by
  induction n with
  | zero => exact Int.le_refl _
  | succ n ih => exact Int.add_nonneg (ih fun i hi => h i (by omega)) (h n (by omega))
theorem sq_nn (x : Int) : 0 ≤ x * x := by
  rcases Int.le_total 0 x with h | h
  · exact Int.mul_nonneg h h
  · have := Int.mul_nonneg (Int.neg_nonneg_of_nonpos h) (Int.neg_nonneg_of_nonpos h)
    rwa [Int.neg_mul_neg] at this
theorem ip_nn (m : Nat) (u : Nat → Int) : 0 ≤ ip m u u := isum_nn fun _ _ => sq_nn _
theorem dG_pos {m : Nat} {b : Mx} {n : Nat} (h : ∀ k, k ≤ n → dG (gr m b) k ≠ 0) : ∀ k, k ≤ n → 0 < dG (gr m b) k
  | 0, _ => by rw [dG_zero]; decide
  | k + 1, hk => by
    have h1 := dG_pos h k (by omega)
    have h2 : 0 ≤ dG (gr m b) k * dG (gr m b) (k + 1) := by rw [← wv_wv]; exact ip_nn _ _
    have h3 := h (k + 1) hk
    rcases Int.lt_trichotomy (dG (gr m b) (k + 1)) 0 with h4 | h4 | h4
    · have := Int.mul_neg_of_pos_of_neg h1 h4; omega
    · exact absurd h4 h3
    · exact h4
/-- Cauchy and Schwarz. -/
theorem cauchy (m : Nat) (u v : Nat → Int) : ip m u v * ip m u v ≤ ip m u u * ip m v v := by
  by_cases h0 : ip m u u = 0
  · have hz : ∀ c, c < m → u c = 0 := by
      intro c hc
      have key : ∀ n, isum (fun c => u c * u c) n = 0 → ∀ c, c < n → u c * u c = 0 := fun n => by
        induction n with
        | zero => intro _ c hc; omega
        | succ n ih =>
          intro hs c hc
          have h1 : 0 ≤ isum (fun c => u c * u c) n := isum_nn fun _ _ => sq_nn _
          have h2 := sq_nn (u n)
          have h3 : isum (fun c => u c * u c) n + u n * u n = 0 := hs
          by_cases e : c = n
          · rw [e]; omega
          · exact ih (by omega) c (by omega)
      rcases Int.mul_eq_zero.1 (key m h0 c hc) with h | h <;> exact h
    have : ip m u v = 0 := isum_zero fun c hc => by rw [hz c hc, Int.zero_mul]
    rw [this, h0]; simp
  · have hp : 0 < ip m u u := by have := ip_nn m u; omega
    have h1 : 0 ≤ ip m (fun c => ip m u u * v c - ip m u v * u c) (fun c => ip m u u * v c - ip m u v * u c) := ip_nn _ _
    have h2 : ip m (fun c => ip m u u * v c - ip m u v * u c) (fun c => ip m u u * v c - ip m u v * u c) = ip m u u * (ip m u u * ip m v v - ip m u v * ip m u v) := by
      generalize hA : ip m u u = A
      generalize hB : ip m u v = B
      have e : ip m (fun c => A * v c - B * u c) (fun c => A * v c - B * u c) = A * A * ip m v v - 2 * A * B * ip m u v + B * B * ip m u u := by
        unfold ip
        have e1 : isum (fun c => (A * v c - B * u c) * (A * v c - B * u c)) m = isum (fun c => A * A * (v c * v c) + (-(2 * A * B) * (u c * v c) + B * B * (u c * u c))) m := isum_congr fun c _ => by grind
        rw [e1, isum_add, isum_add, isum_mul, isum_mul, isum_mul]; grind
      rw [e, hA, hB]; grind
    rw [h2] at h1
    have := Int.nonneg_of_mul_nonneg_right (a := ip m u u) (b := ip m u u * ip m v v - ip m u v * ip m u v) (by exact h1) hp
    omega
end Go.Proofs.Ytabdfhdddmbmlaa

namespace Go.Proofs.Ytabdfhdddmbmlaa
def redq (b : Mx) (k j : Nat) (q : Int) : Mx := fun i c => if i = k then b k c - q * b j c else b i c
def sx (p : Nat) (i : Nat) : Nat := if i = p then p + 1 else if i = p + 1 then p else i
def swb (b : Mx) (p : Nat) : Mx := fun i c => b (sx p i) c
theorem sx_sx (p i : Nat) : sx p (sx p i) = i := by unfold sx; split <;> (try split) <;> (try split) <;> omega
theorem sx_at (p : Nat) : sx p p = p + 1 := if_pos rfl
theorem sx_at' (p : Nat) : sx p (p + 1) = p := by unfold sx; rw [if_neg (by omega), if_pos rfl]
theorem sx_low {p i : Nat} (h : i < p) : sx p i = i := by unfold sx; rw [if_neg (by omega), if_neg (by omega)]
theorem sx_high {p i : Nat} (h : p + 1 < i) : sx p i = i := by unfold sx; rw [if_neg (by omega), if_neg (by omega)]
theorem sx_lt {p i n : Nat} (hp : p + 1 < n) (h : i < n) : sx p i < n := by unfold sx; split <;> (try split) <;> omega
theorem ip_sub (m : Nat) (u v w : Nat → Int) (q : Int) : ip m (fun c => u c - q * v c) w = ip m u w - q * ip m v w := by
  unfold ip
  rw [isum_congr (g' := fun c => 1 * (u c * w c) + (-q) * (v c * w c)) fun c _ => by grind, isum_lin]; grind
/-- What becomes of (i, i') when q times row j is taken from row k. -/
def fq (T : Mx) (k j : Nat) (q : Int) (i i' : Nat) : Int :=
  T i i' - (if i = k then q * T j i' else 0) - (if i' = k then q * T i j else 0) + (if i = k ∧ i' = k then q * q * T j j else 0)
theorem gr_redq (m : Nat) (b : Mx) (k j : Nat) (q : Int) (hj : j ≠ k) (i i' : Nat) : gr m (redq b k j q) i i' = fq (gr m b) k j q i i' := by
  have e : ∀ i, redq b k j q i = fun c => b i c - (if i = k then q else 0) * b j c := fun i => by
    funext c; unfold redq; split
    · rename_i h; rw [h]
    · omega
  unfold gr
  rw [e i, e i', ip_sub, ip_comm m (b i) (fun c => b i' c - _ * b j c), ip_comm m (b j) (fun c => b i' c - _ * b j c), ip_sub, ip_sub]
  unfold fq
  simp only []
  rw [ip_comm m (b i') (b i), ip_comm m (b i') (b j), ip_comm m (b j) (b i)]
  by_cases h1 : i = k <;> by_cases h2 : i' = k <;> simp [h1, h2] <;> grind
theorem mi_redq {m : Nat} {b : Mx} {k j : Nat} {q : Int} (hj : j < k) : ∀ (s : Nat), (∀ t, t < s → dG (gr m b) t ≠ 0) →
    (∀ i i', mi (gr m (redq b k j q)) s i i' = fq (mi (gr m b) s) k j q i i') ∧ dG (gr m (redq b k j q)) s = dG (gr m b) s
  | 0, _ => ⟨fun i i' => by
      rw [mi_none, gr_redq m b k j q (by omega)]
      unfold fq
      simp only [mi_none], by rw [dG_zero, dG_zero]⟩
  | s + 1, h => by
    obtain ⟨ih, ig⟩ := mi_redq hj s fun t ht => h t (by omega)
    have sy := gr_symm m b
    have hs0 := h s (by omega)
    have hs1 : dG (gr m (redq b k j q)) (s + 1) = dG (gr m b) (s + 1) := by
      rw [dG_succ, dG_succ, ih]
      unfold fq
      by_cases e : s = k
      · subst e
        rw [mi_low hj, mi_low' sy hj, mi_low hj]; simp
      · simp [e]
    refine ⟨fun i i' => ?_, hs1⟩
    refine Int.eq_of_mul_eq_mul_left hs0 ?_
    have h1 := mi_step (G := gr m (redq b k j q)) (k := s) (by rw [ig]; exact hs0) i i'
    rw [ig, hs1, ih, ih, ih] at h1
    rw [h1]
    have st := mi_step (G := gr m b) (k := s) hs0
    have e1 := st i i'
    have e2 := st j i'
    have e3 := st i j
    have e4 := st j j
    have z1 : s = k → ∀ i, mi (gr m b) s i j = 0 := fun e i => mi_low (by omega)
    have z2 : s = k → ∀ i, mi (gr m b) s j i = 0 := fun e i => mi_low' sy (by omega)
    unfold fq
    by_cases e : s = k
    · have a1 := z1 e i
      have a2 := z1 e s
      have a3 := z1 e j
      have a4 := z2 e i'
      have a5 := z2 e s
      simp only [a1, a2, a3, a4, a5] at e2 e3 e4 ⊢
      by_cases h1 : i = k <;> by_cases h2 : i' = k <;> simp [h1, h2, e] at e1 e2 e3 e4 ⊢ <;> grind
    · by_cases h1 : i = k <;> by_cases h2 : i' = k <;> simp [h1, h2, e] at e1 e2 e3 e4 ⊢ <;> grind
theorem gr_swb (m : Nat) (b : Mx) (p i j : Nat) : gr m (swb b p) i j = gr m b (sx p i) (sx p j) := rfl
theorem mi_swb_low {m : Nat} {b : Mx} {p s : Nat} (hs : s ≤ p) (i j : Nat) : mi (gr m (swb b p)) s i j = mi (gr m b) s (sx p i) (sx p j) := by
  have e : ∀ (i x : Nat), x < s + 1 → sx p ((i :: dn s).getD x 0) = (sx p i :: dn s).getD x 0 := fun i x hx => by
    cases x with
    | zero => rfl
    | succ x => rw [List.getD_cons_succ, List.getD_cons_succ, dn_get (by omega), sx_low (by omega)]
  exact det_congr fun x y hx hy => by
    show gr m b (sx p _) (sx p _) = gr m b _ _
    rw [e i x hx, e j y hy]
theorem dG_swb_low {m : Nat} {b : Mx} {p s : Nat} (hs : s ≤ p) : dG (gr m (swb b p)) s = dG (gr m b) s :=
  dG_congr fun i j hi hj => by rw [gr_swb, sx_low (by omega), sx_low (by omega)]
theorem dG_swb_at (m : Nat) (b : Mx) (p : Nat) : dG (gr m (swb b p)) (p + 1) = mi (gr m b) p (p + 1) (p + 1) := by
  rw [dG_succ, mi_swb_low (Nat.le_refl _), sx_at]
theorem two_steps {D a b c d1 xi xj yi yj z Tij Ti Tj X : Int} (ha : a ≠ 0) (e1 : D * Tij = a * z - xi * xj) (e2 : D * Ti = a * yi - xi * c) (e3 : D * Tj = a * yj - c * xj) (e4 : D * d1 = a * b - c * c) (e5 : a * X = d1 * Tij - Ti * Tj) :
    D * D * X = (a * b - c * c) * z - b * (xi * xj) - a * (yi * yj) + c * (yi * xj + xi * yj) := by
  refine Int.eq_of_mul_eq_mul_left ha ?_
  have h : a * (D * D * X) = (D * d1) * (D * Tij) - (D * Ti) * (D * Tj) := by
    have : a * (D * D * X) = D * D * (a * X) := by grind
    rw [this, e5]; grind
  rw [h, e1, e2, e3, e4]; grind
/-- Two steps on, nothing tells that two rows were changed about. -/
theorem mi_swb_two {m : Nat} {b : Mx} {p : Nat} (h0 : dG (gr m b) p ≠ 0) (h1 : dG (gr m b) (p + 1) ≠ 0) (h2 : mi (gr m b) p (p + 1) (p + 1) ≠ 0) (i j : Nat) :
    mi (gr m (swb b p)) (p + 2) i j = mi (gr m b) (p + 2) (sx p i) (sx p j) := by
  have key : ∀ (b : Mx) (h0 : dG (gr m b) p ≠ 0) (h1 : dG (gr m b) (p + 1) ≠ 0) (i j : Nat), dG (gr m b) p * dG (gr m b) p * mi (gr m b) (p + 2) i j =
      (mi (gr m b) p p p * mi (gr m b) p (p + 1) (p + 1) - mi (gr m b) p (p + 1) p * mi (gr m b) p (p + 1) p) * mi (gr m b) p i j - mi (gr m b) p (p + 1) (p + 1) * (mi (gr m b) p i p * mi (gr m b) p p j) - mi (gr m b) p p p * (mi (gr m b) p i (p + 1) * mi (gr m b) p (p + 1) j) + mi (gr m b) p (p + 1) p * (mi (gr m b) p i (p + 1) * mi (gr m b) p p j + mi (gr m b) p i p * mi (gr m b) p (p + 1) j) := fun b h0 h1 i j => by
    have st := mi_step h0
    have sy : mi (gr m b) p p (p + 1) = mi (gr m b) p (p + 1) p := mi_symm (gr_symm m b) _ _ _
    exact two_steps (Tij := mi (gr m b) (p + 1) i j) (Ti := mi (gr m b) (p + 1) i (p + 1)) (Tj := mi (gr m b) (p + 1) (p + 1) j) (d1 := dG (gr m b) (p + 2)) h1
      (by rw [st, dG_succ]) (by rw [st, dG_succ, sy]) (by rw [st, dG_succ]) (by rw [dG_succ, st, dG_succ, sy]) (mi_step h1 i j)
  have ga := dG_swb_low (m := m) (b := b) (p := p) (Nat.le_refl p)
  have gb := dG_swb_at m b p
  refine Int.eq_of_mul_eq_mul_left (Int.mul_ne_zero h0 h0) ?_
  have k1 := key (swb b p) (by rw [ga]; exact h0) (by rw [gb]; exact h2) i j
  have k2 := key b h0 h1 (sx p i) (sx p j)
  rw [ga] at k1
  rw [k1, k2]
  simp only [mi_swb_low (Nat.le_refl p), sx_at, sx_at']
  have sy : mi (gr m b) p p (p + 1) = mi (gr m b) p (p + 1) p := mi_symm (gr_symm m b) _ _ _
  rw [sy]; grind
theorem dG_swb_two {m : Nat} {b : Mx} {p : Nat} (h0 : dG (gr m b) p ≠ 0) : dG (gr m (swb b p)) (p + 2) = dG (gr m b) (p + 2) := by
  have st := mi_step h0
  have sy : mi (gr m b) p p (p + 1) = mi (gr m b) p (p + 1) p := mi_symm (gr_symm m b) _ _ _
  have ga := dG_swb_low (m := m) (b := b) (p := p) (Nat.le_refl p)
  have gb := dG_swb_at m b p
  have st' := mi_step (G := gr m (swb b p)) (k := p) (by rw [ga]; exact h0) (p + 1) (p + 1)
  refine Int.eq_of_mul_eq_mul_left h0 ?_
  rw [dG_succ, dG_succ, st, ← ga, st', gb, dG_succ]
  simp only [mi_swb_low (Nat.le_refl p), sx_at, sx_at']
  rw [sy]; grind
theorem mi_swb_high {m : Nat} {b : Mx} {p : Nat} (h0 : dG (gr m b) p ≠ 0) (h1 : dG (gr m b) (p + 1) ≠ 0) (h2 : mi (gr m b) p (p + 1) (p + 1) ≠ 0) : ∀ (e : Nat), (∀ t, p + 2 ≤ t → t < p + 2 + e → dG (gr m b) t ≠ 0) →
    (∀ i j, mi (gr m (swb b p)) (p + 2 + e) i j = mi (gr m b) (p + 2 + e) (sx p i) (sx p j)) ∧ dG (gr m (swb b p)) (p + 2 + e) = dG (gr m b) (p + 2 + e)
  | 0, _ => ⟨mi_swb_two h0 h1 h2, dG_swb_two h0⟩
  | e + 1, h => by
    obtain ⟨ih, ig⟩ := mi_swb_high h0 h1 h2 e fun t h3 h4 => h t h3 (by omega)
    have hs0 := h (p + 2 + e) (by omega) (by omega)
    have hx : sx p (p + 2 + e) = p + 2 + e := sx_high (by omega)
    have hs1 : dG (gr m (swb b p)) (p + 2 + e + 1) = dG (gr m b) (p + 2 + e + 1) := by rw [dG_succ, dG_succ, ih, hx]
    refine ⟨fun i j => ?_, hs1⟩
    refine Int.eq_of_mul_eq_mul_left hs0 ?_
    have st' := mi_step (G := gr m (swb b p)) (k := p + 2 + e) (by rw [ig]; exact hs0) i j
    have st := mi_step (G := gr m b) (k := p + 2 + e) hs0 (sx p i) (sx p j)
    show dG (gr m b) (p + 2 + e) * mi (gr m (swb b p)) (p + 2 + e + 1) i j = dG (gr m b) (p + 2 + e) * mi (gr m b) (p + 2 + e + 1) (sx p i) (sx p j)
    rw [st, ← ig, st', hs1, ih, ih, ih, hx]
end Go.Proofs.Ytabdfhdddmbmlaa

namespace Go.Proofs.Ytabdfhdddmbmlaa
/-- The nearest whole number to x / y. -/
def rnd (x y : Int) : Int := (2 * x + y) / (2 * y)
theorem rnd_near {x y : Int} (h : 0 < y) : - y ≤ 2 * (x - rnd x y * y) ∧ 2 * (x - rnd x y * y) < y := by
  have h1 := Int.emod_add_mul_ediv (2 * x + y) (2 * y)
  have h2 := Int.emod_nonneg (2 * x + y) (show 2 * y ≠ 0 by omega)
  have h3 := Int.emod_lt_of_pos (2 * x + y) (show 0 < 2 * y by omega)
  have e : 2 * y * ((2 * x + y) / (2 * y)) = 2 * (rnd x y * y) := by unfold rnd; grind
  rw [e] at h1
  omega
/-- The number l(k, j). -/
def lm (m : Nat) (b : Mx) (k j : Nat) : Int := mi (gr m b) j k j
/-- d(k). -/
def dm (m : Nat) (b : Mx) (k : Nat) : Int := dG (gr m b) k
/-- Row k is brought to size: j, j - 1 .. 0 are done. -/
def redr (m k : Nat) : Nat → Mx → Mx → Mx × Mx
  | 0, b, u => (b, u)
  | j + 1, b, u => redr m k j (redq b k j (rnd (lm m b k j) (dm m b (j + 1)))) (redq u k j (rnd (lm m b k j) (dm m b (j + 1))))
def farL (m : Nat) (b : Mx) (k : Nat) : Prop := 3 * (dm m b k * dm m b k) ≤ 4 * (dm m b (k + 1) * dm m b (k - 1) + lm m b k (k - 1) * lm m b k (k - 1))
instance (m : Nat) (b : Mx) (k : Nat) : Decidable (farL m b k) := inferInstanceAs (Decidable (_ ≤ _))
def lrun (m n : Nat) : Nat → Mx → Mx → Nat → Option (Mx × Mx)
  | 0, _, _, _ => none
  | f + 1, b, u, k => if n ≤ k then some (b, u)
    else if farL m (redr m k k b u).1 k then lrun m n f (redr m k k b u).1 (redr m k k b u).2 (k + 1)
    else lrun m n f (swb (redr m k k b u).1 (k - 1)) (swb (redr m k k b u).2 (k - 1)) (max 1 (k - 1))
theorem redr_succ (m k j : Nat) (b u : Mx) : redr m k (j + 1) b u = redr m k j (redq b k j (rnd (lm m b k j) (dm m b (j + 1)))) (redq u k j (rnd (lm m b k j) (dm m b (j + 1)))) := rfl
/-- Independent. -/
def Ind (m n : Nat) (b : Mx) : Prop := ∀ t, t ≤ n → 0 < dm m b t
theorem Ind.ne {m n : Nat} {b : Mx} (h : Ind m n b) {t : Nat} (ht : t ≤ n) : dG (gr m b) t ≠ 0 := by have := h t ht; unfold dm at this; omega
section
variable {m n : Nat} {b u : Mx} {k j : Nat} {q : Int}
theorem dm_redq (h : Ind m n b) (hj : j < k) {t : Nat} (ht : t ≤ n) : dm m (redq b k j q) t = dm m b t :=
  (mi_redq hj t fun s hs => h.ne (by omega)).2
theorem Ind.redq (h : Ind m n b) (hj : j < k) : Ind m n (redq b k j q) := fun t ht => by rw [dm_redq h hj ht]; exact h t ht
theorem lm_redq (h : Ind m n b) (hj : j < k) {i t : Nat} (ht : t < i) (hi : i < n) :
    lm m (redq b k j q) i t = if i = k then (if t < j then lm m b k t - q * lm m b j t else if t = j then lm m b k j - q * dm m b (j + 1) else lm m b k t) else lm m b i t := by
  have sy := gr_symm m b
  unfold lm
  rw [(mi_redq hj t fun s hs => h.ne (by omega)).1]
  unfold fq
  by_cases e : i = k
  · have htk : t ≠ k := by omega
    simp only [e, if_true, htk, if_false, and_false]
    by_cases h1 : t < j
    · simp [h1]
    · by_cases h2 : t = j
      · subst h2; simp [dm, dG_succ]
      · rw [if_neg h1, if_neg h2, mi_low' sy (show j < t by omega)]; simp
  · simp only [e, if_false, false_and]
    by_cases h1 : t = k
    · subst h1
      rw [if_pos rfl, mi_low hj]; simp
    · rw [if_neg h1]; simp
/-- Row k is of size from j on. -/
def Size (m : Nat) (b : Mx) (k j : Nat) : Prop := ∀ t, j ≤ t → t < k → - dm m b (t + 1) ≤ 2 * lm m b k t ∧ 2 * lm m b k t < dm m b (t + 1)
theorem Size.next (h : Ind m n b) (hs : Size m b k (j + 1)) (hj : j < k) (hk : k < n) : Size m (redq b k j (rnd (lm m b k j) (dm m b (j + 1)))) k j := fun t h1 h2 => by
  rw [dm_redq h hj (by omega), lm_redq h hj h2 hk, if_pos rfl, if_neg (by omega)]
  split
  · rename_i e
    subst e
    exact rnd_near (h (t + 1) (by omega))
  · exact hs t (by omega) h2
/-- What a row's way to its size leaves. -/
structure Way (m n k : Nat) (b b' : Mx) : Prop where
  ind : Ind m n b'
  d : ∀ t, t ≤ n → dm m b' t = dm m b t
  l : ∀ i t, t < i → i < n → i ≠ k → lm m b' i t = lm m b i t
theorem redr_way (hk : k < n) : ∀ (j : Nat) (b u : Mx), j ≤ k → Ind m n b → Size m b k j → Way m n k b (redr m k j b u).1 ∧ Size m (redr m k j b u).1 k 0
  | 0, b, u, _, h, hs => ⟨⟨h, fun _ _ => rfl, fun _ _ _ _ _ => rfl⟩, hs⟩
  | j + 1, b, u, hj, h, hs => by
    obtain ⟨w, ws⟩ := redr_way hk j (redq b k j (rnd (lm m b k j) (dm m b (j + 1)))) (redq u k j (rnd (lm m b k j) (dm m b (j + 1)))) (by omega) (h.redq (by omega)) (hs.next h (by omega) hk)
    exact ⟨⟨w.ind, fun t ht => by rw [redr_succ, w.d t ht, dm_redq h (by omega) ht], fun i t h1 h2 h3 => by rw [redr_succ, w.l i t h1 h2 h3, lm_redq h (by omega) h1 h2, if_neg h3]⟩, ws⟩
theorem redr_full (hk : k < n) (h : Ind m n b) : Way m n k b (redr m k k b u).1 ∧ Size m (redr m k k b u).1 k 0 :=
  redr_way hk k b u (Nat.le_refl _) h fun t h1 h2 => by omega
-- Two rows changed about.
theorem dd {p : Nat} (h : Ind m n b) (hp : p + 1 < n) : dm m b (p + 1) * mi (gr m b) p (p + 1) (p + 1) = dm m b p * dm m b (p + 2) + lm m b (p + 1) p * lm m b (p + 1) p := by
  have st := mi_step (G := gr m b) (k := p) (h.ne (by omega)) (p + 1) (p + 1)
  rw [mi_symm (gr_symm m b) p p (p + 1)] at st
  unfold dm lm
  rw [dG_succ (gr m b) (p + 1)]
  omega
theorem dd_pos {p : Nat} (h : Ind m n b) (hp : p + 1 < n) : 0 < mi (gr m b) p (p + 1) (p + 1) := by
  have e := dd h hp
  have h1 := Int.mul_pos (h p (by omega)) (h (p + 2) (by omega))
  have h2 := sq_nn (lm m b (p + 1) p)
  have h3 : 0 < dm m b (p + 1) * mi (gr m b) p (p + 1) (p + 1) := by omega
  exact Int.pos_of_mul_pos_right_of_pos h3 (h (p + 1) (by omega))
where
  Int.pos_of_mul_pos_right_of_pos {a b : Int} (h : 0 < a * b) (ha : 0 < a) : 0 < b := by
    rcases Int.lt_trichotomy b 0 with h1 | h1 | h1
    · have := Int.mul_neg_of_pos_of_neg ha h1; omega
    · rw [h1, Int.mul_zero] at h; omega
    · exact h1
theorem dm_swb {p : Nat} (h : Ind m n b) (hp : p + 1 < n) {t : Nat} (ht : t ≤ n) : dm m (swb b p) t = if t = p + 1 then mi (gr m b) p (p + 1) (p + 1) else dm m b t := by
  unfold dm
  by_cases h1 : t ≤ p
  · rw [if_neg (by omega)]; exact dG_swb_low h1
  · by_cases h2 : t = p + 1
    · rw [if_pos h2, h2]; exact dG_swb_at _ _ _
    · rw [if_neg h2]
      obtain ⟨e, rfl⟩ : ∃ e, t = p + 2 + e := ⟨t - (p + 2), by omega⟩
      exact (mi_swb_high (h.ne (by omega)) (h.ne (by omega)) (by have := dd_pos h hp; omega) e fun s h3 h4 => h.ne (by omega)).2
theorem Ind.swb {p : Nat} (h : Ind m n b) (hp : p + 1 < n) : Ind m n (swb b p) := fun t ht => by
  rw [dm_swb h hp ht]; split
  · exact dd_pos h hp
  · exact h t ht
/-- The numbers l, when the rows p and p + 1 are changed about. -/
theorem lm_swb {p : Nat} (h : Ind m n b) (hp : p + 1 < n) {i t : Nat} (ht : t < i) (hi : i < n) :
    lm m (swb b p) i t = if i = p + 1 ∧ t = p then lm m b (p + 1) p else if t = p then mi (gr m b) p i (p + 1) else if t = p + 1 then mi (gr m (swb b p)) (p + 1) i (p + 1) else lm m b (sx p i) t := by
  unfold lm
  by_cases h1 : t < p
  · rw [if_neg (by omega), if_neg (by omega), if_neg (by omega), mi_swb_low (by omega), sx_low (i := t) h1]
  · by_cases h2 : t = p
    · subst h2
      rw [mi_swb_low (Nat.le_refl _), sx_at]
      by_cases h3 : i = t + 1
      · subst h3
        rw [if_pos ⟨rfl, rfl⟩, sx_at', mi_symm (gr_symm m b)]
      · rw [if_neg (by omega), if_pos rfl, sx_high (by omega)]
    · by_cases h4 : t = p + 1
      · rw [if_neg (by omega), if_neg h2, if_pos h4, h4]
      · rw [if_neg (by omega), if_neg h2, if_neg h4]
        obtain ⟨e, rfl⟩ : ∃ e, t = p + 2 + e := ⟨t - (p + 2), by omega⟩
        rw [(mi_swb_high (h.ne (by omega)) (h.ne (by omega)) (by have := dd_pos h hp; omega) e fun s h3 h4 => h.ne (by omega)).1, sx_high (i := p + 2 + e) (by omega)]
/-- As the program reckons them, i behind both. -/
theorem lm_swb_one {p : Nat} (h : Ind m n b) (hp : p + 1 < n) {i : Nat} (hi : p + 1 < i) (hn : i < n) :
    dm m b (p + 1) * lm m (swb b p) i (p + 1) = dm m b (p + 2) * lm m b i p - lm m b (p + 1) p * lm m b i (p + 1) := by
  rw [lm_swb h hp (by omega) hn, if_neg (by omega), if_neg (by omega), if_pos rfl]
  have h0 := h.ne (t := p) (by omega)
  have st := mi_step (G := gr m b) (k := p) h0
  have gs := dG_swb_low (m := m) (b := b) (p := p) (Nat.le_refl p)
  have st' := mi_step (G := gr m (swb b p)) (k := p) (by rw [gs]; exact h0) i (p + 1)
  rw [gs, dG_swb_at] at st'
  simp only [mi_swb_low (Nat.le_refl p), sx_at, sx_at', sx_high hi] at st'
  have e1 := st i (p + 1)
  have e2 := st (p + 1) (p + 1)
  have sy := mi_symm (gr_symm m b) p p (p + 1)
  unfold lm dm at *
  rw [dG_succ] at e1 e2 ⊢
  rw [dG_succ (gr m b) (p + 1)]
  refine Int.eq_of_mul_eq_mul_left h0 ?_
  try rw [sy] at e1
  try rw [sy] at e2
  try rw [sy] at st'
  grind
theorem lm_swb_two {p : Nat} (h : Ind m n b) (hp : p + 1 < n) {i : Nat} (hi : p + 1 < i) (hn : i < n) :
    dm m b (p + 2) * lm m (swb b p) i p = mi (gr m b) p (p + 1) (p + 1) * lm m b i (p + 1) + lm m b (p + 1) p * lm m (swb b p) i (p + 1) := by
  have h1 := lm_swb_one h hp hi hn
  have e0 : lm m (swb b p) i p = mi (gr m b) p i (p + 1) := by rw [lm_swb h hp (by omega) hn, if_neg (by omega), if_pos rfl]
  rw [e0]
  have h0 := h.ne (t := p) (by omega)
  have ha := h.ne (t := p + 1) (by omega)
  have st := mi_step (G := gr m b) (k := p) h0
  have e1 := st i (p + 1)
  have e2 := st (p + 1) (p + 1)
  have sy := mi_symm (gr_symm m b) p p (p + 1)
  generalize lm m (swb b p) i (p + 1) = X at *
  unfold lm dm at *
  rw [dG_succ (gr m b) (p + 1)] at *
  try rw [sy] at e1
  try rw [sy] at e2
  refine Int.eq_of_mul_eq_mul_left h0 (Int.eq_of_mul_eq_mul_left ha ?_)
  generalize dG (gr m b) p = D at *
  generalize dG (gr m b) (p + 1) = a at *
  grind
end
end Go.Proofs.Ytabdfhdddmbmlaa
