/- Towards the statement, part 3 of 6: contracts of functions, and what they rest on. Conditions: each theorem names its own. -/
import Derived.Test.YtgpcepcbdpigfaaGreatM2
import Derived.ProofKit
import Derived.Deep.Slices
set_option linter.unusedVariables false
set_option linter.unusedSimpArgs false
namespace Go.Proofs.YtgpcepcbdpigfaaGreat
open Go.RowKit
def right {α : Type} (m : List (List α)) : Prop := 0 < m.length ∧ ∀ r, r ∈ m → 0 < r.length ∧ r.length = (m.getD 0 []).length
def square {α : Type} (m : List (List α)) : Prop := right m ∧ m.length = (m.getD 0 []).length
instance {α : Type} (m : List (List α)) : Decidable (right m) := inferInstanceAs (Decidable (_ ∧ _))
instance {α : Type} (m : List (List α)) : Decidable (square m) := inferInstanceAs (Decidable (_ ∧ _))
theorem getD_mem {α : Type} {l : List α} {i : Nat} (z : α) (h : i < l.length) : l.getD i z ∈ l := by
  rw [List.getD_eq_getElem?_getD, List.getElem?_eq_getElem h]; exact List.getElem_mem h
theorem right.get {α : Type} {m : List (List α)} (h : right m) {i : Nat} (hi : i < m.length) : 0 < (m.getD i []).length ∧ (m.getD i []).length = (m.getD 0 []).length := h.2 _ (getD_mem [] hi)
def small (n k c : Nat) (m : List Row) : Prop := m.length ≤ n ∧ ∀ r, r ∈ m → r.length ≤ k ∧ ∀ x, x ∈ r → x.2.length ≤ c
instance (n k c : Nat) (m : List Row) : Decidable (small n k c m) := inferInstanceAs (Decidable (_ ∧ _))
open Go.RowKit
theorem BuildSliceK.pre {P : Program} {t : TypeId} {n : Nat} {ps : List (Nat × Value)} {os os' : List Own} {fs fs' : List Fact} {K : Cont} (hs : Seals os fs os' fs') (h : BuildSliceK P t n ps os' fs' K) : BuildSliceK P t n ps os fs K :=
  ⟨fun G w hw => h.out G w (hs G w hw)⟩
theorem take_snoc' {α : Type} {l : List α} {i : Nat} (z : α) (h : i < l.length) : l.take (i + 1) = l.take i ++ [l.getD i z] := by
  rw [List.take_add_one]; simp [List.getD_eq_getElem?_getD, h]
def lead0 : List Int → Nat
  | [] => 0
  | x :: l => if x = 0 then lead0 l + 1 else 0
theorem lead0_le (l : List Int) : lead0 l ≤ l.length := by
  induction l with
  | nil => exact Nat.le_refl _
  | cons x l ih => simp only [lead0, List.length_cons]; split <;> omega
theorem slice_L {α : Type} {size : Nat} {f : α → Dat} {z : α} {P : Program} {t e : TypeId} {v : Value} {l : List α} {kl kh : IntKind} {os : List Own} {fs : List Fact} {K : Cont} [ht : TSl P t e size]
    (hm : (v, LD size f z l) ∈ fs) (lo hi : Nat) (x y : Option Value) (hl : (x = none ∧ lo = 0) ∨ x = some (.int kl lo)) (hh : (y = none ∧ hi = l.length) ∨ y = some (.int kh hi)) (h1 : lo ≤ hi) (h2 : hi ≤ l.length)
    (k : ∀ u, K u os ((u, LD size f z ((l.take hi).drop lo)) :: (u, .sl size (hi - lo) fun i => f (l.getD (lo + i) z)) :: fs)) : SliceK P t v x y none os fs K := by
  have h := slice_fact (P := P) (t := t) (os := os) (fs := fs) (K := fun u os' fs' => os' = os ∧ fs' = (u, .sl size (hi - lo) fun i => f (l.getD (lo + i) z)) :: fs) hm lo hi x y hl hh h1 h2 fun u => ⟨rfl, rfl⟩
  refine ⟨fun G w hw => ?_⟩
  obtain ⟨u, fs', e1, ⟨_, rfl⟩, hw'⟩ := h.out G w hw
  refine ⟨u, _, e1, k u, ?_⟩
  refine Seals.add (Knw.cast (Knw.sl_cong (e' := fun i => f (((l.take hi).drop lo).getD i z)) (Knw.fact (List.Mem.head _)) fun i hi' => ?_) ?_) G w hw'
  · simp only [List.getD_eq_getElem?_getD, List.getElem?_drop]
    rw [List.getElem?_take_of_lt (by omega)]
  · unfold LD
    rw [List.length_drop, List.length_take, Nat.min_eq_left h2]
open Go.RowKit
def addE (x : Nat) : Nat → List Oper → List Oper
  | _, [] => []
  | 0, o :: r => { o with after := o.after.push ⟨x, .chain⟩ } :: r
  | k + 1, o :: r => o :: addE x k r
theorem addE_get (x : Nat) : ∀ (k : Nat) (L : List Oper) (i : Nat), (addE x k L)[i]? = if i = k then (L[i]?).map fun o => { o with after := o.after.push ⟨x, .chain⟩ } else L[i]?
  | _, [], i => by simp [addE]
  | 0, o :: r, 0 => by simp [addE]
  | 0, o :: r, i + 1 => by simp [addE]
  | k + 1, o :: r, 0 => by simp [addE]
  | k + 1, o :: r, i + 1 => by simp [addE, addE_get x k r i]
theorem addE_len (x : Nat) : ∀ (k : Nat) (L : List Oper), (addE x k L).length = L.length
  | _, [] => by simp [addE]
  | 0, o :: r => by simp [addE]
  | k + 1, o :: r => by simp [addE, addE_len x k r]
theorem yielded_addE (x k : Nat) (L : List Oper) (t : Array Value) : yielded (addE x k L).toArray t = yielded L.toArray t := by
  funext i
  have h : ((addE x k L).toArray[i]?).bind (·.dst) = (L.toArray[i]?).bind (·.dst) := by
    simp only [List.getElem?_toArray, addE_get]
    split
    · cases L[i]? <;> rfl
    · rfl
  simp only [yielded, h]
theorem wpOps_addE {P : Program} {x k : Nat} {L : List Oper} {Q : Exit → Act → World → Prop} : ∀ (l : List Nat), wpOps P (addE x k L).toArray Q l = wpOps P L.toArray Q l
  | [] => rfl
  | i :: rest => by
    have ih := wpOps_addE (P := P) (x := x) (k := k) (L := L) (Q := Q) rest
    funext a w
    simp only [wpOps, yielded_addE, ih, List.getElem?_toArray, addE_get]
    by_cases hik : i = k
    · rw [if_pos hik]
      cases L[i]? <;> rfl
    · rw [if_neg hik]
structure OrdK (P : Program) (N : Nat) (L : List Oper) (f : Fr) (os : List Own) (fs : List Fact) (K : Next1) : Prop where
  out : ∀ (G : Ctx) (Q : Post), Q .normal = K → ∀ l, Order .any L l → ∀ a w, Knows N f a → Holds G os fs w → wpOps P L.toArray (Qhat N G Q) l a w
theorem schedule_ord {L : List Oper} {g : List Nat} (h : edgesOK L.length g 0 L = true) (mixed : Bool) (t : Nat) : Order .any L (Region.schedule mixed L.toArray t) := by
  have he := edgesOK_sound h
  have weaken : ∀ {m : Region.Mode} {l : List Nat}, Order m L l → Order .any L l := fun ho => ⟨ho.nodup, ho.all, fun pre i post hp j ⟨o, h1, e, h2, h3, h4⟩ => ho.before pre i post hp j ⟨o, h1, e, h2, binds_any h3, h4⟩⟩
  have text : ∀ t, Order .text L (Region.linearise .text L.toArray t) := fun t => linearise_order (ops := L.toArray) id (fun i j ⟨o, h1, e, h2, h3, h4⟩ => by
    have := he i o h1 e h2; subst h4; exact ⟨by simpa using this.1, by simpa using this.2.1 h3⟩) t
  have any : ∀ t, Order .any L (Region.linearise .any L.toArray t) := fun t => linearise_order (ops := L.toArray) id (fun i j ⟨o, h1, e, h2, h3, h4⟩ => by
    have := he i o h1 e h2; subst h4; exact ⟨by simpa using this.1, by simpa using this.2.2.1 h3⟩) t
  have gc : ∀ t, Order .gc L (Region.linearise .gc L.toArray t) := fun t => linearise_order (ops := L.toArray) (posOf g) (fun i j ⟨o, h1, e, h2, h3, h4⟩ => by
    have := he i o h1 e h2; subst h4; exact ⟨by simpa using this.1, by simpa using this.2.2.2 h3⟩) t
  unfold Region.schedule
  split
  · exact any t
  · split
    · exact weaken (text _)
    · exact weaken (gc _)
theorem draw_ord {P : Program} {N id : Nat} {L : List Oper} {f : Fr} {os : List Own} {fs : List Fact} {K : Next1} (g : List Nat) (hok : edgesOK L.length g 0 L = true) (h : OrdK P N L f os fs K) : DrawK P N id L f os fs K :=
  ⟨fun G Q hQ a w hk hw => wp_region_draw fun t => h.out G Q hQ _ (schedule_ord hok _ t) a _ hk (hw.grow ((Below.refl w.heap.size w).drew))⟩
theorem ord_split {P : Program} {N : Nat} {L : List Oper} {f : Fr} {os : List Own} {fs : List Fact} {K : Next1} (x y : Nat) (hx : Nat.blt x L.length = true) (hy : Nat.blt y L.length = true) (hne : Nat.beq x y = false)
    (h1 : OrdK P N (addE x y L) f os fs K) (h2 : OrdK P N (addE y x L) f os fs K) : OrdK P N L f os fs K := by
  refine ⟨fun G Q hQ l hl a w hk hw => ?_⟩
  have hx' : x < L.length := by simpa using hx
  have hy' : y < L.length := by simpa using hy
  have hne' : x ≠ y := fun e => by subst e; simp at hne
  have key : ∀ x y, (∀ pre post, l = pre ++ y :: post → x ∈ pre) → Order .any (addE x y L) l := by
    intro x y hxy
    refine ⟨hl.nodup, fun i => by rw [addE_len]; exact hl.all i, fun pre i post hp j ⟨o, h1, e, h2, h3, h4⟩ => ?_⟩
    rw [addE_get] at h1
    by_cases hik : i = y
    · rw [if_pos hik] at h1
      cases hL : L[i]? with
      | none => simp [hL] at h1
      | some o' =>
        simp only [hL, Option.map_some, Option.some.injEq] at h1
        subst h1
        simp only [Array.toList_push, List.mem_append, List.mem_singleton] at h2
        rcases h2 with h2 | h2
        · exact hl.before pre i post hp j ⟨o', hL, e, h2, h3, h4⟩
        · subst h2
          simp only at h4
          subst h4
          exact hxy pre post (by rw [hp, hik])
    · rw [if_neg hik] at h1
      exact hl.before pre i post hp j ⟨o, h1, e, h2, h3, h4⟩
  have hxm : x ∈ l := (hl.all x).2 hx'
  have hym : y ∈ l := (hl.all y).2 hy'
  obtain ⟨pre, post, rfl⟩ := List.append_of_mem hym
  have hnod := hl.nodup
  have uniq : ∀ (z : Nat) (p q p' q' : List Nat), (p ++ z :: q).Nodup → p ++ z :: q = p' ++ z :: q' → p = p' := by
    intro z p
    induction p with
    | nil =>
      intro q p' q' hn he
      cases p' with
      | nil => rfl
      | cons c p' =>
        simp only [List.nil_append, List.cons_append, List.cons.injEq] at he
        obtain ⟨rfl, rfl⟩ := he
        simp at hn
    | cons c p ih =>
      intro q p' q' hn he
      cases p' with
      | nil =>
        simp only [List.nil_append, List.cons_append, List.cons.injEq] at he
        obtain ⟨rfl, rfl⟩ := he
        simp at hn
      | cons c' p' =>
        simp only [List.cons_append, List.cons.injEq] at he
        obtain ⟨rfl, he⟩ := he
        rw [ih q p' q' (List.nodup_cons.1 hn).2 he]
  rcases List.mem_append.1 hxm with hm | hm
  · have := h1.out G Q hQ _ (key x y fun pre' post' hp => by rw [← uniq y pre post pre' post' hnod hp]; exact hm) a w hk hw
    rwa [wpOps_addE] at this
  · rcases List.mem_cons.1 hm with rfl | hm
    · exact absurd rfl hne'
    · obtain ⟨p2, q2, rfl⟩ := List.append_of_mem hm
      have := h2.out G Q hQ _ (key y x fun pre' post' hp => by
        have e : pre ++ y :: (p2 ++ x :: q2) = (pre ++ y :: p2) ++ x :: q2 := by simp
        rw [← uniq x (pre ++ y :: p2) q2 pre' post' (by rw [← e]; exact hnod) (by rw [← e]; exact hp)]
        simp) a w hk hw
      rwa [wpOps_addE] at this
def ordOK (L : List Oper) (c : List Nat) : Bool :=
  Nat.beq c.length L.length && (List.range L.length).all (fun i => c.any (Nat.beq i)) && pairsOK L (ancs L []) c
theorem ordOK_sound {L : List Oper} {c : List Nat} (h : ordOK L c = true) : Checked1 L (ancs L []) c := by
  simp only [ordOK, Bool.and_eq_true] at h
  obtain ⟨⟨_, h2⟩, h3⟩ := h
  obtain ⟨g1, g2, g3, g4⟩ := pairsOK_sound h3
  refine ⟨g1, fun i => ⟨g2 i, fun hi => ?_⟩, g3, g4⟩
  have := List.all_eq_true.1 h2 i (by simpa using hi)
  obtain ⟨x, hx, hb⟩ := List.any_eq_true.1 this
  have := Nat.eq_of_beq_eq_true hb
  subst this
  exact hx
theorem ord_go {P : Program} {N : Nat} {L : List Oper} {f : Fr} {os : List Own} {fs : List Fact} {K : Next1} (c : List Nat) (hok : ordOK L c = true) (hdst : dstsOK N L = true)
    (k : VCops P true L (pickOps L c) f os fs K) : OrdK P N L f os fs K := by
  refine ⟨fun G Q hQ l hord a w hk hw => ?_⟩
  have hc := ordOK_sound hok
  refine sim (f0 := f) hc hdst hQ _ (fun _ => False) (vd := []) (c' := c) (val := fun _ => undef) (vf := f) (os := os) (fs := fs) ?_ (fun i => by simpa using (hord.all i).symm) hord.nodup (fun _ _ h => h) (fun pre i post hp j hj => .inr (hord.before pre i post hp j hj))
  exact ⟨rfl, fun _ h => h.elim, fun _ h => h.elim, hk.defers, hk.size, fun t v ht => hk.holds t v (by
    rcases ht with ⟨_, _, h, _⟩ | h
    · exact h.elim
    · exact h.1), fun t v ht => .inr ⟨ht, fun j o hj => by simp at hj⟩, fun k o hk => by simp at hk, hw, k⟩
end Go.Proofs.YtgpcepcbdpigfaaGreat
namespace Go.Proofs.YtgpcepcbdpigfaaGreat
def isum (g : Nat → Int) : Nat → Int
  | 0 => 0
  | k + 1 => isum g k + g k
theorem isum_congr {g g' : Nat → Int} : ∀ {n : Nat}, (∀ k, k < n → g k = g' k) → isum g n = isum g' n
  | 0, _ => rfl
  | n + 1, h => by simp only [isum]; rw [isum_congr (n := n) fun k hk => h k (by omega), h n (by omega)]
theorem isum_zero {g : Nat → Int} : ∀ {n : Nat}, (∀ k, k < n → g k = 0) → isum g n = 0
  | 0, _ => rfl
  | n + 1, h => by simp only [isum]; rw [isum_zero (n := n) fun k hk => h k (by omega), h n (by omega)]; rfl
theorem isum_lin (a b : Int) (f g : Nat → Int) : ∀ n, isum (fun k => a * f k + b * g k) n = a * isum f n + b * isum g n
  | 0 => by simp [isum]
  | n + 1 => by simp only [isum]; rw [isum_lin a b f g n]; grind
theorem isum_add (f g : Nat → Int) (n : Nat) : isum (fun k => f k + g k) n = isum f n + isum g n := by
  have := isum_lin 1 1 f g n; simpa using this
theorem isum_mul (a : Int) (f : Nat → Int) (n : Nat) : isum (fun k => a * f k) n = a * isum f n := by
  have := isum_lin a 0 f f n; simpa using this
theorem isum_neg (f : Nat → Int) (n : Nat) : isum (fun k => - f k) n = - isum f n := by
  have := isum_mul (-1) f n; simpa using this
theorem isum_mul_right (a : Int) (f : Nat → Int) (n : Nat) : isum (fun k => f k * a) n = isum f n * a := by
  rw [Int.mul_comm, ← isum_mul]; exact isum_congr fun k _ => Int.mul_comm _ _
theorem isum_one {g : Nat → Int} {n r : Nat} (hr : r < n) (h : ∀ k, k < n → k ≠ r → g k = 0) : isum g n = g r := by
  induction n with
  | zero => omega
  | succ n ih =>
    simp only [isum]
    by_cases hn : r = n
    · subst hn
      rw [isum_zero fun k hk => h k (by omega) (by omega)]; omega
    · rw [ih (by omega) fun k hk => h k (by omega), h n (by omega) (by omega)]; omega
theorem isum_two {g : Nat → Int} {n r : Nat} (hr : r + 1 < n) (h : ∀ k, k < n → k ≠ r → k ≠ r + 1 → g k = 0) : isum g n = g r + g (r + 1) := by
  induction n with
  | zero => omega
  | succ n ih =>
    simp only [isum]
    by_cases hn : r + 1 = n
    · subst hn
      rw [isum_one (r := r) (by omega) fun k hk hkr => h k (by omega) hkr (by omega)]
    · rw [ih (by omega) fun k hk => h k (by omega), h n (by omega) (by omega) (by omega)]; omega
theorem isum_front (g : Nat → Int) : ∀ n, isum g (n + 1) = g 0 + isum (fun k => g (k + 1)) n
  | 0 => by simp [isum]
  | n + 1 => by rw [isum, isum_front g n, isum]; omega
theorem isum_swap (f : Nat → Nat → Int) (m : Nat) : ∀ n, isum (fun i => isum (fun j => f i j) m) n = isum (fun j => isum (fun i => f i j) n) m
  | 0 => by simp only [isum]; exact (isum_zero fun _ _ => rfl).symm
  | n + 1 => by simp only [isum]; rw [isum_swap f m n, ← isum_add]
def sg (j : Nat) : Int := if j % 2 = 1 then -1 else 1
theorem sg_zero : sg 0 = 1 := rfl
theorem sg_succ (j : Nat) : sg (j + 1) = - sg j := by
  unfold sg
  by_cases h : j % 2 = 1
  · rw [if_pos h, if_neg (by omega)]; rfl
  · rw [if_neg h, if_pos (by omega)]
theorem sg_add (i j : Nat) : sg (i + j) = sg i * sg j := by
  induction j with
  | zero => simp [sg]
  | succ j ih => rw [← Nat.add_assoc, sg_succ, ih, sg_succ]; grind
theorem sg_sq (j : Nat) : sg j * sg j = 1 := by
  unfold sg; split <;> rfl
abbrev Mx := Nat → Nat → Int
def sk (i k : Nat) : Nat := if k < i then k else k + 1
def cut (A : Mx) (i j : Nat) : Mx := fun x y => A (sk i x) (sk j y)
def det : Nat → Mx → Int
  | 0, _ => 1
  | n + 1, A => isum (fun i => sg i * (A i 0 * det n (cut A i 0))) (n + 1)
def rw' (A : Mx) (r : Nat) (u : Nat → Int) : Mx := fun i j => if i = r then u j else A i j
def tp (A : Mx) : Mx := fun i j => A j i
def one : Mx := fun i j => if i = j then 1 else 0
def mm (n : Nat) (A B : Mx) : Mx := fun i j => isum (fun k => A i k * B k j) n
theorem sk_ne (i k : Nat) : sk i k ≠ i := by unfold sk; split <;> omega
theorem sk_lt {i k n : Nat} (h : k < n) : sk i k < n + 1 := by unfold sk; split <;> omega
theorem sk_zero (k : Nat) : sk 0 k = k + 1 := rfl
theorem sk_inj {i a b : Nat} (h : sk i a = sk i b) : a = b := by unfold sk at h; split at h <;> split at h <;> omega
theorem sk_sk {i k : Nat} (h : i ≤ k) (x : Nat) : sk i (sk k x) = sk (k + 1) (sk i x) := by
  unfold sk
  by_cases h1 : x < i
  · rw [if_pos (show x < k by omega), if_pos h1, if_pos (show x < k + 1 by omega)]
  · by_cases h2 : x < k
    · rw [if_pos h2, if_neg h1, if_pos (show x + 1 < k + 1 by omega)]
    · rw [if_neg h2, if_neg h1, if_neg (show ¬ x + 1 < i by omega), if_neg (show ¬ x + 1 < k + 1 by omega)]
def pk (i r : Nat) : Nat := if r < i then r else r - 1
theorem sk_pk {i r : Nat} (h : r ≠ i) : sk i (pk i r) = r := by
  unfold sk pk
  by_cases h1 : r < i
  · rw [if_pos h1, if_pos h1]
  · rw [if_neg h1, if_neg (by omega)]; omega
theorem pk_lt {i r n : Nat} (hr : r < n + 1) (hi : i < n + 1) (h : r ≠ i) : pk i r < n := by unfold pk; split <;> omega
theorem sk_eq_iff {i r x : Nat} (h : r ≠ i) : sk i x = r ↔ x = pk i r :=
  ⟨fun e => sk_inj (e.trans (sk_pk h).symm), fun e => e ▸ sk_pk h⟩
theorem det_congr : ∀ {n : Nat} {A B : Mx}, (∀ i j, i < n → j < n → A i j = B i j) → det n A = det n B
  | 0, _, _, _ => rfl
  | n + 1, A, B, h => by
    simp only [det]
    refine isum_congr fun i hi => ?_
    rw [h i 0 hi (by omega), det_congr (n := n) (A := cut A i 0) (B := cut B i 0) fun x y hx hy => h _ _ (sk_lt hx) (sk_lt hy)]
theorem cut_rw_same (A : Mx) (r j : Nat) (u : Nat → Int) : cut (rw' A r u) r j = cut A r j := by
  funext x y; simp only [cut, rw', if_neg (sk_ne r x)]
theorem cut_rw {A : Mx} {i r j : Nat} (h : r ≠ i) (u : Nat → Int) : cut (rw' A r u) i j = rw' (cut A i j) (pk i r) (fun y => u (sk j y)) := by
  funext x y
  simp only [cut, rw']
  by_cases hx : x = pk i r
  · rw [if_pos hx, if_pos ((sk_eq_iff h).2 hx)]
  · rw [if_neg hx, if_neg fun e => hx ((sk_eq_iff h).1 e)]
theorem det_row_lin : ∀ {n : Nat} (A : Mx) {r : Nat}, r < n → ∀ (a b : Int) (u v : Nat → Int),
    det n (rw' A r (fun j => a * u j + b * v j)) = a * det n (rw' A r u) + b * det n (rw' A r v)
  | 0, _, _, h, _, _, _, _ => by omega
  | n + 1, A, r, hr, a, b, u, v => by
    simp only [det]
    rw [← isum_lin]
    refine isum_congr fun i hi => ?_
    by_cases h : i = r
    · subst h
      rw [cut_rw_same, cut_rw_same, cut_rw_same]
      simp only [rw', if_true]
      grind
    · have h' : r ≠ i := fun e => h e.symm
      rw [cut_rw h', cut_rw h', cut_rw h', det_row_lin (cut A i 0) (pk_lt hr hi h') a b]
      simp only [rw', if_neg h]
      grind
theorem det_row_alt : ∀ {n : Nat} {A : Mx} {r : Nat}, r + 1 < n → (∀ j, j < n → A r j = A (r + 1) j) → det n A = 0
  | 0, _, _, h, _ => by omega
  | n + 1, A, r, hr, he => by
    simp only [det]
    rw [isum_two (r := r) hr]
    · have e : det n (cut A (r + 1) 0) = det n (cut A r 0) := det_congr fun x y hx hy => by
        simp only [cut]
        by_cases h : x = r
        · subst h
          rw [show sk (x + 1) x = x from if_pos (by omega), show sk x x = x + 1 from if_neg (by omega)]
          exact he _ (sk_lt hy)
        · have : sk (r + 1) x = sk r x := by unfold sk; split <;> split <;> omega
          rw [this]
      rw [e, sg_succ, he 0 (by omega)]
      grind
    · intro i hi h1 h2
      have hp : pk i (r + 1) = pk i r + 1 := by unfold pk; split <;> split <;> omega
      have : det n (cut A i 0) = 0 := det_row_alt (r := pk i r) (by have := pk_lt hr hi (fun e => h2 e.symm); omega) fun j hj => by
        simp only [cut]
        rw [← hp, sk_pk (fun e => h2 e.symm), sk_pk (fun e => h1 e.symm)]
        exact he _ (sk_lt hj)
      rw [this]; simp
theorem tr_tr (A : Mx) : tp (tp A) = A := rfl
def cw (A : Mx) (c : Nat) (u : Nat → Int) : Mx := fun i j => if j = c then u i else A i j
theorem cut_cw {A : Mx} {i c : Nat} (u : Nat → Int) : cut (cw A (c + 1) u) i 0 = cw (cut A i 0) c (fun x => u (sk i x)) := by
  funext x y
  unfold cut cw
  rw [sk_zero]
  by_cases hx : y = c
  · rw [if_pos hx, if_pos (by omega)]
  · rw [if_neg hx, if_neg (by omega)]; rfl
theorem det_col_lin : ∀ {n : Nat} (A : Mx) {c : Nat}, c < n → ∀ (a b : Int) (u v : Nat → Int),
    det n (cw A c (fun j => a * u j + b * v j)) = a * det n (cw A c u) + b * det n (cw A c v)
  | 0, _, _, h, _, _, _, _ => by omega
  | n + 1, A, 0, hr, a, b, u, v => by
    simp only [det]
    rw [← isum_lin]
    refine isum_congr fun i hi => ?_
    have e : ∀ w, cut (cw A 0 w) i 0 = cut A i 0 := fun w => by funext x y; unfold cut cw; rw [sk_zero, if_neg (by omega)]
    rw [e, e, e]
    simp only [cw, if_true]
    grind
  | n + 1, A, c + 1, hr, a, b, u, v => by
    simp only [det]
    rw [← isum_lin]
    refine isum_congr fun i hi => ?_
    rw [cut_cw, cut_cw, cut_cw, det_col_lin (cut A i 0) (by omega) a b]
    have : ¬ 0 = c + 1 := by omega
    simp only [cw, if_neg this]
    grind
theorem dsum {F : Nat → Nat → Int} : ∀ {n : Nat}, (∀ i k, i ≤ k → k < n → F i k + F (k + 1) i = 0) → isum (fun i => isum (F i) n) (n + 1) = 0
  | 0, _ => by simp [isum]
  | n + 1, h => by
    have h1 := dsum (F := F) (n := n) fun i k hi hk => h i k hi (by omega)
    rw [isum]
    have e : isum (fun i => isum (F i) (n + 1)) (n + 1) = isum (fun i => isum (F i) n) (n + 1) + isum (fun i => F i n) (n + 1) := by
      rw [← isum_add]; exact isum_congr fun i _ => rfl
    rw [e, h1, Int.zero_add, ← isum_add]
    exact isum_zero fun i hi => h i n (by omega) (by omega)
theorem det_col_alt : ∀ {n : Nat} {A : Mx} {c : Nat}, c + 1 < n → (∀ i, i < n → A i c = A i (c + 1)) → det n A = 0
  | 0, _, _, h, _ => by omega
  | 1, _, _, h, _ => by omega
  | n + 2, A, 0, hr, he => by
    simp only [det]
    rw [isum_congr (g' := fun i => isum (fun k => sg i * A i 0 * (sg k * (A (sk i k) 1 * det n (cut (cut A i 0) k 0)))) (n + 1))]
    · refine dsum fun i k hi hk => ?_
      have e1 : sk i k = k + 1 := if_neg (by omega)
      have e2 : sk (k + 1) i = i := if_pos (by omega)
      have e3 : cut (cut A i 0) k 0 = cut (cut A (k + 1) 0) i 0 := by
        funext x y; simp only [cut]; rw [sk_sk hi]
      rw [e1, e2, e3, he i (by omega), he (k + 1) (by omega), sg_succ]
      grind
    · intro i hi
      rw [isum_mul]
      have : isum (fun k => sg k * (A (sk i k) 1 * det n (cut (cut A i 0) k 0))) (n + 1) = isum (fun k => sg k * (cut A i 0 k 0 * det n (cut (cut A i 0) k 0))) (n + 1) := rfl
      rw [this]
      grind
  | n + 2, A, c + 1, hr, he => by
    rw [det]
    refine isum_zero fun i hi => ?_
    rw [det_col_alt (n := n + 1) (A := cut A i 0) (c := c) (by omega) fun x hx => by simp only [cut, sk_zero]; exact he _ (sk_lt hx)]
    simp
structure Form (n : Nat) (D : Mx → Int) : Prop where
  cong : ∀ {A B : Mx}, (∀ i j, i < n → j < n → A i j = B i j) → D A = D B
  lin : ∀ (A : Mx) {r : Nat}, r < n → ∀ (a b : Int) (u v : Nat → Int), D (rw' A r (fun j => a * u j + b * v j)) = a * D (rw' A r u) + b * D (rw' A r v)
  alt : ∀ {A : Mx} {r : Nat}, r + 1 < n → (∀ j, j < n → A r j = A (r + 1) j) → D A = 0
theorem det_form (n : Nat) : Form n (det n) := ⟨det_congr, fun A _ h => det_row_lin A h, det_row_alt⟩
theorem tr_cw (A : Mx) (r : Nat) (u : Nat → Int) : tp (rw' A r u) = cw (tp A) r u := rfl
theorem dett_form (n : Nat) : Form n (fun A => det n (tp A)) := by
  refine ⟨fun h => det_congr fun i j hi hj => h j i hj hi, fun A r hr a b u v => ?_, fun {A r} h he => det_col_alt (A := tp A) h fun i hi => he i hi⟩
  simp only [tr_cw]
  exact det_col_lin (tp A) hr a b u v
theorem rw_self (A : Mx) (r : Nat) : rw' A r (A r) = A := by
  funext i j; unfold rw'; split
  · rename_i h; rw [h]
  · rfl
theorem rw_comm (A : Mx) {r s : Nat} (h : r ≠ s) (u v : Nat → Int) : rw' (rw' A r u) s v = rw' (rw' A s v) r u := by
  funext i j; unfold rw'
  by_cases h1 : i = s
  · rw [if_pos h1, if_neg (by omega), if_pos h1]
  · rw [if_neg h1]
    by_cases h2 : i = r
    · rw [if_pos h2, if_pos h2]
    · rw [if_neg h2, if_neg h2, if_neg h1]
namespace Form
variable {n : Nat} {D : Mx → Int}
theorem add (h : Form n D) (A : Mx) {r : Nat} (hr : r < n) (u v : Nat → Int) : D (rw' A r (fun j => u j + v j)) = D (rw' A r u) + D (rw' A r v) := by
  have := h.lin A hr 1 1 u v; simpa using this
theorem smul (h : Form n D) (A : Mx) {r : Nat} (hr : r < n) (c : Int) (u : Nat → Int) : D (rw' A r (fun j => c * u j)) = c * D (rw' A r u) := by
  have := h.lin A hr c 0 u u; simpa using this
theorem zero (h : Form n D) {A : Mx} {r : Nat} (hr : r < n) (hz : ∀ j, j < n → A r j = 0) : D A = 0 := by
  have h1 := h.smul A hr 0 (A r)
  rw [Int.zero_mul] at h1
  rw [← h1]
  refine h.cong fun i j hi hj => ?_
  unfold rw'
  split
  · rename_i e; subst e; rw [hz j hj]; simp
  · rfl
theorem swap_of (h : Form n D) {A : Mx} {r s : Nat} (hr : r < n) (hs : s < n) (hne : r ≠ s) (alt : ∀ B : Mx, (∀ j, j < n → B r j = B s j) → D B = 0) :
    D (rw' (rw' A r (A s)) s (A r)) = - D A := by
  have z : ∀ w, D (rw' (rw' A r w) s w) = 0 := fun w => alt _ fun j _ => by
    simp [rw', hne]
  have key := z fun j => A r j + A s j
  rw [h.add _ hs, rw_comm A hne, h.add _ hr, rw_comm A hne, h.add _ hr] at key
  rw [rw_comm _ (Ne.symm hne), rw_comm _ (Ne.symm hne) , rw_comm _ (Ne.symm hne), rw_comm _ (Ne.symm hne)] at key
  have z1 := z (A r)
  have z2 := z (A s)
  have e : rw' (rw' A r (A r)) s (A s) = A := by rw [rw_self, rw_self]
  have e1 : D (rw' (rw' A r fun j => A r j) s fun j => A r j) = 0 := z1
  have e2 : D (rw' (rw' A r fun j => A s j) s fun j => A s j) = 0 := z2
  have e3 : D (rw' (rw' A r fun j => A r j) s fun j => A s j) = D A := congrArg D e
  have e4 : D (rw' (rw' A r fun j => A s j) s fun j => A r j) = D (rw' (rw' A r (A s)) s (A r)) := rfl
  rw [e1, e2, e3, e4] at key
  omega
theorem alt2 (h : Form n D) : ∀ (d : Nat) {A : Mx} {r : Nat}, r + d + 1 < n → (∀ j, j < n → A r j = A (r + d + 1) j) → D A = 0
  | 0, A, r, hr, he => h.alt hr he
  | d + 1, A, r, hr, he => by
    have hs := h.swap_of (A := A) (r := r + d + 1) (s := r + d + 2) (by omega) (by omega) (by omega) fun B hB => h.alt (by omega) hB
    have : D (rw' (rw' A (r + d + 1) (A (r + d + 2))) (r + d + 2) (A (r + d + 1))) = 0 := h.alt2 d (r := r) (by omega) fun j hj => by
      have h1 : ¬ r = r + d + 2 := by omega
      have h2 : ¬ r = r + d + 1 := by omega
      have h3 : ¬ r + d + 1 = r + d + 2 := by omega
      simp only [rw', if_neg h1, if_neg h2, if_neg h3, if_true]
      exact he j hj
    omega
theorem eqRows (h : Form n D) {A : Mx} {r s : Nat} (hr : r < n) (hs : s < n) (hne : r ≠ s) (he : ∀ j, j < n → A r j = A s j) : D A = 0 := by
  rcases Nat.lt_or_gt_of_ne hne with hlt | hlt
  · obtain ⟨d, rfl⟩ : ∃ d, s = r + d + 1 := ⟨s - r - 1, by omega⟩
    exact h.alt2 d hs he
  · obtain ⟨d, rfl⟩ : ∃ d, r = s + d + 1 := ⟨r - s - 1, by omega⟩
    exact h.alt2 d hr fun j hj => (he j hj).symm
theorem swap (h : Form n D) {A : Mx} {r s : Nat} (hr : r < n) (hs : s < n) (hne : r ≠ s) : D (rw' (rw' A r (A s)) s (A r)) = - D A :=
  h.swap_of hr hs hne fun _ hB => h.eqRows hr hs hne hB
theorem sum (h : Form n D) (A : Mx) {r : Nat} (hr : r < n) (c : Nat → Int) (u : Nat → Nat → Int) : ∀ m, D (rw' A r (fun j => isum (fun k => c k * u k j) m)) = isum (fun k => c k * D (rw' A r (u k))) m
  | 0 => by
    simp only [isum]
    exact h.zero hr fun j _ => by unfold rw'; simp
  | m + 1 => by
    simp only [isum]
    have := h.lin A hr 1 (c m) (fun j => isum (fun k => c k * u k j) m) (u m)
    rw [h.sum A hr c u m] at this
    simpa using this
theorem addRows (h : Form n D) {A : Mx} {r : Nat} (hr : r < n) (c : Nat → Int) (s : Nat → Nat) (m : Nat) (hs : ∀ k, k < m → s k < n ∧ s k ≠ r) (u : Nat → Int) :
    D (rw' A r (fun j => u j + isum (fun k => c k * A (s k) j) m)) = D (rw' A r u) := by
  have h1 := h.add A hr u (fun j => isum (fun k => c k * A (s k) j) m)
  rw [h.sum A hr c (fun k => A (s k)) m] at h1
  rw [h1, isum_zero, Int.add_zero]
  intro k hk
  obtain ⟨k1, k2⟩ := hs k hk
  rw [h.eqRows (A := rw' A r (A (s k))) hr k1 (Ne.symm k2) fun j hj => by unfold rw'; rw [if_pos rfl, if_neg k2]]
  simp
end Form
def unitRow (f : Nat → Nat) : Mx := fun i j => if f i = j then 1 else 0
theorem pigeon : ∀ (k : Nat) (f : Nat → Nat), (∀ i, i ≤ k → f i < k) → ∃ i j, i < j ∧ j ≤ k ∧ f i = f j
  | 0, f, h => absurd (h 0 (Nat.le_refl _)) (by omega)
  | k + 1, f, h => by
    by_cases hx : ∃ i, i ≤ k ∧ f i = f (k + 1)
    · obtain ⟨i, h1, h2⟩ := hx
      exact ⟨i, k + 1, by omega, by omega, h2⟩
    · have hne : ∀ i, i ≤ k → f i ≠ f (k + 1) := fun i hi e => hx ⟨i, hi, e⟩
      have hl := h (k + 1) (Nat.le_refl _)
      obtain ⟨i, j, h1, h2, h3⟩ := pigeon k (fun i => pk (f (k + 1)) (f i)) fun i hi => by
        have := h i (by omega)
        exact pk_lt (n := k) (by omega) hl (hne i hi)
      refine ⟨i, j, h1, by omega, ?_⟩
      rw [← sk_pk (hne i (by omega)), ← sk_pk (hne j h2), h3]
namespace Form
variable {n : Nat} {D : Mx → Int}
theorem units (h : Form n D) (h0 : D one = 0) : ∀ (k : Nat), k ≤ n → ∀ f : Nat → Nat, (∀ i, i < n → f i < n) → (∀ i, k ≤ i → i < n → f i = i) → D (unitRow f) = 0
  | 0, _, f, _, hf => by
    rw [← h0]
    exact h.cong fun i j hi hj => by unfold unitRow one; rw [hf i (by omega) hi]
  | k + 1, hk, f, hb, hf => by
    by_cases hrep : ∃ i j, i < j ∧ j < n ∧ f i = f j
    · obtain ⟨i, j, h1, h2, h3⟩ := hrep
      exact h.eqRows (r := i) (s := j) (by omega) h2 (by omega) fun y _ => by unfold unitRow; rw [h3]
    · by_cases hx : ∃ i, i ≤ k ∧ f i = k
      · obtain ⟨i, h1, h2⟩ := hx
        by_cases hik : i = k
        · subst hik
          refine units h h0 i (by omega) f hb fun x hx hxn => ?_
          by_cases e : x = i
          · rw [e, h2]
          · exact hf x (by omega) hxn
        · have hsw := h.swap (A := unitRow f) (r := i) (s := k) (by omega) (by omega) hik
          have e : rw' (rw' (unitRow f) i (unitRow f k)) k (unitRow f i) = unitRow (fun x => if x = k then f i else if x = i then f k else f x) := by
            funext x y
            unfold rw' unitRow
            by_cases e1 : x = k
            · simp [e1]
            · by_cases e2 : x = i
              · simp [e2, hik]
              · simp [e1, e2]
          rw [e, units h h0 k (by omega)] at hsw
          · omega
          · intro x hx
            split
            · exact hb _ (by omega)
            · split
              · exact hb _ (by omega)
              · exact hb _ hx
          · intro x hx hxn
            by_cases e1 : x = k
            · rw [if_pos e1, h2, e1]
            · rw [if_neg e1, if_neg (by omega)]
              exact hf x (by omega) hxn
      · exfalso
        have hlow : ∀ i, i ≤ k → f i < k := fun i hi => by
          rcases Nat.lt_or_ge (f i) k with h1 | h1
          · exact h1
          · exfalso
            by_cases e : f i = k
            · exact hx ⟨i, hi, e⟩
            · exact hrep ⟨i, f i, by omega, hb i (by omega), (hf (f i) (by omega) (hb i (by omega))).symm⟩
        obtain ⟨i, j, h1, h2, h3⟩ := pigeon k f hlow
        exact hrep ⟨i, j, h1, by omega, h3⟩
theorem vanish (h : Form n D) (h0 : D one = 0) : ∀ (k : Nat), k ≤ n → ∀ (A : Mx) (f : Nat → Nat), (∀ i, i < n → f i < n) → (∀ i j, k ≤ i → i < n → j < n → A i j = unitRow f i j) → D A = 0
  | 0, _, A, f, hb, hA => by
    rw [← units h h0 n (Nat.le_refl _) f hb fun i h1 h2 => by omega]
    exact h.cong fun i j hi hj => hA i j (by omega) hi hj
  | k + 1, hk, A, f, hb, hA => by
    have e : D A = D (rw' A k (fun j => isum (fun c => A k c * one c j) n)) := h.cong fun i j hi hj => by
      unfold rw'
      split
      · rename_i e
        subst e
        show _ = isum _ n
        rw [isum_one (r := j) hj fun c _ hc => by simp [one, hc]]
        simp [one]
      · rfl
    rw [e, h.sum A (by omega) (fun c => A k c) one n]
    refine isum_zero fun c hc => ?_
    rw [vanish h h0 k (by omega) (rw' A k (one c)) (fun x => if x = k then c else f x) (fun i hi => by split; exact hc; exact hb i hi) fun i j h1 h2 h3 => ?_]
    · simp
    · unfold rw' unitRow
      by_cases hik : i = k
      · simp [hik, one]
      · simp only [if_neg hik]
        exact hA i j (by omega) h2 h3
end Form
theorem det_one : ∀ n, det n one = 1
  | 0 => rfl
  | n + 1 => by
    rw [det, isum_one (r := 0) (by omega) fun k _ hk => by simp [one, hk]]
    have : det n (cut one 0 0) = det n one := det_congr fun i j _ _ => by simp [cut, one, sk_zero]
    rw [this, det_one n]; rfl
theorem Form.eq {n : Nat} {D : Mx → Int} (h : Form n D) (A : Mx) : D A = det n A * D one := by
  have hE : Form n (fun A => D A - det n A * D one) := by
    refine ⟨fun hc => by rw [h.cong hc, det_congr hc], fun A r hr a b u v => ?_, fun hr he => by rw [h.alt hr he, det_row_alt hr he]; simp⟩
    rw [h.lin A hr, det_row_lin A hr]
    grind
  have := hE.vanish (by rw [det_one]; omega) n (Nat.le_refl _) A (fun i => i) (fun i hi => hi) fun i j h1 h2 => by omega
  omega
theorem tr_one : tp one = one := by
  funext i j; unfold tp one
  by_cases h : i = j
  · subst h; rfl
  · rw [if_neg h, if_neg (Ne.symm h)]
theorem det_tr (n : Nat) (A : Mx) : det n (tp A) = det n A := by
  have := (dett_form n).eq A
  simp only [tr_one, det_one, Int.mul_one] at this
  exact this
theorem mul_rw (n : Nat) (A B : Mx) (r : Nat) (u : Nat → Int) : mm n (rw' A r u) B = rw' (mm n A B) r (fun j => isum (fun k => u k * B k j) n) := by
  funext i j
  unfold mm rw'
  by_cases h : i = r
  · simp only [if_pos h]
  · simp only [if_neg h]
theorem det_mul (n : Nat) (A B : Mx) : det n (mm n A B) = det n A * det n B := by
  have h : Form n (fun A => det n (mm n A B)) := by
    refine ⟨fun hc => det_congr fun i j hi hj => isum_congr fun k hk => by rw [hc i k hi hk], fun A r hr a b u v => ?_, fun {A r} hr he => det_row_alt hr fun j hj => isum_congr fun k hk => by rw [he k hk]⟩
    simp only [mul_rw]
    rw [← det_row_lin _ hr]
    congr 2
    funext j
    rw [← isum_lin]
    exact isum_congr fun k _ => by grind
  have := h.eq A
  rw [this]
  congr 1
  refine det_congr fun i j hi hj => ?_
  unfold mm
  rw [isum_one (r := i) hi fun k _ hk => by simp [one, Ne.symm hk]]
  simp [one]
def mv (A : Mx) (j : Nat) : Mx := fun x y => A x (if y = 0 then j else sk j (y - 1))
theorem det_mv (n : Nat) : ∀ (j : Nat) (A : Mx), j < n → det n (mv A j) = sg j * det n A
  | 0, A, _ => by
    rw [sg_zero, Int.one_mul]
    refine det_congr fun x y _ _ => ?_
    unfold mv
    congr 1
    by_cases h : y = 0
    · rw [if_pos h, h]
    · rw [if_neg h, sk_zero]; omega
  | j + 1, A, hj => by
    have hsw := (dett_form n).swap (A := tp A) (r := j) (s := j + 1) (by omega) hj (by omega)
    simp only [tr_tr] at hsw
    have ih := det_mv n j (tp (rw' (rw' (tp A) j (tp A (j + 1))) (j + 1) (tp A j))) (by omega)
    rw [hsw] at ih
    rw [sg_succ, Int.neg_mul, ← Int.mul_neg, ← ih]
    refine det_congr fun x y _ _ => ?_
    unfold mv tp rw'
    by_cases h : y = 0
    · simp [h]
    · simp only [if_neg h]
      by_cases h1 : y - 1 < j
      · have e1 : sk j (y - 1) = y - 1 := if_pos h1
        have e2 : sk (j + 1) (y - 1) = y - 1 := if_pos (by omega)
        rw [e1, e2, if_neg (by omega), if_neg (by omega)]
      · by_cases h2 : y - 1 = j
        · have e1 : sk j (y - 1) = j + 1 := by unfold sk; rw [if_neg h1]; omega
          have e2 : sk (j + 1) (y - 1) = j := by unfold sk; rw [if_pos (by omega)]; omega
          rw [e1, e2, if_pos rfl]
        · have e1 : sk j (y - 1) = y := by unfold sk; rw [if_neg h1]; omega
          have e2 : sk (j + 1) (y - 1) = y := by unfold sk; rw [if_neg (by omega)]; omega
          rw [e1, e2, if_neg (by omega), if_neg (by omega)]
theorem det_col {n : Nat} (A : Mx) {j : Nat} (hj : j < n + 1) : det (n + 1) A = isum (fun i => sg (i + j) * (A i j * det n (cut A i j))) (n + 1) := by
  have h1 := det_mv (n + 1) j A hj
  have h2 : det (n + 1) (mv A j) = isum (fun i => sg i * (A i j * det n (cut A i j))) (n + 1) := by
    rw [det]
    refine isum_congr fun i _ => ?_
    have : cut (mv A j) i 0 = cut A i j := by funext x y; simp [cut, mv, sk_zero]
    rw [this]; simp [mv]
  rw [h2] at h1
  have h3 : det (n + 1) A = sg j * (sg j * det (n + 1) A) := by rw [← Int.mul_assoc, sg_sq, Int.one_mul]
  rw [h3, ← h1, ← isum_mul]
  refine isum_congr fun i _ => ?_
  rw [sg_add]; grind
theorem cut_tr (A : Mx) (i j : Nat) : cut (tp A) i j = tp (cut A j i) := rfl
theorem det_row {n : Nat} (A : Mx) {i : Nat} (hi : i < n + 1) : det (n + 1) A = isum (fun j => sg (i + j) * (A i j * det n (cut A i j))) (n + 1) := by
  rw [← det_tr, det_col (tp A) hi]
  refine isum_congr fun j _ => ?_
  rw [cut_tr, det_tr, Nat.add_comm]; rfl
end Go.Proofs.YtgpcepcbdpigfaaGreat
namespace Go.Proofs.YtgpcepcbdpigfaaGreat
theorem mul_congr {n : Nat} {A A' B B' : Mx} {i j : Nat} (h1 : ∀ k, k < n → A i k = A' i k) (h2 : ∀ k, k < n → B k j = B' k j) : mm n A B i j = mm n A' B' i j :=
  isum_congr fun k hk => by rw [h1 k hk, h2 k hk]
theorem mul_assoc (m n : Nat) (A B C : Mx) (i j : Nat) : mm n (mm m A B) C i j = mm m A (mm n B C) i j := by
  unfold mm
  rw [isum_congr (g' := fun k => isum (fun l => A i l * B l k * C k j) m) fun k _ => (isum_mul_right _ _ _).symm, isum_swap]
  exact isum_congr fun l _ => by rw [← isum_mul]; exact isum_congr fun k _ => Int.mul_assoc _ _ _
theorem one_mul {n : Nat} (A : Mx) {i j : Nat} (hi : i < n) : mm n one A i j = A i j := by
  unfold mm
  rw [isum_one (r := i) hi fun k _ hk => by simp [one, Ne.symm hk]]
  simp [one]
theorem mul_sum_left (n : Nat) (c : Int) (A B : Mx) (i j : Nat) : mm n (fun x y => c * A x y) B i j = c * mm n A B i j := by
  unfold mm; rw [← isum_mul]; exact isum_congr fun k _ => Int.mul_assoc _ _ _
theorem mul_sum_right (n : Nat) (c : Int) (A B : Mx) (i j : Nat) : mm n A (fun x y => c * B x y) i j = c * mm n A B i j := by
  unfold mm; rw [← isum_mul]; exact isum_congr fun k _ => by grind
def Lo (r R C : Nat) (A : Mx) : Prop := ∃ X Y : Mx, det r (mm C (mm R X A) Y) ≠ 0
def Up (r R C : Nat) (A : Mx) : Prop := ∃ d : Int, d ≠ 0 ∧ ∃ B E : Mx, ∀ i k, i < R → k < C → d * A i k = mm r B E i k
theorem det_zero_col {n : Nat} {A : Mx} {c : Nat} (hc : c < n) (h : ∀ i, i < n → A i c = 0) : det n A = 0 := by
  rw [← det_tr]
  exact (det_form n).zero hc fun j hj => h j hj
theorem isum_cut {g : Nat → Int} {m n : Nat} (h : m ≤ n) (hz : ∀ k, m ≤ k → k < n → g k = 0) : isum g n = isum g m := by
  induction n with
  | zero => have : m = 0 := by omega
            subst this; rfl
  | succ n ih =>
    by_cases e : m = n + 1
    · rw [e]
    · rw [isum, hz n (by omega) (by omega), ih (by omega) fun k h1 h2 => hz k h1 (by omega)]; omega
theorem det_thin {s r : Nat} (h : s < r) (U V : Mx) : det r (mm s U V) = 0 := by
  have e : ∀ i j, mm s U V i j = mm r (fun i k => if k < s then U i k else 0) V i j := fun i j => by
    unfold mm
    rw [isum_cut (m := s) (n := r) (by omega) fun k h1 _ => by show (if k < s then U i k else 0) * V k j = 0; rw [if_neg (by omega)]; simp]
    exact isum_congr fun k hk => by show _ = (if k < s then U i k else 0) * V k j; rw [if_pos hk]
  rw [det_congr fun i j _ _ => e i j, det_mul, det_zero_col (c := s) h fun i _ => by rw [if_neg (by omega)], Int.zero_mul]
theorem det_smul : ∀ (n : Nat) (c : Int) (A : Mx), det n (fun i j => c * A i j) = c ^ n * det n A
  | 0, c, A => by simp [det]
  | n + 1, c, A => by
    simp only [det]
    rw [← isum_mul]
    refine isum_congr fun i _ => ?_
    have : cut (fun i j => c * A i j) i 0 = fun x y => c * cut A i 0 x y := rfl
    rw [this, det_smul n c, Int.pow_succ]
    grind
theorem pow_ne {d : Int} (hd : d ≠ 0) : ∀ n : Nat, d ^ n ≠ 0
  | 0 => by simp
  | n + 1 => by rw [Int.pow_succ]; exact Int.mul_ne_zero (pow_ne hd n) hd
theorem Lo_le_Up {r s R C : Nat} {A : Mx} (h1 : Lo r R C A) (h2 : Up s R C A) : r ≤ s := by
  rcases Nat.lt_or_ge s r with h | h
  · exfalso
    obtain ⟨X, Y, h1⟩ := h1
    obtain ⟨d, hd, B, E, h2⟩ := h2
    have h3 : det r (fun i j => d * mm C (mm R X A) Y i j) = 0 := by
      rw [← det_thin h (mm R X B) (mm C E Y)]
      refine det_congr fun i j hi hj => ?_
      rw [← mul_sum_left]
      have e1 : ∀ k, k < C → (fun x y => d * mm R X A x y) i k = mm R X (mm s B E) i k := fun k hk => by
        simp only
        rw [← mul_sum_right]
        exact mul_congr (fun _ _ => rfl) fun l hl => h2 l k hl hk
      rw [mul_congr e1 (fun _ _ => rfl)]
      rw [mul_congr (A := mm R X (mm s B E)) (A' := mm s (mm R X B) E) (fun k _ => (mul_assoc R s X B E i k).symm) (fun _ _ => rfl), mul_assoc]
    rw [det_smul] at h3
    rcases Int.mul_eq_zero.1 h3 with h4 | h4
    · exact pow_ne hd _ h4
    · exact h1 h4
  · exact h
structure Rk (r R C : Nat) (A : Mx) : Prop where
  lo : Lo r R C A
  up : Up r R C A
theorem Rk.unique {r s R C : Nat} {A : Mx} (h : Rk r R C A) (h' : Rk s R C A) : r = s :=
  Nat.le_antisymm (Lo_le_Up h.lo h'.up) (Lo_le_Up h'.lo h.up)
theorem Up.mul_left {r R K C : Nat} {A B : Mx} (h : Up r R K A) : Up r R C (mm K A B) := by
  obtain ⟨d, hd, U, V, h⟩ := h
  refine ⟨d, hd, U, mm K V B, fun i k hi hk => ?_⟩
  rw [← mul_assoc, ← mul_sum_left]
  exact mul_congr (fun l hl => h i l hi hl) (fun _ _ => rfl)
theorem Up.mul_right {r R K C : Nat} {A B : Mx} (h : Up r K C B) : Up r R C (mm K A B) := by
  obtain ⟨d, hd, U, V, h⟩ := h
  refine ⟨d, hd, mm K A U, V, fun i k hi hk => ?_⟩
  rw [mul_assoc, ← mul_sum_right]
  exact mul_congr (fun _ _ => rfl) (fun l hl => h l k hl hk)
theorem Rk.mul {r s t R K C : Nat} {A B : Mx} (h : Rk r R K A) (h' : Rk s K C B) (h'' : Rk t R C (mm K A B)) : t ≤ r ∧ t ≤ s :=
  ⟨Lo_le_Up h''.lo h.up.mul_left, Lo_le_Up h''.lo h'.up.mul_right⟩
theorem Up.more {r R R' C : Nat} {A A' : Mx} (h : Up r R C A) (D : Mx) (hd : ∀ i k, i < R' → k < C → A' i k = mm R D A i k) : Up r R' C A' := by
  obtain ⟨d, hd0, B, E, h⟩ := h
  refine ⟨d, hd0, mm R D B, E, fun i k hi hk => ?_⟩
  rw [hd i k hi hk, mul_assoc, ← mul_sum_right]
  exact mul_congr (fun _ _ => rfl) fun l hl => h l k hl hk
theorem Lo.more {r R R' C : Nat} {A A' : Mx} (h : Lo r R C A) (D : Mx) (hd : ∀ i k, i < R → k < C → A i k = mm R' D A' i k) : Lo r R' C A' := by
  obtain ⟨X, Y, h⟩ := h
  refine ⟨mm R X D, Y, fun e => h ?_⟩
  rw [← e]
  refine det_congr fun i j _ _ => ?_
  refine mul_congr (fun k hk => ?_) (fun _ _ => rfl)
  rw [mul_assoc]
  exact mul_congr (fun _ _ => rfl) fun l hl => hd l k hl hk
theorem Rk.congr {r R C : Nat} {A A' : Mx} (h : Rk r R C A) (he : ∀ i k, i < R → k < C → A i k = A' i k) : Rk r R C A' := by
  refine ⟨h.lo.more one fun i k hi hk => ?_, h.up.more one fun i k hi hk => ?_⟩
  · rw [one_mul _ hi, he i k hi hk]
  · rw [one_mul _ hi, he i k hi hk]
open Go.RowKit
def sz (x : Int) (e : Nat) : Prop := x.natAbs < 18446744073709551616 ^ e
theorem sz.len {x : Int} {e : Nat} (h : sz x e) : (lims x.natAbs).length ≤ e := lims_length_le h
theorem sz.mono {x : Int} {e e' : Nat} (h : sz x e) (he : e ≤ e') : sz x e' := Nat.lt_of_lt_of_le h (Nat.pow_le_pow_right (by decide) he)
theorem sz.mul {x y : Int} {a b : Nat} (h : sz x a) (h' : sz y b) : sz (x * y) (a + b) := by
  unfold sz at *
  rw [Int.natAbs_mul, Nat.pow_add]
  exact Nat.mul_lt_mul'' h h'
theorem sz.neg {x : Int} {a : Nat} (h : sz x a) : sz (-x) a := by unfold sz at *; rwa [Int.natAbs_neg]
theorem sz_jv {x : Bool × List Nat} {k : Nat} (h : Lim x.2) (hl : x.2.length ≤ k) : sz (jv x) k := by
  unfold sz jv
  rw [iv_abs]
  exact Nat.lt_of_lt_of_le (nv_lt h) (Nat.pow_le_pow_right (by decide) hl)
theorem sz_zero (e : Nat) : sz 0 e := Nat.pow_pos (by decide)
theorem isum_le {g : Nat → Int} {e : Nat} : ∀ {n : Nat}, (∀ k, k < n → sz (g k) e) → (isum g n).natAbs ≤ n * 18446744073709551616 ^ e
  | 0, _ => by simp [isum]
  | n + 1, h => by
    have h1 := isum_le (n := n) fun k hk => h k (by omega)
    have h2 := h n (by omega)
    unfold sz at h2
    simp only [isum]
    have := Int.natAbs_add_le (isum g n) (g n)
    rw [Nat.add_mul, Nat.one_mul]
    omega
theorem isum_sz {g : Nat → Int} {e n : Nat} (h : ∀ k, k < n → sz (g k) e) (hn : n < 18446744073709551616) : sz (isum g n) (e + 1) := by
  have h1 := isum_le h
  unfold sz
  rw [Nat.pow_succ, Nat.mul_comm]
  exact Nat.lt_of_le_of_lt h1 (Nat.mul_lt_mul_of_pos_right hn (Nat.pow_pos (by decide)))
theorem ww_get (m : List Row) (i : Nat) : (ww m).getD i [] = vv (m.getD i []) := by
  unfold ww
  by_cases h : i < m.length
  · simp [List.getD_eq_getElem?_getD, h]
  · simp [List.getD_eq_getElem?_getD, h, vv]
structure Sq (n k : Nat) (m : List Row) : Prop where
  rows : m.length = n
  cols : ∀ r, r ∈ m → r.length = n
  fits : Fits k m
theorem Sq.at {n k : Nat} {m : List Row} (h : Sq n k m) {i j : Nat} (hi : i < n) (hj : j < n) : ((ww m).getD i []).getD j 0 = jv ((m.getD i []).getD j z0) := by
  have hr : (m.getD i []).length = n := h.cols _ (getD_mem [] (by rw [h.rows]; exact hi))
  rw [ww_get, vv_get _ _ (by omega)]
theorem Seals.box0 {os : List Own} {fs : List Fact} {p : Value} {size : Nat} {e : Nat → Dat} {d : Dat} (h : e 0 = d) : Seals (own1 p size 1 e :: os) fs (own1 p size 1 (fun _ => d) :: os) fs :=
  Seals.own_cong (os := own1 p size 1 e :: os) 0 (fun _ => d) rfl rfl fun i hi => by
    have : i = 0 := by omega
    subst this; exact h
theorem rMulZ (v w : Value) (x : Bool × List Nat) (y : Int) (e : Nat) (hx : Lim x.2) (lx : x.2.length ≤ 137438953472) (hy : sz y e) (he : e ≤ 137438953472) :
    Meets Tryz.prog 83 [v, w] [(v, J x), (w, zd y)] (fun r os fs => os = [] ∧ fs = [(r, zd (jv x * y))]) := by
  have h := rZMul_meets v w x.1 (decide (y < 0)) x.2 (lims y.natAbs) hx (Lim_lims _) lx (Nat.le_trans hy.len he)
  rw [iv_zd] at h
  exact h
theorem rAddZ (v w : Value) (x y : Int) (e : Nat) (hx : sz x e) (hy : sz y e) (he : e ≤ 137438953472) :
    Meets Tryz.prog 35 [v, w] [(v, zd x), (w, zd y)] (fun r os fs => os = [] ∧ fs = [(r, zd (x + y))]) := by
  have h := rZAdd_meets v w (decide (x < 0)) (decide (y < 0)) (lims x.natAbs) (lims y.natAbs) (Lim_lims _) (Lim_lims _) (Nat.le_trans hx.len he) (Nat.le_trans hy.len he)
  rw [iv_zd, iv_zd] at h
  exact h
theorem rNegZ (v : Value) (x : Int) (e : Nat) (hx : sz x e) (he : e ≤ 137438953472) :
    Meets Tryz.prog 52 [v] [(v, zd x)] (fun r os fs => os = [] ∧ fs = [(r, zd (-x))]) := by
  have h := rNeg_meets v (decide (x < 0)) (lims x.natAbs) (Lim_lims _) (Nat.le_trans hx.len (by omega))
  rw [iv_zd] at h
  exact h
open Go.RowKit
theorem rMulJ (v w : Value) (x y : Bool × List Nat) (hx : Lim x.2) (lx : x.2.length ≤ 137438953472) (hy : Lim y.2) (ly : y.2.length ≤ 137438953472) :
    Meets Tryz.prog 83 [v, w] [(v, J x), (w, J y)] (fun r os fs => os = [] ∧ fs = [(r, zd (jv x * jv y))]) := rZMul_meets v w x.1 y.1 x.2 y.2 hx hy lx ly
theorem rSubZ (v w : Value) (x y : Int) (e : Nat) (hx : sz x e) (hy : sz y e) (he : e ≤ 137438953472) :
    Meets Tryz.prog 60 [v, w] [(v, zd x), (w, zd y)] (fun r os fs => os = [] ∧ fs = [(r, zd (x - y))]) := by
  have h := rZSub_meets v w (decide (x < 0)) (decide (y < 0)) (lims x.natAbs) (lims y.natAbs) (Lim_lims _) (Lim_lims _) (Nat.le_trans hx.len he) (Nat.le_trans hy.len he)
  rw [iv_zd, iv_zd] at h
  exact h
def red1 (p r : List Int) : List Int := (List.range r.length).map fun k => p.getD (lead0 p) 0 * r.getD k 0 - r.getD (lead0 p) 0 * p.getD k 0
theorem red1_len (p r : List Int) : (red1 p r).length = r.length := by unfold red1; simp
theorem red1_get (p r : List Int) {k : Nat} (h : k < r.length) : (red1 p r).getD k 0 = p.getD (lead0 p) 0 * r.getD k 0 - r.getD (lead0 p) 0 * p.getD k 0 := by
  unfold red1; simp [List.getD_eq_getElem?_getD, h]
theorem sz_sub {x y : Int} {e : Nat} (h : sz x e) (h' : sz y e) : sz (x - y) (e + 1) := by
  unfold sz at *
  rw [Nat.pow_succ]
  have := Int.natAbs_sub_le x y
  omega
theorem Fit_cn {l : List Int} {e : Nat} (h : ∀ x, x ∈ l → sz x e) : Fit e (l.map cn) := fun p hp => by
  obtain ⟨x, hx, rfl⟩ := List.mem_map.1 hp
  exact ⟨Lim_lims _, (h x hx).len⟩
def dep (ps : List (List Int)) (r : List Int) : List Int := ps.foldl (fun r p => red1 p r) r
theorem Seals.box1 {os : List Own} {fs : List Fact} {o : Own} {p : Value} {size : Nat} {e : Nat → Dat} {d : Dat} (h : e 0 = d) : Seals (o :: own1 p size 1 e :: os) fs (o :: own1 p size 1 (fun _ => d) :: os) fs :=
  Seals.own_cong (os := o :: own1 p size 1 e :: os) 1 (fun _ => d) rfl rfl fun i hi => by
    have : i = 0 := by omega
    subst this; exact h
theorem map_cn_get {l : List Int} {k : Nat} (h : k < l.length) : (l.map cn).getD k z0 = cn (l.getD k 0) := by
  simp [List.getD_eq_getElem?_getD, h]
open Go.RowKit
theorem Fit.mono {k k' : Nat} {r : Row} (h : Fit k r) (hk : k ≤ k') : Fit k' r := fun x hx => ⟨(h x hx).1, Nat.le_trans (h x hx).2 hk⟩
theorem Fits.mono {k k' : Nat} {m : List Row} (h : Fits k m) (hk : k ≤ k') : Fits k' m := fun r hr => (h r hr).mono hk
def rstep (acc : List (List Int)) (r : List Int) : List (List Int) := if lead0 (dep acc r) = (dep acc r).length then acc else acc ++ [dep acc r]
open Go.RowKit
def turn (m : List (List Int)) : List (List Int) := (List.range (m.getD 0 []).length).map fun j => (List.range m.length).map fun i => (m.getD i []).getD j 0
open Go.RowKit
def fitsProd {α β : Type} (a : List (List α)) (b : List (List β)) : Prop := right a ∧ right b ∧ b.length = (a.getD 0 []).length
instance {α β : Type} (a : List (List α)) (b : List (List β)) : Decidable (fitsProd a b) := inferInstanceAs (Decidable (_ ∧ _))
open Go.RowKit
def sylAt (p : List Int) (d : Int) (i j : Nat) : Int := if (i : Int) ≤ j ∧ (j : Int) ≤ i + d then (let e := d - ((j : Int) - i); if e < 0 then 0 else p.getD e.toNat 0) else 0
def sylRows (p : List Int) (n c : Nat) : List (List Int) := (List.range n).map fun i => (List.range c).map fun j => sylAt p (deg p) i j
open Go.RowKit
theorem AppendK.pre {P : Program} {ts : List TypeId} {ty : TypeId} {a b : Value} {os os' : List Own} {fs fs' : List Fact} {K : Cont} (hs : Seals os fs os' fs') (h : AppendK P ts ty a b os' fs' K) : AppendK P ts ty a b os fs K :=
  ⟨fun G w hw => h.out G w (hs G w hw)⟩
def bare (p q : List Int) : Prop := deg p < 0 ∨ deg q < 0 ∨ deg p + deg q = 0
instance (p q : List Int) : Decidable (bare p q) := inferInstanceAs (Decidable (_ ∨ _))
def syl (p q : List Int) : List (List Int) := sylRows p (deg q).toNat (deg p + deg q).toNat ++ sylRows q (deg p).toNat (deg p + deg q).toNat
open Go.RowKit
open Go.RowKit
open Go.RowKit
theorem OwnVal.congr {S : Nat → Prop} {B : Nat} {w : World} {v : Value} {size n : Nat} {e e' : Nat → Dat} (h : OwnVal S B w v size n e) (he : ∀ j, j < n → e' j = e j) (hz : 0 < size) : OwnVal S B w v size n e' := by
  have row : ∀ {r n' cap}, n' ≤ n → OwnRow S B w r size n' cap e → OwnRow S B w r size n' cap e' := fun hn ⟨h1, h2, h3, cur, t, h4, h5, h6⟩ =>
    ⟨h1, h2, h3, cur, t, h4, h5, fun i hi => by rw [he i (by omega)]; exact h6 i hi⟩
  rcases h with h | ⟨r, cap, hv, h⟩ | ⟨r, hv, hn, h⟩ | ⟨_, h, _⟩
  · exact .inl h
  · exact .inr (.inl ⟨r, cap, hv, row (Nat.le_refl _) h⟩)
  · exact .inr (.inr (.inl ⟨r, hv, hn, row (by omega) h⟩))
  · omega
theorem Seals.join {size n : Nat} {x : Value} {e : Nat → Dat} {F F' : Own} {os : List Own} {fs : List Fact} (hm : F'.m = F.m + 1) (hs : F'.size = F.size) (hs2 : F.size = size)
    (hv : ∀ i, i < F.m → F'.v i = F.v i ∧ F'.n i = F.n i ∧ ∀ j, j < F.n i → F'.e i j = F.e i j) (hx : F'.v F.m = x ∧ F'.n F.m = n ∧ ∀ j, j < n → F'.e F.m j = e j) (hz : 0 < size := by exact Nat.zero_lt_succ _) :
    Seals (own1 x size n e :: F :: os) fs (F' :: os) fs := by
  intro G w hw
  have has : ∀ b, F'.has b ↔ (own1 x size n e).has b ∨ F.has b := by
    intro b
    constructor
    · rintro ⟨i, hi, hb⟩
      by_cases hif : i < F.m
      · exact .inr ⟨i, hif, by rw [← (hv i hif).1]; exact hb⟩
      · have : i = F.m := by omega
        subst this
        exact .inl ⟨0, Nat.zero_lt_one, by rw [hx.1] at hb; exact hb⟩
    · rintro (⟨i, hi, hb⟩ | ⟨i, hi, hb⟩)
      · exact ⟨F.m, by omega, by rw [hx.1]; exact hb⟩
      · exact ⟨i, by omega, by rw [(hv i hi).1]; exact hb⟩
  have own : ∀ b, owned (F' :: os) b ↔ owned (own1 x size n e :: F :: os) b := fun b => by simp only [owned, has b, or_assoc]
  have good : ∀ b, Good G.A (own1 x size n e :: F :: os) w b → Good G.A (F' :: os) w b := fun b ⟨g1, g2, g3⟩ => ⟨g1, g2, fun h => g3 ((own b).1 h)⟩
  have agree : Agree (Good G.A (own1 x size n e :: F :: os) w) w w := fun _ _ => rfl
  obtain ⟨a1, a2, a3, a4, a5⟩ := hw.apart
  refine ⟨hw.low, hw.size, hw.below, ⟨fun i j b hi hj h1 h2 => ?_, fun b hb ho => ?_, a5⟩, fun o ho i hi => ?_, hw.facts.mono agree good⟩
  · by_cases hif : i < F.m
    · rw [(hv i hif).1] at h1
      by_cases hjf : j < F.m
      · rw [(hv j hjf).1] at h2
        exact a3 i j b hif hjf h1 h2
      · have : j = F.m := by omega
        subst this
        rw [hx.1] at h2
        exact absurd (show owned (F :: os) b from .inl ⟨i, hif, h1⟩) (a2 b ⟨0, Nat.zero_lt_one, h2⟩)
    · have : i = F.m := by omega
      subst this
      rw [hx.1] at h1
      by_cases hjf : j < F.m
      · rw [(hv j hjf).1] at h2
        exact absurd (show owned (F :: os) b from .inl ⟨j, hjf, h2⟩) (a2 b ⟨0, Nat.zero_lt_one, h1⟩)
      · omega
  · rcases (has b).1 hb with h | h
    · exact a2 b h (.inr ho)
    · exact a4 b h ho
  · rcases List.mem_cons.1 ho with rfl | ho
    · by_cases hif : i < F.m
      · obtain ⟨q1, q2, q3⟩ := hv i hif
        have := (hw.own F (by simp) i hif).mono agree good (fun _ _ => rfl)
        rw [q1, q2, hs]
        exact this.congr q3 (by omega)
      · have : i = F.m := by omega
        subst this
        have := (hw.own (own1 x size n e) (by simp) 0 Nat.zero_lt_one).mono agree good (fun _ _ => rfl)
        rw [hx.1, hx.2.1, hs, hs2]
        exact OwnVal.congr this hx.2.2 (by omega)
    · exact (hw.own o (by simp [ho]) i hi).mono agree good (fun _ _ => rfl)
theorem good_sub {A : Nat → Prop} {os : List Own} {w : World} {b pos : Nat} : Good A os w b → Good A (dropOwn os pos) w b := fun ⟨h1, h2, h3⟩ => ⟨h1, h2, fun hb => h3 (by
  obtain ⟨x, hx, hxb⟩ := owned_mem.1 hb
  obtain ⟨i, _, hi⟩ := dropOwn_mem hx
  exact owned_mem.2 ⟨x, nthOwn_mem hi, hxb⟩)⟩
theorem Seals.fam {F : Own} {os : List Own} {fs : List Fact} (pos : Nat) (h : nthOwn os pos = some F) (hs : ∀ i, i < F.m → isSl (F.v i)) :
    Seals os fs (dropOwn os pos) (((List.range F.m).map fun i => (F.v i, .sl F.size (F.n i) (F.e i))) ++ fs) := by
  intro G w hw
  have hd := hw.drop pos
  refine ⟨hd.low, hd.size, hd.below, hd.apart, hd.own, fun x hx => ?_⟩
  rcases List.mem_append.1 hx with hx | hx
  · obtain ⟨i, hi, rfl⟩ := List.mem_map.1 hx
    rw [List.mem_range] at hi
    obtain ⟨a, m, c, hv⟩ := hs i hi
    simp only
    rcases hw.own _ (nthOwn_mem h) i hi with ⟨h1, h2⟩ | ⟨r, cap, h1, h2⟩ | ⟨r, h1, _⟩ | ⟨_, _, _, _, _, _, ⟨r, _, _, h1, _⟩ | ⟨r, _, _, _, _, _, _, h1, _⟩⟩
    rotate_right
    · rw [hv] at h1; simp at h1
    rotate_right
    · rw [hv] at h1; simp at h1
    · rw [h1, h2]
      exact Knw.nil (os := dropOwn os pos) (fs := fs) F.size (F.e i) G w hd
    · have hhas : F.has r := ⟨i, hi, by rw [h1]; rfl⟩
      rw [h1]
      obtain ⟨b1, b2, b3, cur, t, b4, b5, b6⟩ := h2
      refine ⟨[.slice (some ⟨r, 0, none⟩) (F.n i) cap], ⟨_, cap, rfl, b2, b3, fun hn => by simp at hn, fun b hb _ => by simp at hb; subst hb; rfl, fun j hj => ?_⟩, rfl⟩
      obtain ⟨cs, c1, c2, c3⟩ := b6 j hj
      refine ⟨⟨r, 0, none⟩, cs, rfl, c1.mono (fun _ _ => rfl) (fun b hb => good_sub hb), c2, fun q hq => ⟨good_drop hw h hhas, ?_⟩⟩
      rw [← c3 q (by omega)]; simp [World.cell?, b4]
    · rw [hv] at h1; simp at h1
  · exact hd.facts x hx
theorem Seals.over {os : List Own} {fs : List Fact} (pos : Nat) {v : Value} {n : Nat} {vs : Nat → Value} {D : Nat → Dat} (h : nthOwn os pos = some (own1 v 1 n fun i => .one (vs i))) (hs : isSl v)
    (hk : ∀ i, i < n → (vs i, D i) ∈ fs ∧ (D i).flat = true) : Seals os fs (dropOwn os pos) ((v, .sl 1 n D) :: fs) := by
  intro G w hw
  have hd := hw.drop pos
  refine hd.put ?_
  obtain ⟨a, m, c, rfl⟩ := hs
  rcases hw.own _ (nthOwn_mem h) 0 Nat.zero_lt_one with ⟨h1, h2⟩ | ⟨r, cap, h1, h2⟩ | ⟨r, h1, _⟩ | ⟨_, _, _, _, _, _, ⟨r, _, _, h1, _⟩ | ⟨r, _, _, _, _, _, _, h1, _⟩⟩
  rotate_right
  · simp [own1] at h1
  rotate_right
  · simp [own1] at h1
  · simp only [own1] at h1 h2
    rw [h1, h2]
    exact Knw.nil (os := dropOwn os pos) (fs := fs) 1 D G w hd
  · have hhas : (own1 (.slice a m c) 1 n fun i => .one (vs i)).has r := ⟨0, Nat.zero_lt_one, by rw [h1]; rfl⟩
    simp only [own1] at h1 h2
    rw [h1]
    obtain ⟨b1, b2, b3, cur, t, b4, b5, b6⟩ := h2
    refine ⟨[.slice (some ⟨r, 0, none⟩) n cap], ⟨_, cap, rfl, b2, b3, fun hn => by simp at hn, fun b hb _ => by simp at hb; subst hb; rfl, fun i hi => ?_⟩, rfl⟩
    obtain ⟨cs, ⟨rfl, c1⟩, c2, c3⟩ := b6 i hi
    obtain ⟨hm, hf⟩ := hk i hi
    obtain ⟨cs', k1, k2⟩ := hd.facts _ hm
    obtain ⟨u, rfl, _, k3⟩ := RdC.single hf k1
    rw [k3] at k2
    simp only at k2
    refine ⟨⟨r, 0, none⟩, [vs i], rfl, by rw [k2]; exact k1, rfl, fun q hq => ⟨good_drop hw h hhas, ?_⟩⟩
    rw [← c3 q (by simpa using hq)]; simp [World.cell?, b4]
  · simp [own1] at h1
theorem Seals.rows {F : Own} {v : Value} {os : List Own} {fs : List Fact} (hv : isSl v) (hs : ∀ i, i < F.m → isSl (F.v i)) :
    Seals (F :: own1 v 1 F.m (fun i => .one (F.v i)) :: os) fs os ((v, .sl 1 F.m fun i => .sl F.size (F.n i) (F.e i)) :: fs) := by
  refine Seals.trans (Seals.fam (os := F :: own1 v 1 F.m (fun i => .one (F.v i)) :: os) 0 rfl hs) (Seals.trans (Seals.over (os := own1 v 1 F.m (fun i => .one (F.v i)) :: os) (D := fun i => .sl F.size (F.n i) (F.e i)) 0 rfl hv fun i hi => ⟨?_, rfl⟩) (Seals.sub fun x hx => ?_))
  · exact List.mem_append.2 (.inl (List.mem_map.2 ⟨i, List.mem_range.2 hi, rfl⟩))
  · rcases List.mem_cons.1 hx with rfl | hx
    · exact .head _
    · exact .tail _ (List.mem_append.2 (.inr hx))
open Go.RowKit
theorem box_fact {P : Program} {t : TypeId} {v : Value} {d : Dat} {os : List Own} {fs : List Fact} {K : Cont} (hr : Reads os fs v d) (k : ∀ p, K p os ((p, .ptr d) :: fs)) : BoxK P t v os fs K :=
  ⟨Grw.sealed (box_rule hr (K := fun u os' fs' => ∃ os'' fs'', Seals os' fs' os'' fs'' ∧ K u os'' fs'') fun p hp => ⟨_, _, Seals.box (os := own1 p d.cells 1 (fun _ => d) :: os) 0 rfl hp rfl, k p⟩).out⟩
theorem Seals.re {os : List Own} {fs : List Fact} (pos : Nat) {o o' : Own} (h : nthOwn os pos = some o) (s : Nat → Nat) (hs : o'.size = o.size)
    (hv : ∀ i, i < o'.m → s i < o.m ∧ o'.v i = o.v (s i) ∧ o'.n i = o.n (s i) ∧ ∀ j, j < o.n (s i) → o'.e i j = o.e (s i) j) (hinj : ∀ i j, i < o'.m → j < o'.m → s i = s j → i = j) (hz : 0 < o.size := by exact Nat.zero_lt_succ _) :
    Seals os fs (setOwn os pos o') fs := by
  intro G w hw
  have key : ∀ {os : List Own}, Apart os → o ∈ os → ∀ i j b, i < o.m → j < o.m → vblk (o.v i) = some b → vblk (o.v j) = some b → i = j := by
    intro os
    induction os with
    | nil => intro _ hm; simp at hm
    | cons z r ih =>
      intro hA hm
      rcases List.mem_cons.1 hm with rfl | hm
      · exact hA.1
      · exact ih hA.2.2 hm
  refine hw.step h rfl rfl rfl (Nat.le_refl _) (fun _ _ _ => rfl) (fun b ⟨i, hi, hb⟩ => .inl ⟨s i, (hv i hi).1, by rw [← (hv i hi).2.1]; exact hb⟩) (fun i j b hi hj h1 h2 => ?_) fun mono i hi => ?_
  · rw [(hv i hi).2.1] at h1
    rw [(hv j hj).2.1] at h2
    exact hinj i j hi hj (key hw.apart (nthOwn_mem h) _ _ b (hv i hi).1 (hv j hj).1 h1 h2)
  · obtain ⟨q1, q2, q3, q4⟩ := hv i hi
    rw [q2, q3, hs]
    have row : ∀ {r cap n}, n ≤ o.n (s i) → OwnRow (Good G.A os w) G.B w r o.size n cap (o.e (s i)) → OwnRow (Good G.A (setOwn os pos o') w) G.B w r o.size n cap (o'.e i) := fun hn ⟨b1, b2, b3, cur, t, b4, b5, b6⟩ =>
      ⟨b1, b2, b3, cur, t, b4, b5, fun x hx => let ⟨cs, c1, c2⟩ := b6 x hx; ⟨cs, by rw [q4 x (by omega)]; exact mono _ _ c1, c2⟩⟩
    rcases hw.own _ (nthOwn_mem h) (s i) q1 with h1 | ⟨r, cap, h1, h2⟩ | ⟨r, h1, h2, h3⟩ | ⟨_, h1, _⟩
    · exact .inl h1
    · exact .inr (.inl ⟨r, cap, h1, row (Nat.le_refl _) h2⟩)
    · exact .inr (.inr (.inl ⟨r, h1, h2, row (by omega) h3⟩))
    · omega
theorem CallK.pre {P : Program} {d : Bool} {fv : Value} {args : List Value} {os os' : List Own} {fs fs' : List Fact} {K : Cont} (hs : Seals os fs os' fs') (h : CallK P d fv args os' fs' K) : CallK P d fv args os fs K :=
  ⟨fun G w hw => h.out G w (hs G w hw), fun hd G w hw => h.grw hd G w (hs G w hw)⟩
theorem zMulZ (v w : Value) (x y : Int) (a b : Nat) (hx : sz x a) (hy : sz y b) (ha : a ≤ 137438953472) (hb : b ≤ 137438953472) :
    Meets Tryz.prog 82 [v, w] [(v, zd x), (w, zd y)] (fun r os fs => os = [] ∧ fs = [(r, zd (x * y))]) := by
  have h := zmul_meets v w (decide (x < 0)) (decide (y < 0)) (lims x.natAbs) (lims y.natAbs) (Lim_lims _) (Lim_lims _) (Nat.le_trans hx.len ha) (Nat.le_trans hy.len hb)
  rw [iv_zd, iv_zd] at h
  exact h
theorem zMulJ (v w : Value) (x y : Bool × List Nat) (hx : Lim x.2) (lx : x.2.length ≤ 137438953472) (hy : Lim y.2) (ly : y.2.length ≤ 137438953472) :
    Meets Tryz.prog 82 [v, w] [(v, J x), (w, J y)] (fun r os fs => os = [] ∧ fs = [(r, zd (jv x * jv y))]) := zmul_meets v w x.1 y.1 x.2 y.2 hx hy lx ly
theorem zAddZ (v w : Value) (x y : Int) (a b : Nat) (hx : sz x a) (hy : sz y b) (ha : a ≤ 137438953472) (hb : b ≤ 137438953472) :
    Meets Tryz.prog 29 [v, w] [(v, zd x), (w, zd y)] (fun r os fs => os = [] ∧ fs = [(r, zd (x + y))]) := by
  have h := zadd_meets v w (decide (x < 0)) (decide (y < 0)) (lims x.natAbs) (lims y.natAbs) (Lim_lims _) (Lim_lims _) (Nat.le_trans hx.len ha) (Nat.le_trans hy.len hb)
  rw [iv_zd, iv_zd] at h
  exact h
theorem zNormZ (v : Value) (x : Int) (e : Nat) (hx : sz x e) (he : e ≤ 137438953472) :
    Meets Tryz.prog 47 [v] [(v, zd x)] (fun r os fs => os = [] ∧ fs = [(r, zd x)]) := by
  have h := znorm_meets v (decide (x < 0)) (lims x.natAbs) (Lim_lims _) (Nat.le_trans hx.len (by omega))
  rw [iv_zd] at h
  exact h
theorem zNegZ (v : Value) (x : Int) (e : Nat) (hx : sz x e) (he : e ≤ 137438953472) :
    Meets Tryz.prog 51 [v] [(v, zd x)] (fun r os fs => os = [] ∧ fs = [(r, zd (-x))]) := by
  have h := zneg_meets v (decide (x < 0)) (lims x.natAbs) (Lim_lims _) (Nat.le_trans hx.len he)
  rw [iv_zd] at h
  exact h
theorem zSignZ (v : Value) (x : Int) (e : Nat) (hx : sz x e) (he : e ≤ 137438953472) :
    Meets Tryz.prog 42 [v] [(v, zd x)] (fun r os fs => os = [] ∧ fs = [] ∧ r = .int .i64 x.sign) := by
  have h := zsign_meets v (decide (x < 0)) (lims x.natAbs) (Lim_lims _) (Nat.le_trans hx.len he)
  rw [iv_zd] at h
  exact h
theorem zDivModZ (v w : Value) (x y : Int) (a b : Nat) (hx : sz x a) (hy : sz y b) (ha : a ≤ 137438953472) (hb : b ≤ 137438953472) (h0 : y ≠ 0) :
    Meets Tryz.prog 28 [v, w] [(v, zd x), (w, zd y)] (fun r os fs => os = [] ∧ ∃ q m, r = .tuple #[q, m, .bool true] ∧ fs = [(q, zd (x / y)), (m, zd (x % y))]) := by
  have h := zdivmod_meets v w (decide (x < 0)) (decide (y < 0)) (lims x.natAbs) (lims y.natAbs) (Lim_lims _) (Lim_lims _) (Nat.le_trans hx.len ha) (Nat.le_trans hy.len hb) (by rw [nv_lims]; omega)
  rw [iv_zd, iv_zd] at h
  exact h
theorem sz_div {x y : Int} {e : Nat} (h : sz x e) : sz (x / y) e := Nat.lt_of_le_of_lt (Int.natAbs_ediv_le_natAbs x y) h
open Go.RowKit
def famO (vs : Nat → Value) (R C : Nat) (x : Mx) : Own := ⟨R, vs, 2, fun _ => C, fun i k => zd (x i k)⟩
def matL (R C : Nat) (x : Mx) : List (List Int) := (List.range R).map fun i => (List.range C).map fun k => x i k
def outer (v : Value) (R : Nat) (vs : Nat → Value) : Own := own1 v 1 R fun i => .one (vs i)
theorem isSl.one {v : Value} (h : isSl v) : v.oneCell' = true := by obtain ⟨a, n, c, rfl⟩ := h; rfl
theorem Seals.none {os : List Own} {fs : List Fact} (F : Own) (h : F.m = 0) : Seals os fs (F :: os) fs := by
  intro G w hw
  have has : ∀ b, ¬ F.has b := fun b ⟨i, hi, _⟩ => by omega
  have own : ∀ b, owned (F :: os) b ↔ owned os b := fun b => by simp [owned, has b]
  have good : ∀ b, Good G.A os w b → Good G.A (F :: os) w b := fun b ⟨g1, g2, g3⟩ => ⟨g1, g2, fun h => g3 ((own b).1 h)⟩
  have agree : Agree (Good G.A os w) w w := fun _ _ => rfl
  refine ⟨hw.low, hw.size, hw.below, ⟨fun i j b hi _ _ _ => by omega, fun b hb => absurd hb (has b), hw.apart⟩, fun o ho i hi => ?_, hw.facts.mono agree good⟩
  rcases List.mem_cons.1 ho with rfl | ho
  · omega
  · exact (hw.own o ho i hi).mono agree good (fun _ _ => rfl)
theorem matL_len (R C : Nat) (x : Mx) : (matL R C x).length = R := by unfold matL; simp
theorem range_cn {C k : Nat} (g : Nat → Int) (h : k < C) : (((List.range C).map fun k => g k).map cn).getD k z0 = cn (g k) := by
  simp [List.getD_eq_getElem?_getD, h]
theorem Seals.made {v : Value} {vs : Nat → Value} {R C : Nat} {x : Mx} {os : List Own} {fs : List Fact} (hv : isSl v) (hs : ∀ i, i < R → isSl (vs i)) :
    Seals (famO vs R C x :: outer v R vs :: os) fs os ((v, wd (matL R C x)) :: fs) := by
  let F' : Own := ⟨R, vs, 2, fun _ => C, fun i k => J ((((List.range C).map fun k => x i k).map cn).getD k z0)⟩
  have h1 : Seals (famO vs R C x :: outer v R vs :: os) fs (F' :: outer v R vs :: os) fs :=
    Seals.re (os := famO vs R C x :: outer v R vs :: os) 0 rfl (fun i => i) rfl (fun i hi => ⟨hi, rfl, rfl, fun k hk => by
      show J _ = zd _
      have hk' : k < C := hk
      rw [range_cn (fun k => x i k) hk']; rfl⟩) (fun _ _ _ _ e => e)
  refine Seals.trans h1 (Seals.trans (Seals.rows (F := F') hv hs) (Seals.cons (Knw.cast (Knw.sl_cong (e' := fun i => V (((matL R C x).map (·.map cn)).getD i [])) (Knw.fact (List.Mem.head _)) fun i hi => ?_) ?_) (Seals.sub fun F hF => .tail _ hF)))
  · have e : ((matL R C x).map (·.map cn)).getD i [] = ((List.range C).map fun k => x i k).map cn := by
      have hi' : i < R := hi
      unfold matL; simp [List.getD_eq_getElem?_getD, hi']
    rw [e]
    unfold V LD
    rw [List.length_map, List.length_map, List.length_range]
  · unfold wd W LD
    rw [List.length_map, matL_len]
end Go.Proofs.YtgpcepcbdpigfaaGreat
namespace Go.Proofs.YtgpcepcbdpigfaaGreat
structure Bs where
  x : Mx
  last : Int
  odd : Bool
  step : Nat
def pfind (x : Mx) (R c : Nat) : Nat → Nat → Nat
  | 0, _ => R
  | n + 1, p => if x p c = 0 then pfind x R c n (p + 1) else p
def swp (x : Mx) (s p : Nat) : Mx := fun i k => x (if i = s then p else if i = p then s else i) k
def elim (x : Mx) (s c : Nat) (last : Int) : Mx := fun i k => if i ≤ s then x i k else if k < c then x i k else if k = c then 0 else (x s c * x i k - x i c * x s k) / last
def bstep (R : Nat) (st : Bs) (c : Nat) : Bs :=
  if pfind st.x R c (R - st.step) st.step = R then st
  else ⟨elim (swp st.x st.step (pfind st.x R c (R - st.step) st.step)) st.step c st.last, swp st.x st.step (pfind st.x R c (R - st.step) st.step) st.step c,
    if pfind st.x R c (R - st.step) st.step = st.step then st.odd else !st.odd, st.step + 1⟩
def brun (R : Nat) : Nat → Nat → Bs → Bs
  | 0, _, st => st
  | n + 1, c, st => if st.step < R then brun R n (c + 1) (bstep R st c) else st
theorem pfind_spec (x : Mx) (R c : Nat) : ∀ (n p : Nat), p + n = R → (pfind x R c n p = R ∧ ∀ i, p ≤ i → i < R → x i c = 0) ∨ (p ≤ pfind x R c n p ∧ pfind x R c n p < R ∧ x (pfind x R c n p) c ≠ 0)
  | 0, p, h => .inl ⟨rfl, fun i h1 h2 => by omega⟩
  | n + 1, p, h => by
    unfold pfind
    split
    · rename_i h0
      rcases pfind_spec x R c n (p + 1) (by omega) with ⟨h1, h2⟩ | ⟨h1, h2, h3⟩
      · refine .inl ⟨h1, fun i hi hR => ?_⟩
        by_cases e : i = p
        · rw [e, h0]
        · exact h2 i (by omega) hR
      · exact .inr ⟨by omega, h2, h3⟩
    · rename_i h0
      exact .inr ⟨Nat.le_refl _, by omega, h0⟩
def sub' (A : Mx) (rl cl : List Nat) : Mx := fun i j => A (rl.getD i 0) (cl.getD j 0)
def wt (A : Mx) (s x : Nat) (rl cl : List Nat) : Nat → Int := fun r => sg (r + 1) * det s (cut (sub' A (x :: rl) (0 :: cl)) (r + 1) 0)
theorem bord (A : Mx) (s x k : Nat) (rl cl : List Nat) :
    det (s + 1) (sub' A (x :: rl) (k :: cl)) = A x k * det s (sub' A rl cl) + isum (fun r => wt A s x rl cl r * A (rl.getD r 0) k) s := by
  rw [det, isum_front]
  congr 1
  · simp [sg, sub']; rfl
  · refine isum_congr fun r _ => ?_
    have : cut (sub' A (x :: rl) (k :: cl)) (r + 1) 0 = cut (sub' A (x :: rl) (0 :: cl)) (r + 1) 0 := by
      funext a b; simp [cut, sub', sk_zero]
    rw [this]
    simp only [wt, sub', List.getD_cons_succ, List.getD_cons_zero]
    grind
theorem bord_zero (A : Mx) {s x k j : Nat} (rl cl : List Nat) (hj : j < s) (h : cl.getD j 0 = k) : det (s + 1) (sub' A (x :: rl) (k :: cl)) = 0 := by
  rw [← det_tr]
  refine (det_form (s + 1)).eqRows (r := 0) (s := j + 1) (by omega) (by omega) (by omega) fun i _ => ?_
  simp only [tp, sub', List.getD_cons_succ, List.getD_cons_zero, h]
theorem det_row0 {n : Nat} (A : Mx) (h : ∀ j, 0 < j → j < n + 1 → A 0 j = 0) : det (n + 1) A = A 0 0 * det n (cut A 0 0) := by
  rw [det_row A (i := 0) (by omega), isum_front, isum_zero fun j hj => by rw [h (j + 1) (by omega) (by omega)]; simp]
  simp [sg]
theorem det_row01 {n : Nat} (A : Mx) (h : ∀ j, 1 < j → j < n + 2 → A 0 j = 0) : det (n + 2) A = A 0 0 * det (n + 1) (cut A 0 0) - A 0 1 * det (n + 1) (cut A 0 1) := by
  rw [det_row A (i := 0) (by omega), isum_front, isum_front, isum_zero fun j hj => by rw [h (j + 1 + 1) (by omega) (by omega)]; simp]
  simp [sg]; omega
theorem sylv (A : Mx) (s x y c k : Nat) (rl cl : List Nat) (hd : det s (sub' A rl cl) ≠ 0) :
    det s (sub' A rl cl) * det (s + 2) (sub' A (y :: x :: rl) (k :: c :: cl)) =
      det (s + 1) (sub' A (x :: rl) (c :: cl)) * det (s + 1) (sub' A (y :: rl) (k :: cl)) - det (s + 1) (sub' A (y :: rl) (c :: cl)) * det (s + 1) (sub' A (x :: rl) (k :: cl)) := by
  let d := det s (sub' A rl cl)
  let cs := k :: c :: cl
  let n0 := sub' A (y :: x :: rl) cs
  let My : Nat → Int := fun j => det (s + 1) (sub' A (y :: rl) (cs.getD j 0 :: cl))
  let Mx' : Nat → Int := fun j => det (s + 1) (sub' A (x :: rl) (cs.getD j 0 :: cl))
  have hF := det_form (s + 2)
  have e1 : det (s + 2) (rw' n0 1 Mx') = d * det (s + 2) n0 := by
    have h1 := hF.smul n0 (r := 1) (by omega) d (n0 1)
    rw [rw_self] at h1
    rw [← h1]
    have h2 := hF.addRows (A := n0) (r := 1) (by omega) (wt A s x rl cl) (fun r => r + 2) s (fun r hr => ⟨by omega, by omega⟩) (fun j => d * n0 1 j)
    rw [← h2]
    refine det_congr fun i j _ _ => ?_
    unfold rw'
    split
    · show Mx' j = _
      simp only [Mx']
      rw [bord]
      simp only [n0, sub', List.getD_cons_succ, List.getD_cons_zero, d, cs]
      rw [Int.mul_comm]
    · rfl
  have e2 : det (s + 2) (rw' (rw' n0 1 Mx') 0 My) = d * (d * det (s + 2) n0) := by
    rw [← e1]
    have h1 := hF.smul (rw' n0 1 Mx') (r := 0) (by omega) d (n0 0)
    have e0 : rw' (rw' n0 1 Mx') 0 (n0 0) = rw' n0 1 Mx' := by
      funext i j; unfold rw'; split
      · rename_i h; rw [h, if_neg (by omega)]
      · rfl
    rw [e0] at h1
    rw [← h1]
    have h2 := hF.addRows (A := rw' n0 1 Mx') (r := 0) (by omega) (wt A s y rl cl) (fun r => r + 2) s (fun r hr => ⟨by omega, by omega⟩) (fun j => d * n0 0 j)
    rw [← h2]
    refine det_congr fun i j _ _ => ?_
    unfold rw'
    split
    · show My j = _
      simp only [My]
      rw [bord]
      have : ∀ r, ¬ r + 2 = 1 := fun r => by omega
      simp only [n0, sub', List.getD_cons_succ, List.getD_cons_zero, d, cs, if_neg (this _)]
      rw [Int.mul_comm]
    · rfl
  have z : ∀ w j, 1 < j → j < s + 2 → det (s + 1) (sub' A (w :: rl) (cs.getD j 0 :: cl)) = 0 := fun w j h1 h2 => by
    obtain ⟨j, rfl⟩ : ∃ j', j = j' + 2 := ⟨j - 2, by omega⟩
    exact bord_zero A rl cl (j := j) (by omega) (by simp [cs])
  have e3 : det (s + 2) (rw' (rw' n0 1 Mx') 0 My) = My 0 * (Mx' 1 * d) - My 1 * (Mx' 0 * d) := by
    rw [det_row01 _ fun j h1 h2 => by show (if 0 = 0 then My j else _) = 0; rw [if_pos rfl]; exact z y j h1 h2]
    have f0 : rw' (rw' n0 1 Mx') 0 My 0 0 = My 0 := if_pos rfl
    have f1 : rw' (rw' n0 1 Mx') 0 My 0 1 = My 1 := if_pos rfl
    rw [f0, f1]
    congr 2
    · rw [det_row0 _ fun j h1 h2 => ?_]
      · congr 1
      · simp only [cut, sk_zero, rw']
        exact z x (j + 1) (by omega) (by omega)
    · rw [det_row0 _ fun j h1 h2 => ?_]
      · congr 1
      · have e : sk 1 j = j + 1 := if_neg (by omega)
        simp only [cut, sk_zero, rw', e]
        exact z x (j + 1) (by omega) (by omega)
  rw [e2] at e3
  have e4 : d * (d * det (s + 2) n0) = d * (Mx' 1 * My 0 - My 1 * Mx' 0) := by rw [e3]; grind
  exact Int.eq_of_mul_eq_mul_left hd e4
structure BInv (A : Mx) (R C : Nat) (st : Bs) (c : Nat) (rl cl : List Nat) (p : Nat → Nat) : Prop where
  stepR : st.step ≤ R
  into : ∀ i, i < R → p i < R
  onto : ∀ i, i < R → ∃ j, j < R ∧ p j = i
  rows : ∀ j, j < st.step → rl.getD j 0 = p (st.step - 1 - j)
  cols : ∀ j, j < st.step → cl.getD j 0 < c
  down : ∀ j, j + 1 < st.step → cl.getD (j + 1) 0 < cl.getD j 0
  last : st.last = det st.step (sub' A rl cl)
  ne : st.last ≠ 0
  val : ∀ i k, st.step ≤ i → i < R → k < C → st.x i k = det (st.step + 1) (sub' A (p i :: rl) (k :: cl))
  zero : ∀ i k, st.step ≤ i → i < R → k < c → k < C → st.x i k = 0
  sign : det R (fun i j => A (p i) j) = (if st.odd then -1 else 1) * det R A
theorem BInv.start (A : Mx) (R C : Nat) : BInv A R C ⟨A, 1, false, 0⟩ 0 [] [] (fun i => i) :=
  ⟨Nat.zero_le _, fun _ h => h, fun i h => ⟨i, h, rfl⟩, fun j h => absurd h (Nat.not_lt_zero _), fun j h => absurd h (Nat.not_lt_zero _), fun j h => absurd h (Nat.not_lt_zero _), rfl, by simp,
    fun i k _ _ _ => by simp [det, isum, sg, sub'], fun i k _ _ h => absurd h (Nat.not_lt_zero _), by simp⟩
theorem BInv.step {A : Mx} {R C : Nat} {st : Bs} {c : Nat} {rl cl : List Nat} {p : Nat → Nat} (h : BInv A R C st c rl cl p) (hs : st.step < R) (hc : c < C) :
    ∃ rl' cl' p', BInv A R C (bstep R st c) (c + 1) rl' cl' p' := by
  obtain ⟨x, last, odd, s⟩ := st
  simp only at hs
  have hv := h.val
  have hz := h.zero
  have hlast := h.last
  simp only at hv hz hlast
  unfold bstep
  rcases pfind_spec x R c (R - s) s (by omega) with ⟨h1, h2⟩ | ⟨h1, h2, h3⟩
  · simp only [h1, if_true]
    refine ⟨rl, cl, p, h.stepR, h.into, h.onto, h.rows, fun j hj => Nat.lt_succ_of_lt (h.cols j hj), h.down, h.last, h.ne, h.val, fun i k hi hR hk hC => ?_, h.sign⟩
    by_cases e : k = c
    · subst e; exact h2 i hi hR
    · exact hz i k hi hR (by omega) hC
  · generalize pfind x R c (R - s) s = q at h1 h2 h3
    simp only [if_neg (Nat.ne_of_lt h2)]
    let t : Nat → Nat := fun i => if i = s then q else if i = q then s else i
    have tt : ∀ i, t (t i) = i := fun i => by simp only [t]; split <;> split <;> (try split) <;> omega
    have tR : ∀ i, i < R → t i < R := fun i hi => by simp only [t]; split <;> (try split) <;> omega
    have ts : ∀ i, s ≤ i → s ≤ t i := fun i hi => by simp only [t]; split <;> (try split) <;> omega
    have tl : ∀ i, i < s → t i = i := fun i hi => by simp only [t]; rw [if_neg (by omega), if_neg (by omega)]
    have hy : ∀ i k, swp x s q i k = x (t i) k := fun _ _ => rfl
    have hts : t s = q := if_pos rfl
    have hv' : ∀ i k, s ≤ i → i < R → k < C → swp x s q i k = det (s + 1) (sub' A (p (t i) :: rl) (k :: cl)) := fun i k h1 h2 h3 => by rw [hy]; exact hv _ _ (ts i h1) (tR i h2) h3
    have hz' : ∀ i k, s ≤ i → i < R → k < c → swp x s q i k = 0 := fun i k h1 h2 h3 => by rw [hy]; exact hz _ _ (ts i h1) (tR i h2) h3 (by omega)
    have hd : swp x s q s c = det (s + 1) (sub' A (p (t s) :: rl) (c :: cl)) := hv' s c (Nat.le_refl _) hs hc
    have hd0 : swp x s q s c ≠ 0 := by rw [hy, hts]; exact h3
    have hl0 : det s (sub' A rl cl) ≠ 0 := by have := h.ne; simp only at this; rwa [hlast] at this
    have hsyl : ∀ i k, s ≤ i → i < R → k < C → det s (sub' A rl cl) * det (s + 2) (sub' A (p (t i) :: p (t s) :: rl) (k :: c :: cl)) = swp x s q s c * swp x s q i k - swp x s q i c * swp x s q s k := fun i k h1 h2 h3 => by
      rw [hv' s c (Nat.le_refl _) hs hc, hv' i k h1 h2 h3, hv' i c h1 h2 hc, hv' s k (Nat.le_refl _) hs h3]
      exact sylv A s (p (t s)) (p (t i)) c k rl cl hl0
    refine ⟨p (t s) :: rl, c :: cl, fun i => p (t i), by simp only; omega, fun i hi => h.into _ (tR i hi), fun i hi => ?_, fun j hj => ?_, fun j hj => ?_, fun j hj => ?_, hd, hd0, fun i k hi hR hk => ?_, fun i k hi hR hk hC => ?_, ?_⟩
    · obtain ⟨j, hj, e⟩ := h.onto i hi
      exact ⟨t j, tR j hj, by rw [tt, e]⟩
    · simp only at hj ⊢
      cases j with
      | zero => rw [List.getD_cons_zero]; congr 2
      | succ j =>
        rw [List.getD_cons_succ]
        have := h.rows j (by simp only; omega)
        simp only at this
        rw [this, show s + 1 - 1 - (j + 1) = s - 1 - j by omega, tl _ (by omega)]
    · simp only at hj
      cases j with
      | zero => rw [List.getD_cons_zero]; omega
      | succ j => rw [List.getD_cons_succ]; have := h.cols j (by simp only; omega); omega
    · simp only at hj
      cases j with
      | zero => rw [List.getD_cons_zero, List.getD_cons_succ]; exact h.cols 0 (by simp only; omega)
      | succ j => rw [List.getD_cons_succ, List.getD_cons_succ]; exact h.down j (by simp only; omega)
    · simp only at hi ⊢
      have hsy := hsyl i k (by omega) hR hk
      unfold elim
      rw [if_neg (by omega)]
      by_cases hkc : k < c
      · rw [if_pos hkc]
        rw [hz' i k (by omega) hR hkc, hz' s k (Nat.le_refl _) hs hkc] at hsy
        rw [hz' i k (by omega) hR hkc]
        rcases Int.mul_eq_zero.1 (show det s (sub' A rl cl) * det (s + 2) (sub' A (p (t i) :: p (t s) :: rl) (k :: c :: cl)) = 0 by rw [hsy]; omega) with h4 | h4
        · exact absurd h4 hl0
        · exact h4.symm
      · rw [if_neg hkc]
        by_cases e : k = c
        · rw [if_pos e]
          exact (bord_zero A (p (t s) :: rl) (c :: cl) (j := 0) (by omega) (by rw [e]; rfl)).symm
        · rw [if_neg e, ← hsy, hlast, Int.mul_ediv_cancel_left _ hl0]
    · simp only at hi ⊢
      unfold elim
      rw [if_neg (by omega)]
      by_cases hkc : k < c
      · rw [if_pos hkc]; exact hz' i k (by omega) hR hkc
      · rw [if_neg hkc, if_pos (by omega)]
    · have hsg := h.sign
      simp only at hsg ⊢
      by_cases e : q = s
      · rw [if_pos e]
        rw [← hsg]
        refine det_congr fun i j _ _ => ?_
        have : t i = i := by simp only [t]; split <;> (try split) <;> omega
        rw [this]
      · rw [if_neg e]
        have hw := (det_form R).swap (A := fun i j => A (p i) j) (r := s) (s := q) hs h2 (fun e' => e e'.symm)
        rw [hsg] at hw
        have : det R (fun i j => A (p (t i)) j) = - ((if odd = true then -1 else 1) * det R A) := by
          rw [← hw]
          refine det_congr fun i j _ _ => ?_
          simp only [rw', t]
          by_cases h1 : i = q
          · simp [h1, e]
          · by_cases h2 : i = s
            · have : ¬ s = q := fun e' => e e'.symm
              simp [h2, this]
            · simp [h1, h2]
        rw [this]
        cases odd <;> simp
theorem BInv.run {A : Mx} {R C : Nat} : ∀ (n : Nat) {st : Bs} {c : Nat} {rl cl : List Nat} {p : Nat → Nat}, BInv A R C st c rl cl p → c + n = C →
    ∃ c' rl' cl' p', BInv A R C (brun R n c st) c' rl' cl' p' ∧ c' ≤ C ∧ ((brun R n c st).step = R ∨ c' = C)
  | 0, st, c, rl, cl, p, h, hc => ⟨c, rl, cl, p, h, by omega, .inr (by omega)⟩
  | n + 1, st, c, rl, cl, p, h, hc => by
    unfold brun
    split
    · rename_i hs
      obtain ⟨rl', cl', p', h'⟩ := h.step hs (by omega)
      exact BInv.run n h' (by omega)
    · rename_i hs
      exact ⟨c, rl, cl, p, h, by omega, .inl (by have := h.stepR; omega)⟩
open Go.RowKit
def Eb (k : Nat) : Nat → Nat
  | 0 => k + 1
  | c + 1 => 2 * Eb k c + 1
theorem sz_elim {a b c d l : Int} {e : Nat} (ha : sz a e) (hb : sz b e) (hc : sz c e) (hd : sz d e) : sz ((a * b - c * d) / l) (2 * e + 1) := by
  refine sz_div (sz_sub ?_ ?_)
  · rw [Nat.two_mul]; exact ha.mul hb
  · rw [Nat.two_mul]; exact hc.mul hd
structure BSz (k R C : Nat) (st : Bs) (c : Nat) : Prop where
  x : ∀ i j, i < R → j < C → sz (st.x i j) (Eb k c)
  l : sz st.last (Eb k c)
  ne : st.last ≠ 0
def mx (m : List (List Int)) : Mx := fun i j => (m.getD i []).getD j 0
open Go.RowKit
def ex (s p i : Nat) : Nat := if i = s then p else if i = p then s else i
theorem ex_lt {s p i R : Nat} (hs : s < R) (hp : p < R) (hi : i < R) : ex s p i < R := by unfold ex; split <;> (try split) <;> omega
theorem BSz.step {k R C : Nat} {x : Mx} {last : Int} {odd od : Bool} {s c p : Nat} (h : BSz k R C ⟨x, last, odd, s⟩ c) (hs : s < R) (hp : p < R) (hc : c < C) (h0 : swp x s p s c ≠ 0) :
    BSz k R C ⟨elim (swp x s p) s c last, swp x s p s c, od, s + 1⟩ (c + 1) := by
  have hx : ∀ i j, i < R → j < C → sz (swp x s p i j) (Eb k c) := fun i j hi hj => h.x (ex s p i) j (ex_lt hs hp hi) hj
  refine ⟨fun i j hi hj => ?_, (hx s c hs hc).mono (by simp only [Eb]; omega), h0⟩
  have hm : Eb k c ≤ Eb k (c + 1) := by simp only [Eb]; omega
  simp only [elim]
  split
  · exact (hx i j hi hj).mono hm
  · split
    · exact (hx i j hi hj).mono hm
    · split
      · exact sz_zero _
      · exact sz_elim (hx s c hs hc) (hx i j hi hj) (hx i c hi hc) (hx s j hs hj)
theorem BSz.skip {k R C : Nat} {st : Bs} {c : Nat} (h : BSz k R C st c) : BSz k R C st (c + 1) :=
  ⟨fun i j hi hj => (h.x i j hi hj).mono (by simp only [Eb]; omega), h.l.mono (by simp only [Eb]; omega), h.ne⟩
open Go.RowKit
open Go.RowKit
theorem info_n : (Tryz.prog.info? 3).map (fun i => (i.zero, i.size, i.bytes)) = some (some (.int .i64 0), 1, 8) := by kernel_rfl
instance tzN : TZero Tryz.prog 3 (.one (.int .i64 0)) := tzero info_n fun _ _ => ⟨rfl, rfl⟩
open Go.RowKit
theorem Knw.vd_of {os : List Own} {fs : List Fact} {v : Value} {n : Nat} {g : Nat → Int} (h : Knw os fs v (.sl 2 n fun i => J ((((List.range n).map g).map cn).getD i z0))) : Knw os fs v (vd ((List.range n).map g)) :=
  h.cast (by unfold vd V LD; simp)
open Go.RowKit
theorem degTo_le (l : List Int) : ∀ (n : Nat) (k : Nat), k ≤ n → (∀ j, k ≤ j → j < n → l.getD j 0 = 0) → degTo l n = degTo l k
  | 0, k, h, _ => by have : k = 0 := by omega
                     subst this; rfl
  | n + 1, k, h, hz => by
    by_cases e : k = n + 1
    · rw [e]
    · rw [degTo, if_pos (hz n (by omega) (by omega))]
      exact degTo_le l n k (by omega) fun j h1 h2 => hz j h1 (by omega)
theorem pDegree_meets (v : Value) (p : Row) (hp : Fit 137438953472 p) :
    Meets Tryz.prog 25 [v] [(v, V p)] (fun r os fs => os = [] ∧ fs = [] ∧ r = .int .i64 (deg (vv p))) := by
  refine meets_of_vc Tryz.func25 (by kernel_rfl) rfl (by kernel_rfl) (Nat.le_of_ble_eq_true rfl) ?_
  refine len_fact qM fun _ => ?_
  refine loop_rule (X := Nat) (fun n => ([(0, v), (3, .int .i64 (n : Nat))], [], [(v, V p)])) (fun n => n ≤ p.length ∧ ∀ j, n ≤ j → j < p.length → (vv p).getD j 0 = 0) (fun n => n) rfl ?_ ?_
  · exact again p.length ⟨Nat.le_refl _, fun j h1 h2 => by omega⟩ trivial qF (Seals.sub qS)
  · rintro n ⟨h1, h2⟩
    refine cmp_split _ rfl (fun hn => ?_) (fun hn => ?_)
    · have hn' : n - 1 < p.length := by omega
      have hg := vv_get p (n - 1) hn'
      refine ar rfl qI ?_
      refine index_fact qM (n - 1) (by omega) hn' fun a1 => ?_
      refine load_fact (d := J (p.getD (n - 1) z0)) qM (load_J _) fun x1 => ?_
      refine call_fn (zsign_meets x1 (p.getD (n - 1) z0).1 (p.getD (n - 1) z0).2 (hp.get _).1 (hp.get _).2) (Seals.refl _ _) qS ?_
      rintro _ _ _ ⟨rfl, rfl, rfl⟩
      refine cmp_split _ rfl (fun hz => ?_) (fun hz => ?_)
      · refine ar rfl qI ?_
        refine again (n - 1) ⟨by omega, fun j h3 h4 => ?_⟩ (by simp only; omega) qF (Seals.sub qS)
        by_cases e : j = n - 1
        · rw [e, hg]; exact Int.sign_eq_zero_iff_zero.1 hz
        · exact h2 j (by omega) h4
      · refine ar rfl qI ?_
        refine fin ⟨rfl, rfl, ?_⟩ (Seals.nil _ _)
        have hd : degTo (vv p) p.length = degTo (vv p) n := degTo_le _ _ _ h1 h2
        have hne : (vv p).getD (n - 1) 0 ≠ 0 := by rw [hg]; exact fun e => hz (Int.sign_eq_zero_iff_zero.2 e)
        unfold deg
        rw [vv_len, hd]
        obtain ⟨n', rfl⟩ : ∃ n', n = n' + 1 := ⟨n - 1, by omega⟩
        rw [degTo, if_neg (by simpa using hne)]
        exact congrArg (Value.int .i64) (by omega)
    · have hn0 : n = 0 := by omega
      subst hn0
      refine ar rfl qI ?_
      refine fin ⟨rfl, rfl, ?_⟩ (Seals.nil _ _)
      unfold deg
      rw [vv_len, degTo_le _ _ _ h1 h2]; rfl
theorem zero_I : (Dat.cat (.one (.bool false)) (U (lims 0))) = J z0 := by rw [lims_zero]; rfl
def mres (p q : List Int) : Int := if deg p < 0 ∨ deg q < 0 then 0 else if bare p q then 1 else det (syl p q).length (mx (syl p q))
open Go.RowKit
open Go.RowKit
theorem draw_join {P : Program} {N id : Nat} {L : List Oper} {f : Fr} {os : List Own} {fs : List Fact} {K : Next1} {X : Type} (I : X → Fr × List Own × List Fact) (ok : X → Prop)
    (h : DrawK P N id L f os fs fun f os fs => AtK I ok f os fs fun _ => True) (k : ∀ x, ok x → K (I x).1 (I x).2.1 (I x).2.2) : DrawK P N id L f os fs K := by
  refine ⟨fun G Q hQ a w hk hw => ?_⟩
  let Q' : Post := fun e => match e with
    | .normal => fun f os fs => AtK I ok f os fs fun _ => True
    | e => Q e
  refine wp_mono (h.out G Q' rfl a w hk hw) ?_
  rintro e a' w' ⟨f', os', fs', hk', hw', hq⟩
  cases e with
  | normal =>
    obtain ⟨⟨x, hx, _, g1, g2⟩⟩ := hq
    exact ⟨_, _, _, hk'.sub g1, g2 G w' hw', by rw [hQ]; exact k x hx⟩
  | exit id => exact ⟨f', os', fs', hk', hw', hq⟩
  | goto l => exact ⟨f', os', fs', hk', hw', hq⟩
  | ret => exact ⟨f', os', fs', hk', hw', hq⟩
  | panic ch => exact ⟨f', os', fs', hk', hw', hq⟩
  | outgrown => exact ⟨f', os', fs', hk', hw', hq⟩
theorem take_getD {α : Type} {l : List α} {i j : Nat} (z : α) (h : j < i) : (l.take i).getD j z = l.getD j z := by
  simp [List.getD_eq_getElem?_getD, h]
open Go.RowKit
theorem get_cn (m : List (List Int)) (i : Nat) : ((m.map (·.map cn)).getD i []) = (m.getD i []).map cn := by
  by_cases h : i < m.length
  · simp [List.getD_eq_getElem?_getD, h]
  · simp [List.getD_eq_getElem?_getD, h]
def szR (e : Nat) (l : List Int) : Prop := ∀ x, x ∈ l → sz x e
theorem exactW (v w : Value) (x y : Int) : Meets Tryz.prog 12 [v, w] [(v, zd x), (w, zd y)] (fun r os fs => os = [] ∧ fs = [] ∧ r = .bool (decide (x = y))) := by
  have h := exact_meets v w (cn x) (cn y)
  have e : (cn x = cn y) ↔ x = y := ⟨fun h => by rw [← jv_cn x, h, jv_cn], fun h => by rw [h]⟩
  rw [decide_eq_decide.2 e] at h
  exact h
theorem map_cn_inj {l m : List Int} : l.map cn = m.map cn ↔ l = m := ⟨fun h => by rw [← vv_cn l, h, vv_cn], fun h => by rw [h]⟩
theorem exactAllW (v w : Value) (x y : List Int) : Meets Tryz.prog 15 [v, w] [(v, vd x), (w, vd y)] (fun r os fs => os = [] ∧ fs = [] ∧ r = .bool (decide (x = y))) := by
  have h := exactAll_meets v w (x.map cn) (y.map cn)
  rw [decide_eq_decide.2 map_cn_inj] at h
  exact h
def IL (l : List Int) : Dat := .sl 1 l.length fun i => .one (.int .i64 (l.getD i 0))
theorem lit_IL {P : Program} {t e : TypeId} {os : List Own} {fs : List Fact} {K : Cont} [ht : TSl P t e 1] [he : TEl P e 1 8] {n : Nat} (l : List Int) {ps : List (Nat × Value)} (hps : ps = enumP 0 (l.map fun x => Value.int .i64 x)) (hn : n = l.length) (hl : l.length ≤ 1000) (k : ∀ v, K v os ((v, IL l) :: fs)) :
    BuildSliceK P t n ps os fs K := by
  have hr : ∀ l : List Int, ReadsAll os fs 1 (l.map fun x => Value.int .i64 x) (l.map fun x => Dat.one (.int .i64 x)) := fun l => by
    induction l with
    | nil => trivial
    | cons x l ih => exact ⟨Reads.one rfl, rfl, ih⟩
  have h1 := buildSlice_fact (P := P) (t := t) (os := os) (fs := fs) (K := fun u os' fs' => ∃ os'' fs'', Seals os' fs' os'' fs'' ∧ K u os'' fs'') (n := n) (l.map fun x => Value.int .i64 x) (l.map fun x => Dat.one (.int .i64 x)) hps (by rw [hn, List.length_map]) (by omega) (by decide) (hr l)
  refine ⟨Grw.sealed (h1 fun v => ⟨_, _, ?_, k v⟩).out⟩
  exact Seals.knw_cong hn fun i hi => by
    have hi' : i < l.length := by omega
    simp [List.getD_eq_getElem?_getD, hi']
end Go.Proofs.YtgpcepcbdpigfaaGreat
namespace Go.Proofs.YtgpcepcbdpigfaaGreat
def at' (S : List (List Int)) (j k : Nat) : Int := (S.getD j []).getD k 0
structure Steps (C : Nat) (S : List (List Int)) : Prop where
  len : ∀ s, s ∈ S → s.length = C
  lead : ∀ s, s ∈ S → lead0 s < C
  stair : ∀ i j, i < j → j < S.length → at' S j (lead0 (S.getD i [])) = 0
theorem lead0_ne {l : List Int} (h : lead0 l < l.length) : l.getD (lead0 l) 0 ≠ 0 := by
  induction l with
  | nil => simp at h
  | cons x l ih =>
    unfold lead0 at h ⊢
    by_cases hx : x = 0
    · simp only [hx, if_true] at h ⊢
      rw [List.getD_cons_succ]
      exact ih (by simpa using h)
    · simp only [hx, if_false]
      simpa using hx
theorem lead0_all {l : List Int} (h : lead0 l = l.length) (k : Nat) : l.getD k 0 = 0 := by
  induction l generalizing k with
  | nil => simp
  | cons x l ih =>
    unfold lead0 at h
    by_cases hx : x = 0
    · simp only [hx, if_true, List.length_cons] at h
      cases k with
      | zero => simpa using hx
      | succ k => rw [List.getD_cons_succ]; exact ih (by omega) k
    · simp [hx] at h
theorem at_snoc_lt {S : List (List Int)} {s : List Int} {j : Nat} (h : j < S.length) : (S ++ [s]).getD j [] = S.getD j [] := by
  simp [List.getD_eq_getElem?_getD, List.getElem?_append_left h]
theorem at_snoc_eq (S : List (List Int)) (s : List Int) : (S ++ [s]).getD S.length [] = s := by
  simp [List.getD_eq_getElem?_getD]
theorem Steps.init {C : Nat} {S : List (List Int)} {s : List Int} (h : Steps C (S ++ [s])) : Steps C S :=
  ⟨fun x hx => h.len x (by simp [hx]), fun x hx => h.lead x (by simp [hx]), fun i j hij hj => by
    have := h.stair i j hij (by simp; omega)
    unfold at' at this ⊢
    rwa [at_snoc_lt hj, at_snoc_lt (by omega)] at this⟩
theorem dep_snoc (S : List (List Int)) (s r : List Int) : dep (S ++ [s]) r = red1 s (dep S r) := by
  unfold dep; rw [List.foldl_append]; rfl
theorem dep_len (S : List (List Int)) (r : List Int) : (dep S r).length = r.length := by
  unfold dep
  induction S generalizing r with
  | nil => rfl
  | cons s S ih => rw [List.foldl_cons, ih, red1_len]
theorem dep_spec {C : Nat} (r : List Int) (hr : r.length = C) : ∀ (n : Nat) (S : List (List Int)), S.length = n → Steps C S →
    (∃ D : Int, D ≠ 0 ∧ ∃ g : Nat → Int, ∀ k, k < C → (dep S r).getD k 0 = D * r.getD k 0 - isum (fun j => g j * at' S j k) S.length) ∧ ∀ j, j < S.length → (dep S r).getD (lead0 (S.getD j [])) 0 = 0
  | 0, S, hn, _ => by
    have : S = [] := List.eq_nil_of_length_eq_zero hn
    subst this
    exact ⟨⟨1, by decide, fun _ => 0, fun k _ => by simp [dep, isum]⟩, fun j hj => by simp at hj⟩
  | n + 1, S, hn, hS => by
    obtain ⟨S', s, rfl⟩ : ∃ S' s, S = S' ++ [s] := by
      refine ⟨S.dropLast, S.getLast (by intro e; simp [e] at hn), ?_⟩
      rw [List.dropLast_concat_getLast]
    have hn' : S'.length = n := by simpa using hn
    obtain ⟨⟨D, hD, g, hg⟩, hz⟩ := dep_spec r hr n S' hn' hS.init
    have hs : s.length = C := hS.len s (by simp)
    have hl : lead0 s < C := hS.lead s (by simp)
    have hsp : s.getD (lead0 s) 0 ≠ 0 := lead0_ne (by omega)
    have hdl : (dep S' r).length = C := by rw [dep_len, hr]
    rw [dep_snoc]
    constructor
    · refine ⟨s.getD (lead0 s) 0 * D, Int.mul_ne_zero hsp hD, fun j => if j = S'.length then (dep S' r).getD (lead0 s) 0 else s.getD (lead0 s) 0 * g j, fun k hk => ?_⟩
      rw [red1_get _ _ (by omega), hg k hk, List.length_append, List.length_singleton, isum]
      have e1 : at' (S' ++ [s]) S'.length k = s.getD k 0 := by unfold at'; rw [at_snoc_eq]
      have e2 : isum (fun j => (if j = S'.length then (dep S' r).getD (lead0 s) 0 else s.getD (lead0 s) 0 * g j) * at' (S' ++ [s]) j k) S'.length = s.getD (lead0 s) 0 * isum (fun j => g j * at' S' j k) S'.length := by
        rw [← isum_mul]
        refine isum_congr fun j hj => ?_
        rw [if_neg (by omega)]
        unfold at'
        rw [at_snoc_lt hj, Int.mul_assoc]
      rw [e2, e1]
      simp only [if_true]
      grind
    · intro j hj
      rw [List.length_append, List.length_singleton] at hj
      by_cases e : j = S'.length
      · rw [e, at_snoc_eq, red1_get s (dep S' r) (k := lead0 s) (by omega)]
        grind
      · have hj' : j < S'.length := by omega
        have hlj : lead0 (S'.getD j []) < C := hS.lead _ (List.mem_append.2 (.inl (getD_mem [] hj')))
        have hst := hS.stair j S'.length hj' (by simp)
        unfold at' at hst
        rw [at_snoc_eq, at_snoc_lt hj'] at hst
        rw [at_snoc_lt hj', red1_get s (dep S' r) (k := lead0 (S'.getD j [])) (by omega), hz j hj', hst]
        simp
structure RInv (C : Nat) (A : Mx) (i : Nat) (S : List (List Int)) : Prop where
  steps : Steps C S
  made : ∃ X : Mx, ∀ j k, j < S.length → k < C → at' S j k = isum (fun t => X j t * A t k) i
  told : ∀ t, t < i → ∃ d : Int, d ≠ 0 ∧ ∃ b : Nat → Int, ∀ k, k < C → d * A t k = isum (fun j => b j * at' S j k) S.length
theorem RInv.next {C : Nat} {A : Mx} {i : Nat} {S : List (List Int)} {r : List Int} (h : RInv C A i S) (hr : r.length = C) (hA : ∀ k, k < C → A i k = r.getD k 0) : RInv C A (i + 1) (rstep S r) := by
  obtain ⟨⟨D, hD, g, hg⟩, hz⟩ := dep_spec r hr S.length S rfl h.steps
  obtain ⟨X, hX⟩ := h.made
  unfold rstep
  split
  · rename_i he
    refine ⟨h.steps, ⟨fun j t => if t = i then 0 else X j t, fun j k hj hk => ?_⟩, fun t ht => ?_⟩
    · rw [hX j k hj hk, isum]
      dsimp only
      rw [if_pos rfl, Int.zero_mul, Int.add_zero]
      exact isum_congr fun t ht => by rw [if_neg (by omega)]
    · by_cases e : t = i
      · subst e
        refine ⟨D, hD, g, fun k hk => ?_⟩
        have := hg k hk
        rw [lead0_all he] at this
        rw [hA k hk]; omega
      · exact h.told t (by omega)
  · rename_i he
    have hlen : (dep S r).length = C := by rw [dep_len, hr]
    have hlead : lead0 (dep S r) < C := by have := lead0_le (dep S r); omega
    refine ⟨⟨fun s hs => ?_, fun s hs => ?_, fun a b hab hb => ?_⟩, ⟨fun j t => if j = S.length then (if t = i then D else - isum (fun l => g l * X l t) S.length) else (if t = i then 0 else X j t), fun j k hj hk => ?_⟩, fun t ht => ?_⟩
    · rcases List.mem_append.1 hs with hs | hs
      · exact h.steps.len s hs
      · rw [List.mem_singleton.1 hs, hlen]
    · rcases List.mem_append.1 hs with hs | hs
      · exact h.steps.lead s hs
      · rw [List.mem_singleton.1 hs]; exact hlead
    · rw [List.length_append, List.length_singleton] at hb
      by_cases e : b = S.length
      · unfold at'
        rw [e, at_snoc_eq, at_snoc_lt (by omega)]
        exact hz a (by omega)
      · have := h.steps.stair a b hab (by omega)
        unfold at' at this ⊢
        rwa [at_snoc_lt (by omega), at_snoc_lt (by omega)]
    · rw [List.length_append, List.length_singleton] at hj
      by_cases e : j = S.length
      · unfold at'
        rw [e, at_snoc_eq, hg k hk, isum]
        dsimp only
        rw [if_pos rfl, if_pos rfl, hA k hk]
        have e2 : isum (fun t => (if S.length = S.length then (if t = i then D else - isum (fun l => g l * X l t) S.length) else (if t = i then 0 else X S.length t)) * A t k) i = - isum (fun l => g l * at' S l k) S.length := by
          rw [← isum_neg]
          rw [isum_congr (g' := fun l => isum (fun t => - (g l * X l t * A t k)) i) (n := S.length) fun l hl => by
            rw [hX l k hl hk, isum_neg, ← isum_mul]
            congr 1
            exact isum_congr fun t _ => by grind]
          rw [isum_swap]
          refine isum_congr fun t ht => ?_
          rw [if_pos rfl, if_neg (by omega), isum_neg]
          rw [Int.neg_mul]
          congr 1
          rw [← isum_mul_right]
        rw [e2]; omega
      · have hj' : j < S.length := by omega
        unfold at'
        rw [at_snoc_lt hj']
        have := hX j k hj' hk
        unfold at' at this
        rw [this, isum]
        dsimp only
        rw [if_neg e, if_pos rfl, Int.zero_mul, Int.add_zero]
        exact isum_congr fun t ht => by rw [if_neg e, if_neg (by omega)]
    · by_cases e : t = i
      · subst e
        refine ⟨D, hD, fun j => if j = S.length then 1 else g j, fun k hk => ?_⟩
        rw [List.length_append, List.length_singleton, isum]
        dsimp only
        rw [if_pos rfl]
        have e1 : at' (S ++ [dep S r]) S.length k = (dep S r).getD k 0 := by unfold at'; rw [at_snoc_eq]
        have e2 : isum (fun j => (if j = S.length then 1 else g j) * at' (S ++ [dep S r]) j k) S.length = isum (fun j => g j * at' S j k) S.length := isum_congr fun j hj => by
          rw [if_neg (by omega)]
          unfold at'
          rw [at_snoc_lt hj]
        rw [e1, e2, hg k hk, hA k hk]; omega
      · obtain ⟨d, hd, b, hb⟩ := h.told t (by omega)
        refine ⟨d, hd, fun j => if j = S.length then 0 else b j, fun k hk => ?_⟩
        rw [hb k hk, List.length_append, List.length_singleton, isum]
        dsimp only
        rw [if_pos rfl, Int.zero_mul, Int.add_zero]
        refine isum_congr fun j hj => ?_
        rw [if_neg (by omega)]
        unfold at'
        rw [at_snoc_lt hj]
open Go.RowKit
instance (x : Int) (e : Nat) : Decidable (sz x e) := inferInstanceAs (Decidable (_ < _))
open Go.RowKit
theorem small.cols {n k c : Nat} {m : List Row} (h : small n k c m) : (m.getD 0 []).length ≤ k := by
  by_cases h0 : 0 < m.length
  · exact (h.2 _ (getD_mem [] h0)).1
  · simp [List.getD_eq_getElem?_getD, show m.length = 0 by omega, List.eq_nil_of_length_eq_zero (show m.length = 0 by omega)]
open Go.RowKit
def limR (r : Row) : Prop := ∀ x, x ∈ r → Lim x.2
def smallR (n c : Nat) (r : Row) : Prop := r.length ≤ n ∧ ∀ x, x ∈ r → x.2.length ≤ c
instance (n c : Nat) (r : Row) : Decidable (smallR n c r) := inferInstanceAs (Decidable (_ ∧ _))
theorem smallR.fit {n c : Nat} {r : Row} (h : smallR n c r) (hl : limR r) : Fit c r := fun x hx => ⟨hl x hx, h.2 x hx⟩
end Go.Proofs.YtgpcepcbdpigfaaGreat
namespace Go.Proofs.YtgpcepcbdpigfaaGreat
open Go.RowKit Go.ChangeShapes Go.WideShapes Go.ChangeAt Go.Deep
section
variable {H : Type} {enc : TypeId × Value → H} {w : World} {base : Nat} {spare : Nat → Bool} {held : Bool}
theorem rd_u64 {fuel : Nat} {cs : List Value} {x : DataW H × List MemPlace} (h : DataW.trod enc Tryz.prog w base spare held fuel 56 cs = some x) : ∃ n : Nat, n < 18446744073709551616 ∧ cs = [.int .u64 (n : Int)] := by
  obtain ⟨n, rfl, _, hw⟩ := DataW.trod_int Tryz.underlying56 h
  have : 0 ≤ n ∧ n < 18446744073709551616 := by
    simp [Lit.wf, IntKind.min, IntKind.max, IntKind.signed, IntKind.bits] at hw
    omega
  exact ⟨n.toNat, by omega, by rw [Int.toNat_of_nonneg this.1]⟩
theorem rd_slice {α : Type} (f : α → Dat) (z : α) (ok : α → Prop) {t e : TypeId} {size : Nat} (ht : Tryz.prog.underlying t = some (.slice e)) (hc : Tryz.prog.cellsOf e = size) (hs : 0 < size)
    (el : ∀ n cs x, cs.length = size → DataW.trod enc Tryz.prog w base spare held n e cs = some x → ∃ a, ok a ∧ RdC (fun b => b < w.heap.size) w (f a) cs)
    {fuel : Nat} {cs : List Value} {x : DataW H × List MemPlace} (h : DataW.trod enc Tryz.prog w base spare held fuel t cs = some x) :
    ∃ l : List α, (∀ a, a ∈ l → ok a) ∧ RdC (fun b => b < w.heap.size) w (LD size f z l) cs := by
  rcases open_slice ht h with ⟨rfl, _⟩ | ⟨a, len, cap, m, n, D, Pl, rfl, hb, hl, hm, hmm, _, hx⟩
  · exact ⟨[], (fun _ h => by simp at h), rd_nil _ _ _ _⟩
  · have hle : len ≤ m := by rw [hmm]; split <;> omega
    rw [hc] at hx
    have hspot : 0 < len → a.spot = none := fun h0 => by
      obtain ⟨cs', h1, h2⟩ := hx 0 (by omega)
      obtain ⟨_, hlen, hcell⟩ := World.cells?_some h1
      have h0 := hcell 0 hs
      rw [List.getElem?_eq_getElem (by omega)] at h0
      have := World.cell?_spot h0
      simpa [Addr.add] using this
    have hel : ∀ i, ∃ y : α, i < len → ok y ∧ ∃ cs', RdC (fun b => b < w.heap.size) w (f y) cs' ∧ cs'.length = size ∧ a.spot = none ∧ CellsAt (fun b => b < w.heap.size) w a.block (a.off + i * size) cs' := by
      intro i
      by_cases hi : i < len
      · obtain ⟨cs', h1, h2⟩ := hx i (by omega)
        obtain ⟨_, hlen, hcell⟩ := World.cells?_some h1
        obtain ⟨y, hy1, hy2⟩ := el n cs' _ hlen h2
        have hsp := hspot (by omega)
        refine ⟨y, fun _ => ⟨hy1, cs', hy2, hlen, hsp, fun j hj => ?_⟩⟩
        have h0 := hcell j (by omega)
        have ha : (a.add (i * size)).add j = ⟨a.block, a.off + i * size + j, none⟩ := by
          obtain ⟨b, o, s⟩ := a
          simp only at hsp
          subst hsp
          rw [add_none, add_none]
        rw [ha] at h0
        refine ⟨?_, h0⟩
        rw [List.getElem?_eq_getElem hj] at h0
        unfold World.cell? at h0
        simp only at h0
        split at h0
        · rename_i heq
          exact (Array.getElem?_eq_some_iff.1 heq).1
        · simp at h0
      · exact ⟨z, fun h => absurd h hi⟩
    have hch := fun i => Classical.choose_spec (hel i)
    let g : Nat → α := fun i => Classical.choose (hel i)
    have hg : ∀ i, i < len → ((List.range len).map g).getD i z = g i := fun i hi => by simp [List.getD_eq_getElem?_getD, hi]
    refine ⟨(List.range len).map g, fun y hy => ?_, ?_⟩
    · obtain ⟨i, hi, rfl⟩ := List.mem_map.1 hy
      exact (hch i (List.mem_range.1 hi)).1
    · unfold LD
      rw [List.length_map, List.length_range]
      refine ⟨some a, cap, rfl, hl, hm, fun h => by simp at h, fun b hb' hpos => ?_, fun i hi => ?_⟩
      · simp only [Option.some.injEq] at hb'
        subst hb'
        obtain ⟨_, _, _, _, hsp, _⟩ := hch 0 hpos
        exact hsp
      · obtain ⟨_, cs', q1, q2, _, q3⟩ := hch i hi
        refine ⟨a, cs', rfl, ?_, q2, q3⟩
        show RdC _ _ (f (((List.range len).map g).getD i z)) cs'
        rw [hg i hi]; exact q1
theorem rd_limbs {fuel : Nat} {cs : List Value} {x : DataW H × List MemPlace} (h : DataW.trod enc Tryz.prog w base spare held fuel 24 cs = some x) : ∃ l : List Nat, Lim l ∧ RdC (fun b => b < w.heap.size) w (U l) cs := by
  obtain ⟨l, h1, h2⟩ := rd_slice (size := 1) (fun n : Nat => .one (.int .u64 (n : Int))) 0 (fun n => n < 18446744073709551616) Tryz.underlying24 (by kernel_rfl) (by decide) (fun n cs x _ h => by
    obtain ⟨n, hn, rfl⟩ := rd_u64 h
    exact ⟨n, hn, rfl, rfl⟩) h
  exact ⟨l, h1, h2⟩
theorem rd_int2 {P : Program} {t tb tl : TypeId} {f0 f1 : Field} (ht : P.underlying t = some (.struct #[f0, f1])) (h0t : f0.type = tb) (h0o : f0.offset = 0) (h1t : f1.type = tl) (h1o : f1.offset = 1)
    (cb : P.cellsOf tb = 1) (cl : P.cellsOf tl = 1) (hb : P.underlying tb = some .bool) (el : ∀ (n : Nat) (cs : List Value) (x : DataW H × List MemPlace), DataW.trod enc P w base spare held n tl cs = some x → ∃ l : List Nat, Lim l ∧ RdC (fun b => b < w.heap.size) w (U l) cs)
    {fuel : Nat} {cs : List Value} {x : DataW H × List MemPlace} (hl : cs.length = 2) (h : DataW.trod enc P w base spare held fuel t cs = some x) : ∃ y : Bool × List Nat, Lim y.2 ∧ RdC (fun b => b < w.heap.size) w (J y) cs := by
  obtain ⟨y0, y1, n, _, hlen, h0, h1⟩ := trod_struct2 ht h
  rw [h0t, h0o, cb] at h0
  rw [h1t, h1o, cl] at h1
  match cs, hl with
  | [c0, c1], _ =>
    obtain ⟨s, hs, _⟩ := DataW.trod_bool hb h0
    obtain ⟨l, hl1, hl2⟩ := el _ _ _ h1
    have hc0 : c0 = .bool s := by simpa using hs
    subst hc0
    exact ⟨(s, l), hl1, [.bool s], [c1], rfl, ⟨rfl, rfl⟩, hl2⟩
theorem rd_int {fuel : Nat} {cs : List Value} {x : DataW H × List MemPlace} (hl : cs.length = 2) (h : DataW.trod enc Tryz.prog w base spare held fuel 26 cs = some x) : ∃ y : Bool × List Nat, Lim y.2 ∧ RdC (fun b => b < w.heap.size) w (J y) cs :=
  rd_int2 Tryz.underlying26 rfl rfl rfl rfl (tb := 4) (tl := 24) (by kernel_rfl) (by kernel_rfl) Tryz.underlying4 (fun _ _ _ h => rd_limbs h) hl h
theorem rd_poly {fuel : Nat} {cs : List Value} {x : DataW H × List MemPlace} (h : DataW.trod enc Tryz.prog w base spare held fuel 23 cs = some x) : ∃ r : Row, (∀ y, y ∈ r → Lim y.2) ∧ RdC (fun b => b < w.heap.size) w (V r) cs := by
  obtain ⟨l, h1, h2⟩ := rd_slice (size := 2) J z0 (fun y => Lim y.2) Tryz.underlying23 (by kernel_rfl) (by decide) (fun n cs x hl h => rd_int hl h) h
  exact ⟨l, h1, h2⟩
end
theorem rd_val {S : Nat → Prop} {w : World} {a : Option Addr} {n c : Nat} {d : Dat} (hd : d.flat = true) (h : RdC S w d (Value.slice a n c).cells.toList) : Rd S w (.slice a n c) d := by
  refine ⟨_, h, ?_⟩
  obtain ⟨v, h1, _, h3⟩ := RdC.single hd h
  rw [h3]
  simpa [Value.cells] using h1
theorem rd_arg2 {P : Program} {t : TypeId} {fs : Array Field} {H : Type} {enc : TypeId × Value → H} {w : World} {r : Reach} {base base' : Nat} {spare : Nat → Bool} {held : Bool} {v : Value} {d : DataW H} {p : List MemPlace} (ht : P.underlying t = some (.struct fs)) (hc : P.cellsOf t = 2)
    (el : ∀ (n : Nat) (cs : List Value) (x : DataW H × List MemPlace), cs.length = 2 → DataW.trod enc P w base spare held n t cs = some x → ∃ y : Bool × List Nat, Lim y.2 ∧ RdC (fun b => b < w.heap.size) w (J y) cs)
    (hv : Value.okWide P w r base' t v) (h : DataW.Trod enc P w base spare held t v d p) : ∃ m : Bool × List Nat, Lim m.2 ∧ Rd (fun b => b < w.heap.size) w v (J m) := by
  obtain ⟨cs, rfl, hsz⟩ := okWide_struct ht hv
  obtain ⟨fuel, hf⟩ := h
  have hcs : (Value.agg cs).cells.toList = cs.toList := by simp [Value.cells]
  rw [hcs] at hf
  obtain ⟨y, h1, h2⟩ := el _ _ _ (by simpa using hsz.trans hc) hf
  exact ⟨y, h1, cs.toList, h2, by unfold J I pack; simp⟩
set_option maxRecDepth 100000 in
theorem rd_arg {H : Type} {enc : TypeId × Value → H} {w : World} {r : Reach} {base base' : Nat} {spare : Nat → Bool} {held : Bool} {v : Value} {d : DataW H} {p : List MemPlace} (hv : Value.okWide Tryz.prog w r base' 26 v)
    (h : DataW.Trod enc Tryz.prog w base spare held 26 v d p) : ∃ m : Bool × List Nat, Lim m.2 ∧ Rd (fun b => b < w.heap.size) w v (J m) :=
  have hc : Tryz.prog.cellsOf 26 = 2 := by kernel_rfl
  have el : ∀ (n : Nat) (cs : List Value) (x : DataW H × List MemPlace), cs.length = 2 → DataW.trod enc Tryz.prog w base spare held n 26 cs = some x → ∃ y : Bool × List Nat, Lim y.2 ∧ RdC (fun b => b < w.heap.size) w (J y) cs := fun _ _ _ hl h => rd_int hl h
  rd_arg2 (P := Tryz.prog) (t := 26) (v := v) (r := r) (base := base) (base' := base') Tryz.underlying26 hc el hv h
theorem calls_of_meets {g : FuncId} {args : List Value} {fs : List Fact} {w : World} (h : Meets Tryz.prog g args fs (fun r os fs' => os = [] ∧ fs' = [] ∧ r = .bool true)) (hf : HF (fun b => b < w.heap.size) w fs) :
    Calls Tryz.prog g args.toArray w fun e w' => e = .returned (.bool true) ∧ Below w.heap.size w w' := by
  refine (h.calls (fun _ => False) w (fun _ h => h.elim) (hf.mono (fun _ _ => rfl) fun b hb => ⟨hb, id⟩)).mono ?_
  rintro e w' ⟨v, os', fs', rfl, ⟨rfl, rfl, rfl⟩, hh⟩
  exact ⟨rfl, hh.below⟩
theorem own0 : ownKnob Tryz.prog.godebug = none := by kernel_rfl
theorem laid0 : laidOutB Tryz.prog = true := by kernel_rfl
open Go.RowKit
theorem rtimes_eq {Sl P s c Sa y a : Nat} (h : Sl + P * c = Sa * y) (hs : s = c + a * y) : Sl + P * (s % 4294967296) + P * 4294967296 * (s / 4294967296) = (Sa + P * a) * y := by
  have h1 : P * (s % 4294967296) + P * 4294967296 * (s / 4294967296) = P * c + P * (a * y) := by
    rw [Nat.mul_assoc, ← Nat.mul_add, Nat.mod_add_div, hs, Nat.mul_add]
  rw [Nat.add_mul, Nat.mul_assoc P a y]
  omega
theorem rtimes_meets (va : Value) (a : List Nat) (y : Nat) (ha : Dig a) (hy : y < 4294967296) (la : a.length ≤ 2199023255552) :
    Meets Tryz.prog 98 [va, .int .u64 (y : Nat)] [(va, U a)] (fun r os fs => os = [] ∧ fs = [(r, U (digs (dv a * y)))]) := by
  refine meets_of_vc Tryz.func98 (by kernel_rfl) rfl (by kernel_rfl) (Nat.le_of_ble_eq_true rfl) ?_
  refine loop_rule (X := Nat × List Nat × Nat × Value) (fun x => ([(0, va), (1, .int .u64 (y : Nat)), (5, x.2.2.2), (6, .int .u64 (x.2.2.1 : Nat)), (7, .int .i64 (x.1 : Nat))], [ownU x.2.2.2 x.2.1], [(va, U a)]))
    (fun x => x.1 ≤ a.length + 1 ∧ (a.length < x.1 → x.2.2.1 = 0) ∧ x.2.1.length = x.1 ∧ Dig x.2.1 ∧ x.2.2.1 < 4294967296 ∧ isSl x.2.2.2 ∧
      dv x.2.1 + 4294967296 ^ x.1 * x.2.2.1 = dv (a.take x.1) * y) (fun x => (a.length - x.1) * 4294967296 + x.2.2.1) rfl ?_ ?_
  · exact again (0, [], 0, .slice none 0 0) ⟨by simp, fun _ => rfl, rfl, Dig.nil, by simp, isSl_nil, by simp [dv]⟩ trivial qF ((Seals.nil_U _ _).trans (Seals.sub qS))
  · rintro ⟨i, l, c, vo⟩ ⟨h1, hz, h2, h3, h4, h0, h5⟩
    simp only at h0 h1 hz h2 h3 h4 h5 ⊢
    have hx := ha.get i
    by_cases hia : i < a.length
    · have hp : a.getD i 0 * y ≤ 4294967295 * 4294967295 := Nat.mul_le_mul (by omega) (by omega)
      have hm : (a.length - i) * 4294967296 = (a.length - (i + 1)) * 4294967296 + 4294967296 := by omega
      refine len_fact qM fun _ => ?_
      refine cmp_true rfl (by omega) ?_
      refine len_fact qM fun _ => ?_
      refine cmp_true rfl (by omega) ?_
      refine index_fact qM i rfl hia fun p => ?_
      refine load_one qM ?_
      refine ar_wrap rfl ((a.getD i 0 * y : Nat) : Int) (by rw [← Int.natCast_mul]; exact wrap_in ⟨Int.natCast_nonneg _, by omega⟩) ?_
      have hs : c + a.getD i 0 * y = c + a.getD i 0 * y := rfl
      generalize hq : a.getD i 0 * y = q at *
      refine ar_wrap rfl ((c + q : Nat) : Int) (by rw [← Int.natCast_add]; exact wrap_in ⟨Int.natCast_nonneg _, by omega⟩) ?_
      generalize hse : c + q = s at *
      refine rem_rule (by omega) (by omega) ?_
      refine lit_U ((s) % 4294967296) (by omega) fun w => ?_
      refine append_U 0 rfl h0 (Knw.fact qM) (by simp; omega) (by simp; omega) fun v2 hv2 => ?_
      refine quo_rule (by omega) (by omega) qI ?_
      refine ar rfl qI ?_
      refine again (i + 1, l ++ [(s) % 4294967296], (s) / 4294967296, v2) ⟨by simp only; omega, fun h => by simp only at h ⊢; omega, by simp [h2], h3.append (Dig.cons (by omega) Dig.nil), by simp only; omega, hv2, ?_⟩ (by simp only; omega) qF (Seals.sub qS)
      simp only
      rw [dv_append, h2, dv_take_succ, Nat.pow_succ]
      simp only [dv, Nat.mul_zero, Nat.add_zero]
      exact rtimes_eq h5 (by rw [hq, hse])
    · have ha0 := getD_of_le (l := a) (i := i) (by omega)
      by_cases hc : 0 < c
      · (repeat (first | (refine len_fact qM fun _ => ?_) | (refine cmp_true rfl (by omega) ?_) | (refine cmp_false rfl (by omega) ?_) | (refine index_fact qM _ rfl (by omega) fun _ => ?_) | (refine load_one qM ?_) | (refine ar rfl qI ?_)))
        refine rem_rule (by omega) (by omega) ?_
        refine lit_U ((c) % 4294967296) (by omega) fun w => ?_
        refine append_U 0 rfl h0 (Knw.fact qM) (by simp; omega) (by simp; omega) fun v2 hv2 => ?_
        refine quo_rule (by omega) (by omega) qI ?_
        refine ar rfl qI ?_
        refine again (i + 1, l ++ [(c) % 4294967296], (c) / 4294967296, v2) ⟨by simp only; omega, fun h => by simp only at h ⊢; omega, by simp [h2], h3.append (Dig.cons (by omega) Dig.nil), by simp only; omega, hv2, ?_⟩ (by simp only; omega) qF (Seals.sub qS)
        simp only
        rw [dv_append, h2, dv_take_succ, Nat.pow_succ]
        simp only [dv, Nat.mul_zero, Nat.add_zero]
        exact rtimes_eq h5 (by rw [ha0, Nat.zero_mul, Nat.add_zero])
      · (repeat (first | (refine len_fact qM fun _ => ?_) | (refine cmp_true rfl (by omega) ?_) | (refine cmp_false rfl (by omega) ?_) | (refine index_fact qM _ rfl (by omega) fun _ => ?_) | (refine load_one qM ?_) | (refine ar rfl qI ?_)))
        refine call_fn (rTrim_meets vo l) (Seals.U 0 rfl h0) qS ?_
        rintro r _ _ ⟨rfl, rfl⟩
        refine fin ⟨rfl, rfl⟩ (Seals.cons ((Knw.fact qM).cast ?_) (Seals.nil _ _))
        rw [List.take_of_length_le (by omega), show c = 0 by omega] at h5
        rw [trimD_eq h3]
        congr 2
theorem lit_Uo {P : Program} {t e : TypeId} {bytes : Nat} {y : Int} {os : List Own} {fs : List Fact} {K : Cont} [ht : TSl P t e 1] [he : TEl P e 1 bytes] (x : Nat) (hx : y = (x : Int)) (k : ∀ v, isSl v → K v (ownU v [x] :: os) fs) :
    BuildSliceK P t 1 [(0, .int .u64 y)] os fs K := by
  subst hx
  have h1 := buildSlice_own (P := P) (t := t) (os := os) (fs := fs) (K := fun u os' fs' => ∃ os'' fs'', Seals os' fs' os'' fs'' ∧ K u os'' fs'') (n := 1) [.int .u64 (x : Int)] [.one (.int .u64 (x : Int))] rfl rfl (by decide) (by decide)
    ⟨Reads.one rfl, rfl, trivial⟩
  refine ⟨Grw.sealed (h1 fun v hv => ⟨_, _, ?_, k v hv⟩).out⟩
  exact Seals.own_cong (os := own1 v 1 1 (fun i => [Dat.one (.int .u64 (x : Int))].getD i (.one undef)) :: os) (fs := fs) 0 (n' := [x].length) (UE [x]) rfl rfl fun i hi => by
    have : i = 0 := by omega
    subst this; rfl
theorem digit_of {R Y lo : Nat} (h1 : lo * Y ≤ R) (h2 : R < (lo + 1) * Y) : R / Y = lo ∧ R - Y * lo = R % Y := by
  have hy : 0 < Y := Nat.pos_of_ne_zero fun e => by subst e; simp at h2
  have e : R / Y = lo := by
    have a1 := (Nat.le_div_iff_mul_le hy).2 h1
    have a2 := (Nat.div_lt_iff_lt_mul hy).2 h2
    omega
  exact ⟨e, by rw [← e, Nat.mod_eq_sub]⟩
theorem dv_drop {l : List Nat} {i : Nat} (h : i < l.length) : dv (l.drop i) = l.getD i 0 + 4294967296 * dv (l.drop (i + 1)) := by
  rw [List.drop_eq_getElem_cons h]
  simp only [dv]
  rw [List.getD_eq_getElem?_getD, List.getElem?_eq_getElem h]; rfl
theorem dv_drop_set {l : List Nat} {i x : Nat} (h : i < l.length) : dv ((l.set i x).drop i) = x + 4294967296 * dv (l.drop (i + 1)) := by
  rw [dv_drop (by simpa using h), getD_set h, if_pos rfl, List.drop_set_of_lt (by omega)]
theorem div_step1 {X x Q R Y q r : Nat} (h : X = Q * Y + R) (hq : R * 4294967296 + x = q * Y + r) : x + 4294967296 * X = (q + 4294967296 * Q) * Y + r := by
  rw [h, Nat.add_mul, Nat.mul_add, ← Nat.mul_assoc]
  omega
theorem lims_len_le {m n : Nat} (h : m ≤ n) : (lims m).length ≤ (lims n).length := lims_length_le (by
  have := nv_lt (Lim_lims n)
  rw [nv_lims] at this
  omega)
theorem rDivMod_meets (va vb : Value) (a b : List Nat) (ha : Lim a) (hb : Lim b) (la : a.length ≤ 274877906944) (lb : b.length ≤ 274877906944) (h0 : nv b ≠ 0) :
    Meets Tryz.prog 63 [va, vb] [(va, U a), (vb, U b)] (fun r os fs => os = [] ∧ ∃ q m, r = .tuple #[q, m, .bool true] ∧ fs = [(q, U (lims (nv a / nv b))), (m, U (lims (nv a % nv b)))]) := by
  have h1 := digs_len ha
  have h2 := digs_len hb
  have dA := Dig_digs (nv a)
  have dB := Dig_digs (nv b)
  have eA := dv_digs (nv a)
  have eB := dv_digs (nv b)
  have hB0 : (digs (nv b)).length ≠ 0 := fun h => h0 (digs_eq_nil.1 (List.eq_nil_of_length_eq_zero h))
  have hdm := digits_meets va a ha (by omega)
  have hdm2 := digits_meets vb b hb (by omega)
  generalize hX : digs (nv a) = x at *
  generalize hY : digs (nv b) = y at *
  have hyb : ∀ n, digs (dv y * n) = digs (nv b * n) := fun n => by rw [eB]
  generalize hM : nv a = M at *
  generalize hN : nv b = N at *
  refine meets_of_vc Tryz.func63 (by kernel_rfl) rfl (by kernel_rfl) (Nat.le_of_ble_eq_true rfl) ?_
  refine call_fn hdm (Seals.refl _ _) qS ?_
  rintro vx _ _ ⟨rfl, rfl⟩
  refine call_fn hdm2 (Seals.refl _ _) qS ?_
  rintro vy _ _ ⟨rfl, rfl⟩
  refine len_fact qM fun _ => ?_
  refine cmp_false rfl (by omega) ?_
  refine len_fact qM fun _ => ?_
  refine make_U x.length (by omega) (by omega) (by omega) (by omega) fun vq hq => ?_
  refine len_fact qM fun _ => ?_
  refine cmp_split _ rfl (fun hone => ?_) (fun hone => ?_)
  · have hy1 : y.length = 1 := by omega
    have hyN : y.getD 0 0 = N := by
      obtain ⟨t, ht⟩ := List.length_eq_one_iff.1 hy1
      rw [ht] at eB ⊢
      simpa [dv] using eB
    have hNlt : N < 4294967296 := by rw [← hyN]; exact dB.get 0
    refine len_fact qM fun _ => ?_
    refine ar rfl qI ?_
    refine loop_rule (X := Nat × List Nat × Nat) (fun z => ([(7, vx), (8, vy), (9, vq), (10, .int .u64 (z.2.2 : Nat)), (11, .int .i64 ((z.1 : Int) - 1))], [ownU vq z.2.1], [(vx, U x), (vy, U y)]))
      (fun z => z.1 ≤ x.length ∧ z.2.1.length = x.length ∧ Dig z.2.1 ∧ z.2.2 < N ∧ dv (x.drop z.1) = dv (z.2.1.drop z.1) * N + z.2.2) (fun z => z.1) rfl ?_ ?_
    · exact again (x.length, List.replicate x.length 0, 0) ⟨Nat.le_refl _, by simp, Dig.replicate _, by simp only; omega, by simp [dv]⟩ trivial qF (Seals.sub qS)
    · rintro ⟨k, l, left⟩ ⟨g1, g2, g3, g4, g5⟩
      simp only at g1 g2 g3 g4 g5 ⊢
      refine cmp_split _ rfl (fun hk => ?_) (fun hk => ?_)
      · obtain ⟨i, rfl⟩ : ∃ i, k = i + 1 := ⟨k - 1, by omega⟩
        have hi : i < x.length := by omega
        have hxi := dA.get i
        have hl4 : left * 4294967296 ≤ 4294967294 * 4294967296 := Nat.mul_le_mul_right _ (by omega)
        have hs1 := Nat.mod_lt (left * 4294967296 + x.getD i 0) (show 0 < N by omega)
        have hs2 := Nat.div_add_mod (left * 4294967296 + x.getD i 0) N
        have hdl : (left * 4294967296 + x.getD i 0) / N < 4294967296 := by
          refine (Nat.div_lt_iff_lt_mul (by omega)).2 ?_
          have : (left + 1) * 4294967296 ≤ N * 4294967296 := Nat.mul_le_mul_right _ (by omega)
          rw [Nat.mul_comm 4294967296 N]; omega
        have hdr := dv_drop hi
        have hds := dv_drop_set (l := l) (i := i) (x := (left * 4294967296 + x.getD i 0) / N) (by omega)
        refine ar_wrap rfl ((left * 4294967296 : Nat) : Int) (by rw [show ((left : Int) * 4294967296) = ((left * 4294967296 : Nat) : Int) by omega]; exact wrap_in ⟨Int.natCast_nonneg _, by omega⟩) ?_
        refine index_fact qM i (by omega) hi fun p => ?_
        refine load_one qM ?_
        refine ar_wrap rfl ((left * 4294967296 + x.getD i 0 : Nat) : Int) (by rw [← Int.natCast_add]; exact wrap_in ⟨Int.natCast_nonneg _, by omega⟩) ?_
        have hst := div_step1 (x := x.getD i 0) (q := (left * 4294967296 + x.getD i 0) / N) (r := (left * 4294967296 + x.getD i 0) % N) g5 (by rw [Nat.mul_comm _ N]; omega)
        generalize left * 4294967296 + x.getD i 0 = s at *
        refine index_fact qM 0 rfl (by omega) fun p2 => ?_
        refine load_one qM ?_
        rw [hyN]
        refine quo_rule (by omega) (by omega) (by rw [← Int.natCast_ediv]; exact ⟨Int.natCast_nonneg _, by omega⟩) ?_
        refine index_U 0 rfl hq i (by omega) (by omega) ?_
        refine store_U 0 rfl (s / N) (by rw [Int.natCast_ediv]) (by omega) ?_
        refine index_fact qM 0 rfl (by omega) fun p3 => ?_
        refine load_one qM ?_
        rw [hyN]
        refine rem_rule (by omega) (by omega) ?_
        refine ar rfl qI ?_
        refine again (i, l.set i (s / N), s % N) ⟨by simp only; omega, by simp [g2], g3.set _ hdl, hs1, ?_⟩ (by simp only; omega) ⟨rfl, rfl, rfl, u64_eq (by simp only; rw [Int.natCast_emod]), i64_eq (by simp only; omega), trivial⟩ (Seals.sub qS)
        simp only
        rw [hdr, hds, hst]
      · have hk0 : k = 0 := by omega
        subst hk0
        rw [List.drop_zero, List.drop_zero, eA] at g5
        have hlen := dv_lt g3
        obtain ⟨e1, e2⟩ := digit_of (R := M) (Y := N) (lo := dv l) (by omega) (by rw [Nat.succ_mul]; omega)
        have e3 : M % N = left := by rw [← e2, Nat.mul_comm N]; omega
        refine call_fn (limbs_meets vq l g3 (by omega)) (Seals.U 0 rfl hq) qS ?_
        rintro r1 _ _ ⟨rfl, rfl⟩
        refine lit_U left rfl fun w => ?_
        refine call_fn (limbs_meets w [left] (Dig.cons (by omega) Dig.nil) (by simp)) (Seals.refl _ _) qS ?_
        rintro r2 _ _ ⟨rfl, rfl⟩
        refine fin ⟨rfl, r1, r2, rfl, rfl⟩ (Seals.cons ((Knw.fact qM).cast (by rw [e1])) (Seals.cons ((Knw.fact qM).cast (by rw [e3]; simp [dv])) (Seals.nil _ _)))
  · have hN0 : 0 < N := by omega
    refine len_fact qM fun _ => ?_
    refine ar rfl qI ?_
    refine loop_rule (X := Nat × List Nat × Nat × Value) (fun z => ([(7, vx), (8, vy), (9, vq), (12, z.2.2.2), (13, .int .i64 ((z.1 : Int) - 1))], [ownU vq z.2.1], [(vx, U x), (vy, U y), (z.2.2.2, U (digs z.2.2.1))]))
      (fun z => z.1 ≤ x.length ∧ z.2.1.length = x.length ∧ Dig z.2.1 ∧ z.2.2.1 < N ∧ dv (x.drop z.1) = dv (z.2.1.drop z.1) * N + z.2.2.1) (fun z => z.1) rfl ?_ ?_
    · refine again (x.length, List.replicate x.length 0, 0, .slice none 0 0) ⟨Nat.le_refl _, by simp, Dig.replicate _, by simp only; omega, by simp [dv]⟩ trivial qF (Seals.trans (Seals.sub (fs' := [(vx, U x), (vy, U y)]) qS) (Seals.trans (Seals.cons (d := U (digs 0)) (by rw [digs_zero]; exact Knw.nil 1 _) (Seals.sub (fs' := [(vx, U x), (vy, U y)]) qS)) (Seals.sub qS)))
    · rintro ⟨k, l, R, vr⟩ ⟨g1, g2, g3, g4, g5⟩
      simp only at g1 g2 g3 g4 g5 ⊢
      refine cmp_split _ rfl (fun hk => ?_) (fun hk => ?_)
      · obtain ⟨i, rfl⟩ : ∃ i, k = i + 1 := ⟨k - 1, by omega⟩
        have hi : i < x.length := by omega
        have hxi := dA.get i
        have hRl : (digs R).length ≤ 549755813888 := Nat.le_trans (digs_len_mono (show R ≤ N by omega)) (by rw [hY]; omega)
        have hcons : trimL ([x.getD i 0] ++ digs R) = digs (R * 4294967296 + x.getD i 0) := by
          rw [trimD_eq (Dig.append (Dig.cons hxi Dig.nil) (Dig_digs R)), dv_append, dv_digs]
          congr 1
          simp [dv]; omega
        have hlt : R * 4294967296 + x.getD i 0 < 4294967296 * N := by
          have : (R + 1) * 4294967296 ≤ N * 4294967296 := Nat.mul_le_mul_right _ (by omega)
          rw [Nat.mul_comm 4294967296 N]; omega
        have hdr := dv_drop hi
        have hst : ∀ lo, lo * N ≤ R * 4294967296 + x.getD i 0 → R * 4294967296 + x.getD i 0 < (lo + 1) * N → dv (x.drop i) = dv ((l.set i lo).drop i) * N + (R * 4294967296 + x.getD i 0 - N * lo) := fun lo q1 q2 => by
          rw [hdr, dv_drop_set (by omega)]
          exact div_step1 g5 (by rw [Nat.mul_comm N lo]; omega)
        refine index_fact qM i (by omega) hi fun p => ?_
        refine load_one qM ?_
        refine lit_Uo (x.getD i 0) rfl fun w hw => ?_
        refine append_U 0 rfl hw (Knw.fact qM) (by simp; omega) (by simp; omega) fun v2 hv2 => ?_
        refine call_fn (rTrim_meets v2 ([x.getD i 0] ++ digs R)) (Seals.U 0 rfl hv2) qS ?_
        rintro r1 _ _ ⟨rfl, rfl⟩
        rw [hcons]
        generalize R * 4294967296 + x.getD i 0 = S at *
        refine loop_rule (X := Nat × Nat) (fun z => ([(7, vx), (8, vy), (9, vq), (12, r1), (13, .int .i64 (i : Nat)), (14, .int .u64 (z.1 : Nat)), (15, .int .u64 (z.2 : Nat))], [ownU vq l], [(vx, U x), (vy, U y), (r1, U (digs S))]))
          (fun z => z.1 ≤ z.2 ∧ z.2 < 4294967296 ∧ z.1 * N ≤ S ∧ S < (z.2 + 1) * N) (fun z => z.2 - z.1) rfl ?_ ?_
        · exact again (0, 4294967295) ⟨by simp, by simp, by simp, hlt⟩ trivial qF (Seals.sub qS)
        · rintro ⟨lo, hi'⟩ ⟨f1, f2, f3, f4⟩
          simp only at f1 f2 f3 f4 ⊢
          refine cmp_split _ rfl (fun hlo => ?_) (fun hlo => ?_)
          · refine ar rfl qI ?_
            refine ar rfl qI ?_
            refine quo_rule (by omega) (by omega) qI ?_
            have hmid : ((lo : Int) + hi' + 1) / 2 = (((lo + hi' + 1) / 2 : Nat) : Int) := by omega
            rw [hmid]
            have hm1 : lo < (lo + hi' + 1) / 2 := by omega
            have hm2 : (lo + hi' + 1) / 2 ≤ hi' := by omega
            generalize (lo + hi' + 1) / 2 = mid at *
            have htm := rtimes_meets vy y mid dB (by omega) (by omega)
            rw [eB] at htm
            refine call_fn htm (Seals.refl _ _) qS ?_
            rintro w2 _ _ ⟨rfl, rfl⟩
            refine call_fn (cmpDigits_meets w2 r1 (N * mid) S) (Seals.refl _ _) qS ?_
            rintro _ _ _ ⟨rfl, rfl, rfl⟩
            refine cmp_split _ rfl (fun hc => ?_) (fun hc => ?_)
            · have hle : N * mid ≤ S := by
                refine Nat.not_lt.1 fun h => ?_
                have : cmpN (N * mid) S = 1 := by unfold cmpN; rw [if_neg (by omega), if_pos h]
                omega
              exact again (mid, hi') ⟨hm2, f2, by simp only; rw [Nat.mul_comm]; exact hle, f4⟩ (by simp only; omega) qF (Seals.sub qS)
            · have hgt : S < N * mid := by
                refine Nat.not_le.1 fun h => ?_
                have : cmpN (N * mid) S ≤ 0 := by
                  unfold cmpN
                  split
                  · decide
                  · split
                    · omega
                    · decide
                omega
              refine ar rfl qI ?_
              refine again (lo, mid - 1) ⟨by simp only; omega, by simp only; omega, f3, ?_⟩ (by simp only; omega) qF (Seals.sub qS)
              simp only
              rw [show mid - 1 + 1 = mid by omega, Nat.mul_comm]; exact hgt
          · have hll : hi' = lo := by omega
            subst hll
            have hS := hst hi' f3 f4
            obtain ⟨e1, e2⟩ := digit_of f3 f4
            have hlen : (digs (N * hi')).length ≤ (digs S).length := digs_len_mono (by rw [Nat.mul_comm]; exact f3)
            have hmod := Nat.mod_lt S hN0
            refine index_U 0 rfl hq i rfl (by omega) ?_
            refine store_U 0 rfl hi' rfl (by omega) ?_
            have htm := rtimes_meets vy y hi' dB (by omega) (by omega)
            rw [eB] at htm
            refine call_fn htm (Seals.refl _ _) qS ?_
            rintro w2 _ _ ⟨rfl, rfl⟩
            have hSl : (digs S).length ≤ 2199023255552 := by
              refine Nat.le_trans (digs_len_mono (a := S) (show S ≤ N * 4294967296 by rw [Nat.mul_comm]; omega)) ?_
              refine Nat.le_trans (digs_length_le (k := y.length + 1) ?_) (by omega)
              have := dv_lt dB
              rw [eB] at this
              rw [Nat.pow_succ]
              exact Nat.mul_lt_mul_of_pos_right this (by decide)
            have hsb := rsub_meets r1 w2 (digs S) (digs (N * hi')) (Dig_digs _) (Dig_digs _) hSl hlen (by rw [dv_digs, dv_digs, Nat.mul_comm]; exact f3)
            rw [dv_digs, dv_digs] at hsb
            refine call_fn hsb (Seals.refl _ _) qS ?_
            rintro w3 _ _ ⟨rfl, rfl⟩
            refine ar rfl qI ?_
            exact again (i, l.set i hi', S - N * hi', w3) ⟨by simp only; omega, by simp [g2], g3.set _ f2, by simp only; omega, hS⟩ (by simp only; omega) qF (Seals.sub qS)
      · have hk0 : k = 0 := by omega
        subst hk0
        rw [List.drop_zero, List.drop_zero, eA] at g5
        obtain ⟨e1, e2⟩ := digit_of (R := M) (Y := N) (lo := dv l) (by omega) (by rw [Nat.succ_mul]; omega)
        have e3 : M % N = R := by rw [← e2, Nat.mul_comm N]; omega
        have hRl : (digs R).length ≤ 549755813888 := Nat.le_trans (digs_len_mono (show R ≤ N by omega)) (by rw [hY]; omega)
        refine call_fn (limbs_meets vq l g3 (by omega)) (Seals.U 0 rfl hq) qS ?_
        rintro r1 _ _ ⟨rfl, rfl⟩
        refine call_fn (limbs_meets vr (digs R) (Dig_digs _) (by omega)) (Seals.refl _ _) qS ?_
        rintro r2 _ _ ⟨rfl, rfl⟩
        refine fin ⟨rfl, r1, r2, rfl, rfl⟩ (Seals.cons ((Knw.fact qM).cast (by rw [e1])) (Seals.cons ((Knw.fact qM).cast (by rw [e3, dv_digs])) (Seals.nil _ _)))
open Go.RowKit
theorem one_sz {e : Nat} (h : 1 ≤ e) : sz 1 e := Nat.lt_of_lt_of_le (show (1 : Int).natAbs < 18446744073709551616 ^ 1 by decide) (Nat.pow_le_pow_right (by decide) h)
theorem div_uniq {x y q r : Int} (h0 : y ≠ 0) (e : x = y * q + r) (h1 : 0 ≤ r) (h2 : r < y.natAbs) : x / y = q ∧ x % y = r := by
  have e1 : x % y = r := by
    rw [e, Int.add_comm, Int.add_mul_emod_self_left]
    rcases Int.lt_or_gt_of_ne h0 with h | h
    · rw [← Int.emod_neg]; exact Int.emod_eq_of_lt h1 (by omega)
    · exact Int.emod_eq_of_lt h1 (by omega)
  refine ⟨?_, e1⟩
  have h3 := Int.mul_ediv_add_emod x y
  rw [e1] at h3
  have h4 : y * (x / y) = y * q := by omega
  exact Int.eq_of_mul_eq_mul_left h0 h4
theorem rAbs_meets (v : Value) (s : Bool) (a : List Nat) (ha : Lim a) (la : a.length ≤ 1099511627776) :
    Meets Tryz.prog 33 [v] [(v, I s a)] (fun r os fs => os = [] ∧ fs = [(r, zd ((iv s a).natAbs : Nat))]) := by
  refine meets_of_vc Tryz.func33 (by kernel_rfl) rfl (by kernel_rfl) (Nat.le_of_ble_eq_true rfl) ?_
  refine box_rule (Reads.fact (d := I s a) qM) fun p hp => ?_
  refine alloc_rule (d := I false []) fun o ho => ?_
  refine field_box 1 rfl hp ?_
  refine load_box_field 1 rfl (Part.right (Part.refl _)) (load_L _) fun u => ?_
  refine call_fn (rMake_meets u false a ha la) (Seals.refl _ _) qS ?_
  rintro r0 _ _ ⟨rfl, rfl⟩
  rw [show iv false a = ((iv s a).natAbs : Nat) by rw [iv_abs]; simp [iv]]
  generalize ((iv s a).natAbs : Int) = x
  refine store_box (d := zd x) 0 rfl ho rfl (by kernel_rfl) ?_ ?_; exact Reads.fact qM
  refine load_box (d := zd x) 0 rfl ho rfl (load_I _ _) fun r => ?_
  exact fin ⟨rfl, rfl⟩ (Seals.trans (Seals.trans (Seals.drop 0 _ _) (Seals.drop 0 _ _)) (Seals.sub qS))
theorem sgn_div {x y : Int} (h0 : y ≠ 0) :
    let q0 : Int := if decide (x < 0) = decide (y < 0) then ((x.natAbs / y.natAbs : Nat) : Int) else -((x.natAbs / y.natAbs : Nat) : Int)
    let r0 : Int := if x < 0 then -((x.natAbs % y.natAbs : Nat) : Int) else ((x.natAbs % y.natAbs : Nat) : Int)
    (r0 < 0 → x / y = (if y < 0 then q0 + 1 else q0 - 1) ∧ x % y = r0 + y.natAbs) ∧ (¬ r0 < 0 → x / y = q0 ∧ x % y = r0) := by
  intro q0 r0
  have hY : 0 < y.natAbs := by omega
  have hm := Nat.mod_lt x.natAbs hY
  have hd := Nat.div_add_mod x.natAbs y.natAbs
  have e : x = y * q0 + r0 := by
    have h1 : ((y.natAbs * (x.natAbs / y.natAbs) + x.natAbs % y.natAbs : Nat) : Int) = x.natAbs := by rw [hd]
    rw [Int.natCast_add, Int.natCast_mul] at h1
    show x = y * (if decide (x < 0) = decide (y < 0) then _ else _) + (if x < 0 then _ else _)
    generalize ((x.natAbs / y.natAbs : Nat) : Int) = Q at *
    generalize ((x.natAbs % y.natAbs : Nat) : Int) = R at *
    by_cases hx : x < 0
    · by_cases hy : y < 0
      · have ey : (y.natAbs : Int) = -y := by omega
        rw [ey, Int.neg_mul] at h1
        simp only [hx, hy, decide_true, if_true]; omega
      · have ey : (y.natAbs : Int) = y := by omega
        rw [ey] at h1
        simp only [hx, hy, decide_true, decide_false, if_true, Bool.true_eq_false, if_false]
        rw [Int.mul_neg]; omega
    · by_cases hy : y < 0
      · have ey : (y.natAbs : Int) = -y := by omega
        rw [ey, Int.neg_mul] at h1
        simp only [hx, hy, decide_true, decide_false, Bool.false_eq_true, if_false]
        rw [Int.mul_neg]; omega
      · have ey : (y.natAbs : Int) = y := by omega
        rw [ey] at h1
        simp only [hx, hy, decide_false, if_true, if_false]; omega
  have hr : r0.natAbs = x.natAbs % y.natAbs := by
    show (if x < 0 then -((x.natAbs % y.natAbs : Nat) : Int) else ((x.natAbs % y.natAbs : Nat) : Int)).natAbs = _
    split <;> omega
  constructor
  · intro hr0
    refine div_uniq h0 ?_ (by omega) (by omega)
    by_cases hy : y < 0
    · rw [if_pos hy, Int.mul_add, Int.mul_one]; omega
    · rw [if_neg hy, Int.mul_sub, Int.mul_one]; omega
  · intro hr0
    exact div_uniq h0 e (by omega) (by omega)
theorem rZDivMod_meets (v w : Value) (s t : Bool) (a b : List Nat) (ha : Lim a) (hb : Lim b) (la : a.length ≤ 34359738368) (lb : b.length ≤ 34359738368) (h0 : iv t b ≠ 0) :
    Meets Tryz.prog 34 [v, w] [(v, I s a), (w, I t b)] (fun r os fs => os = [] ∧ ∃ q m, r = .tuple #[q, m, .bool true] ∧ fs = [(q, zd (iv s a / iv t b)), (m, zd (iv s a % iv t b))]) := by
  have hxs : sz (iv s a) a.length := sz_jv (x := (s, a)) ha (Nat.le_refl _)
  have hys : sz (iv t b) b.length := sz_jv (x := (t, b)) hb (Nat.le_refl _)
  have n1 := fun u => rZNorm_meets u s a ha (by omega)
  have n2 := fun u => rZNorm_meets u t b hb (by omega)
  refine meets_of_vc Tryz.func34 (by kernel_rfl) rfl (by kernel_rfl) (Nat.le_of_ble_eq_true rfl) ?_
  refine box_rule (Reads.fact (d := I s a) qM) fun p hp => ?_
  refine box_rule (Reads.fact (d := I t b) qM) fun q hq => ?_
  refine alloc_rule (d := I false []) fun o ho => ?_
  refine alloc_rule (d := I false []) fun o2 ho2 => ?_
  refine load_box (d := I s a) 3 rfl hp rfl (load_I _ _) fun v1 => ?_
  refine call_fn (n1 v1) (Seals.refl _ _) qS ?_
  rintro v2 _ _ ⟨rfl, rfl⟩
  refine store_box (d := zd (iv s a)) 3 rfl hp rfl (by kernel_rfl) ?_ ?_; exact Reads.fact qM
  refine load_box (d := I t b) 2 rfl hq rfl (load_I _ _) fun w1 => ?_
  refine call_fn (n2 w1) (Seals.refl _ _) qS ?_
  rintro w2 _ _ ⟨rfl, rfl⟩
  refine store_box (d := zd (iv t b)) 2 rfl hq rfl (by kernel_rfl) ?_ ?_; exact Reads.fact qM
  generalize iv s a = x at *
  generalize iv t b = y at *
  have hx1 := hxs.len
  have hy1 := hys.len
  have hsg := sgn_div (x := x) h0
  simp only at hsg
  have hY : 0 < y.natAbs := by omega
  have hR := Nat.mod_lt x.natAbs hY
  have hQ := Nat.div_le_self x.natAbs y.natAbs
  have lQ : (lims (x.natAbs / y.natAbs)).length ≤ 1099511627776 := Nat.le_trans (lims_len_le hQ) (by omega)
  have lR : (lims (x.natAbs % y.natAbs)).length ≤ 1099511627776 := Nat.le_trans (lims_len_le (Nat.le_of_lt hR)) (by omega)
  have hdm := fun u u' => rDivMod_meets u u' (lims x.natAbs) (lims y.natAbs) (Lim_lims _) (Lim_lims _) (by omega) (by omega) (by rw [nv_lims]; omega)
  simp only [nv_lims] at hdm
  have sR : ∀ r : Int, r.natAbs = x.natAbs % y.natAbs → sz r (a.length + b.length + 1) := fun r hr => by
    have h1 := hys.mono (show b.length ≤ a.length + b.length + 1 by omega)
    unfold sz at h1 ⊢; omega
  have sQ : ∀ r : Int, r.natAbs = x.natAbs / y.natAbs → sz r (a.length + b.length + 1) := fun r hr => by
    have h1 := hxs.mono (show a.length ≤ a.length + b.length + 1 by omega)
    unfold sz at h1 ⊢; omega
  have sY : sz ((y.natAbs : Nat) : Int) (a.length + b.length + 1) := by
    have h1 := hys.mono (show b.length ≤ a.length + b.length + 1 by omega)
    unfold sz at h1 ⊢; omega
  have hab := fun u => rAbs_meets u (decide (y < 0)) (lims y.natAbs) (Lim_lims _) (by omega)
  rw [iv_zd] at hab
  obtain ⟨R0, hR0⟩ : ∃ R0 : Int, (if x < 0 then -((x.natAbs % y.natAbs : Nat) : Int) else ((x.natAbs % y.natAbs : Nat) : Int)) = R0 := ⟨_, rfl⟩
  have hR0e : R0 = if decide (x < 0) = true then -((x.natAbs % y.natAbs : Nat) : Int) else ((x.natAbs % y.natAbs : Nat) : Int) := by
    rw [← hR0]
    by_cases h : x < 0
    · simp [h]
    · simp [h]
  have hR0a : R0.natAbs = x.natAbs % y.natAbs := by rw [← hR0]; split <;> omega
  rw [hR0] at hsg
  have sR0 := sR R0 hR0a
  have one : sz 1 (a.length + b.length + 1) := one_sz (by omega)
  have hE : a.length + b.length + 1 ≤ 137438953472 := by omega
  generalize hQn : x.natAbs / y.natAbs = Q at *
  generalize hRn : x.natAbs % y.natAbs = R at *
  generalize a.length + b.length + 1 = E at *
  refine field_box 3 rfl hp ?_
  refine load_box_field (d := U (lims (x).natAbs)) 3 rfl (Part.right (Part.refl _)) (load_L _) fun u1 => ?_
  refine field_box 2 rfl hq ?_
  refine load_box_field (d := U (lims (y).natAbs)) 2 rfl (Part.right (Part.refl _)) (load_L _) fun u2 => ?_
  refine call_fn (hdm u1 u2) (Seals.refl _ _) qS ?_
  rintro _ _ _ ⟨rfl, z1, z2, rfl, rfl⟩
  refine field_box 3 rfl hp ?_
  refine load_box_field_one (u := .bool (decide (x < 0))) 3 rfl (Part.left (Part.refl _)) ?_
  refine field_box 2 rfl hq ?_
  refine load_box_field_one (u := .bool (decide (y < 0))) 2 rfl (Part.left (Part.refl _)) ?_
  refine bne_split (fun hc => ?_) (fun hc => ?_)
  · rw [if_neg hc] at hsg
    refine call_fn (rMake_of z1 true Q (-(Q : Int)) lQ rfl) (Seals.refl _ _) qS ?_
    rintro m1 _ _ ⟨rfl, rfl⟩
    refine alloc_rule (d := I false []) fun q2 hq2 => ?_
    refine store_box (d := zd (-(Q : Int))) 0 rfl hq2 rfl (by kernel_rfl) ?_ ?_; exact Reads.fact qM
    refine field_box 4 rfl hp ?_
    refine load_box_field_one (u := .bool (decide (x < 0))) 4 rfl (Part.left (Part.refl _)) ?_
    refine call_fn (rMake_of z2 (decide (x < 0)) R R0 lR hR0e) (Seals.refl _ _) qS ?_
    rintro m2 _ _ ⟨rfl, rfl⟩
    refine alloc_rule (d := I false []) fun r2 hr2 => ?_
    refine store_box (d := zd R0) 0 rfl hr2 rfl (by kernel_rfl) ?_ ?_; exact Reads.fact qM
    refine field_box 0 rfl hr2 ?_
    refine load_box_field_one (u := .bool (decide (R0 < 0))) 0 rfl (Part.left (Part.refl _)) ?_
    have sQ0 := sQ (-(Q : Int)) (by omega)
    by_cases hneg : R0 < 0
    · obtain ⟨e1, e2⟩ := hsg.1 hneg
      have had := fun u u' => rAddZ u u' R0 ((y.natAbs : Nat) : Int) E sR0 sY hE
      rw [← e2] at had
      rw [decide_eq_true hneg]
      refine draw_rule [0, 1, 2, 3, 4] [0, 1, 2, 3, 4] (by kernel_rfl) (by kernel_rfl) ?_
      refine load_box (d := zd R0) 0 rfl hr2 rfl (load_I _ _) fun y1 => ?_
      refine load_box (d := zd y) 4 rfl hq rfl (load_I _ _) fun y2 => ?_
      refine call_fn (hab y2) (Seals.refl _ _) qS ?_
      rintro y3 _ _ ⟨rfl, rfl⟩
      refine call_fn (had y1 y3) (Seals.refl _ _) qS ?_
      rintro y4 _ _ ⟨rfl, rfl⟩
      refine store_box (d := zd (x % y)) 0 rfl hr2 rfl (by kernel_rfl) ?_ ?_; exact Reads.fact qM
      refine field_box 4 rfl hq ?_
      refine load_box_field_one (u := .bool (decide (y < 0))) 4 rfl (Part.left (Part.refl _)) ?_
      by_cases hy0 : y < 0
      · rw [if_pos hy0] at e1
        have ha2 := fun u u' => rAddZ u u' (-(Q : Int)) 1 E sQ0 one hE
        rw [← e1] at ha2
        rw [decide_eq_true hy0]
        refine draw_rule [0, 1, 2, 3] [0, 1, 2, 3] (by kernel_rfl) (by kernel_rfl) ?_
        refine load_box (d := zd (-(Q : Int))) 1 rfl hq2 rfl (load_I _ _) fun y5 => ?_
        refine call_fn (rOf_meets 1 (by decide) (by decide)) (Seals.refl _ _) qS ?_
        rintro y6 _ _ ⟨rfl, rfl⟩
        refine call_fn (ha2 y5 y6) (Seals.refl _ _) qS ?_
        rintro y7 _ _ ⟨rfl, rfl⟩
        refine store_box (d := zd (x / y)) 1 rfl hq2 rfl (by kernel_rfl) ?_ ?_; exact Reads.fact qM
        refine draw_ord [0, 2, 1, 3, 4] (by kernel_rfl) ?_
        refine ord_split 1 2 (by kernel_rfl) (by kernel_rfl) (by kernel_rfl) ?_ ?_
        · refine ord_go [0, 1, 2, 3, 4] (by kernel_rfl) (by kernel_rfl) ?_
          refine load_box (d := zd (x / y)) 1 rfl hq2 rfl (load_I _ _) fun t1 => ?_
          refine load_box (d := zd (x % y)) 0 rfl hr2 rfl (load_I _ _) fun t2 => ?_
          refine store_box (d := zd (x / y)) 3 rfl ho rfl (by kernel_rfl) ?_ ?_; exact Reads.fact qM
          refine store_box (d := zd (x % y)) 2 rfl ho2 rfl (by kernel_rfl) ?_ ?_; exact Reads.fact qM
          refine load_box (d := zd (x / y)) 3 rfl ho rfl (load_I _ _) fun r1 => ?_
          refine load_box (d := zd (x % y)) 2 rfl ho2 rfl (load_I _ _) fun r2' => ?_
          exact fin ⟨rfl, r1, r2', rfl, rfl⟩ (Seals.trans (Seals.drop 0 _ _) (Seals.trans (Seals.drop 0 _ _) (Seals.trans (Seals.drop 0 _ _) (Seals.trans (Seals.drop 0 _ _) (Seals.trans (Seals.drop 0 _ _) (Seals.trans (Seals.drop 0 _ _) (Seals.sub (fs' := [(r1, zd (x / y)), (r2', zd (x % y))]) qS)))))))
        · refine ord_go [0, 2, 1, 3, 4] (by kernel_rfl) (by kernel_rfl) ?_
          refine load_box (d := zd (x / y)) 1 rfl hq2 rfl (load_I _ _) fun t1 => ?_
          refine store_box (d := zd (x / y)) 3 rfl ho rfl (by kernel_rfl) ?_ ?_; exact Reads.fact qM
          refine load_box (d := zd (x % y)) 0 rfl hr2 rfl (load_I _ _) fun t2 => ?_
          refine store_box (d := zd (x % y)) 2 rfl ho2 rfl (by kernel_rfl) ?_ ?_; exact Reads.fact qM
          refine load_box (d := zd (x / y)) 3 rfl ho rfl (load_I _ _) fun r1 => ?_
          refine load_box (d := zd (x % y)) 2 rfl ho2 rfl (load_I _ _) fun r2' => ?_
          exact fin ⟨rfl, r1, r2', rfl, rfl⟩ (Seals.trans (Seals.drop 0 _ _) (Seals.trans (Seals.drop 0 _ _) (Seals.trans (Seals.drop 0 _ _) (Seals.trans (Seals.drop 0 _ _) (Seals.trans (Seals.drop 0 _ _) (Seals.trans (Seals.drop 0 _ _) (Seals.sub (fs' := [(r1, zd (x / y)), (r2', zd (x % y))]) qS)))))))
      · rw [if_neg hy0] at e1
        have ha2 := fun u u' => rSubZ u u' (-(Q : Int)) 1 E sQ0 one hE
        rw [← e1] at ha2
        rw [decide_eq_false hy0]
        refine draw_rule [0, 1, 2, 3] [0, 1, 2, 3] (by kernel_rfl) (by kernel_rfl) ?_
        refine load_box (d := zd (-(Q : Int))) 1 rfl hq2 rfl (load_I _ _) fun y5 => ?_
        refine call_fn (rOf_meets 1 (by decide) (by decide)) (Seals.refl _ _) qS ?_
        rintro y6 _ _ ⟨rfl, rfl⟩
        refine call_fn (ha2 y5 y6) (Seals.refl _ _) qS ?_
        rintro y7 _ _ ⟨rfl, rfl⟩
        refine store_box (d := zd (x / y)) 1 rfl hq2 rfl (by kernel_rfl) ?_ ?_; exact Reads.fact qM
        refine draw_ord [0, 2, 1, 3, 4] (by kernel_rfl) ?_
        refine ord_split 1 2 (by kernel_rfl) (by kernel_rfl) (by kernel_rfl) ?_ ?_
        · refine ord_go [0, 1, 2, 3, 4] (by kernel_rfl) (by kernel_rfl) ?_
          refine load_box (d := zd (x / y)) 1 rfl hq2 rfl (load_I _ _) fun t1 => ?_
          refine load_box (d := zd (x % y)) 0 rfl hr2 rfl (load_I _ _) fun t2 => ?_
          refine store_box (d := zd (x / y)) 3 rfl ho rfl (by kernel_rfl) ?_ ?_; exact Reads.fact qM
          refine store_box (d := zd (x % y)) 2 rfl ho2 rfl (by kernel_rfl) ?_ ?_; exact Reads.fact qM
          refine load_box (d := zd (x / y)) 3 rfl ho rfl (load_I _ _) fun r1 => ?_
          refine load_box (d := zd (x % y)) 2 rfl ho2 rfl (load_I _ _) fun r2' => ?_
          exact fin ⟨rfl, r1, r2', rfl, rfl⟩ (Seals.trans (Seals.drop 0 _ _) (Seals.trans (Seals.drop 0 _ _) (Seals.trans (Seals.drop 0 _ _) (Seals.trans (Seals.drop 0 _ _) (Seals.trans (Seals.drop 0 _ _) (Seals.trans (Seals.drop 0 _ _) (Seals.sub (fs' := [(r1, zd (x / y)), (r2', zd (x % y))]) qS)))))))
        · refine ord_go [0, 2, 1, 3, 4] (by kernel_rfl) (by kernel_rfl) ?_
          refine load_box (d := zd (x / y)) 1 rfl hq2 rfl (load_I _ _) fun t1 => ?_
          refine store_box (d := zd (x / y)) 3 rfl ho rfl (by kernel_rfl) ?_ ?_; exact Reads.fact qM
          refine load_box (d := zd (x % y)) 0 rfl hr2 rfl (load_I _ _) fun t2 => ?_
          refine store_box (d := zd (x % y)) 2 rfl ho2 rfl (by kernel_rfl) ?_ ?_; exact Reads.fact qM
          refine load_box (d := zd (x / y)) 3 rfl ho rfl (load_I _ _) fun r1 => ?_
          refine load_box (d := zd (x % y)) 2 rfl ho2 rfl (load_I _ _) fun r2' => ?_
          exact fin ⟨rfl, r1, r2', rfl, rfl⟩ (Seals.trans (Seals.drop 0 _ _) (Seals.trans (Seals.drop 0 _ _) (Seals.trans (Seals.drop 0 _ _) (Seals.trans (Seals.drop 0 _ _) (Seals.trans (Seals.drop 0 _ _) (Seals.trans (Seals.drop 0 _ _) (Seals.sub (fs' := [(r1, zd (x / y)), (r2', zd (x % y))]) qS)))))))
    · obtain ⟨e1, e2⟩ := hsg.2 hneg
      rw [decide_eq_false hneg]
      rw [← e1, ← e2]
      refine draw_ord [0, 2, 1, 3, 4] (by kernel_rfl) ?_
      refine ord_split 1 2 (by kernel_rfl) (by kernel_rfl) (by kernel_rfl) ?_ ?_
      · refine ord_go [0, 1, 2, 3, 4] (by kernel_rfl) (by kernel_rfl) ?_
        refine load_box (d := zd (x / y)) 1 rfl hq2 rfl (load_I _ _) fun t1 => ?_
        refine load_box (d := zd (x % y)) 0 rfl hr2 rfl (load_I _ _) fun t2 => ?_
        refine store_box (d := zd (x / y)) 3 rfl ho rfl (by kernel_rfl) ?_ ?_; exact Reads.fact qM
        refine store_box (d := zd (x % y)) 2 rfl ho2 rfl (by kernel_rfl) ?_ ?_; exact Reads.fact qM
        refine load_box (d := zd (x / y)) 3 rfl ho rfl (load_I _ _) fun r1 => ?_
        refine load_box (d := zd (x % y)) 2 rfl ho2 rfl (load_I _ _) fun r2' => ?_
        exact fin ⟨rfl, r1, r2', rfl, rfl⟩ (Seals.trans (Seals.drop 0 _ _) (Seals.trans (Seals.drop 0 _ _) (Seals.trans (Seals.drop 0 _ _) (Seals.trans (Seals.drop 0 _ _) (Seals.trans (Seals.drop 0 _ _) (Seals.trans (Seals.drop 0 _ _) (Seals.sub (fs' := [(r1, zd (x / y)), (r2', zd (x % y))]) qS)))))))
      · refine ord_go [0, 2, 1, 3, 4] (by kernel_rfl) (by kernel_rfl) ?_
        refine load_box (d := zd (x / y)) 1 rfl hq2 rfl (load_I _ _) fun t1 => ?_
        refine store_box (d := zd (x / y)) 3 rfl ho rfl (by kernel_rfl) ?_ ?_; exact Reads.fact qM
        refine load_box (d := zd (x % y)) 0 rfl hr2 rfl (load_I _ _) fun t2 => ?_
        refine store_box (d := zd (x % y)) 2 rfl ho2 rfl (by kernel_rfl) ?_ ?_; exact Reads.fact qM
        refine load_box (d := zd (x / y)) 3 rfl ho rfl (load_I _ _) fun r1 => ?_
        refine load_box (d := zd (x % y)) 2 rfl ho2 rfl (load_I _ _) fun r2' => ?_
        exact fin ⟨rfl, r1, r2', rfl, rfl⟩ (Seals.trans (Seals.drop 0 _ _) (Seals.trans (Seals.drop 0 _ _) (Seals.trans (Seals.drop 0 _ _) (Seals.trans (Seals.drop 0 _ _) (Seals.trans (Seals.drop 0 _ _) (Seals.trans (Seals.drop 0 _ _) (Seals.sub (fs' := [(r1, zd (x / y)), (r2', zd (x % y))]) qS)))))))
  · rw [if_pos hc] at hsg
    refine call_fn (rMake_of z1 false Q (Q : Int) lQ rfl) (Seals.refl _ _) qS ?_
    rintro m1 _ _ ⟨rfl, rfl⟩
    refine alloc_rule (d := I false []) fun q2 hq2 => ?_
    refine store_box (d := zd (Q : Int)) 0 rfl hq2 rfl (by kernel_rfl) ?_ ?_; exact Reads.fact qM
    refine field_box 4 rfl hp ?_
    refine load_box_field_one (u := .bool (decide (x < 0))) 4 rfl (Part.left (Part.refl _)) ?_
    refine call_fn (rMake_of z2 (decide (x < 0)) R R0 lR hR0e) (Seals.refl _ _) qS ?_
    rintro m2 _ _ ⟨rfl, rfl⟩
    refine alloc_rule (d := I false []) fun r2 hr2 => ?_
    refine store_box (d := zd R0) 0 rfl hr2 rfl (by kernel_rfl) ?_ ?_; exact Reads.fact qM
    refine field_box 0 rfl hr2 ?_
    refine load_box_field_one (u := .bool (decide (R0 < 0))) 0 rfl (Part.left (Part.refl _)) ?_
    have sQ0 := sQ (Q : Int) (by omega)
    by_cases hneg : R0 < 0
    · obtain ⟨e1, e2⟩ := hsg.1 hneg
      have had := fun u u' => rAddZ u u' R0 ((y.natAbs : Nat) : Int) E sR0 sY hE
      rw [← e2] at had
      rw [decide_eq_true hneg]
      refine draw_rule [0, 1, 2, 3, 4] [0, 1, 2, 3, 4] (by kernel_rfl) (by kernel_rfl) ?_
      refine load_box (d := zd R0) 0 rfl hr2 rfl (load_I _ _) fun y1 => ?_
      refine load_box (d := zd y) 4 rfl hq rfl (load_I _ _) fun y2 => ?_
      refine call_fn (hab y2) (Seals.refl _ _) qS ?_
      rintro y3 _ _ ⟨rfl, rfl⟩
      refine call_fn (had y1 y3) (Seals.refl _ _) qS ?_
      rintro y4 _ _ ⟨rfl, rfl⟩
      refine store_box (d := zd (x % y)) 0 rfl hr2 rfl (by kernel_rfl) ?_ ?_; exact Reads.fact qM
      refine field_box 4 rfl hq ?_
      refine load_box_field_one (u := .bool (decide (y < 0))) 4 rfl (Part.left (Part.refl _)) ?_
      by_cases hy0 : y < 0
      · rw [if_pos hy0] at e1
        have ha2 := fun u u' => rAddZ u u' (Q : Int) 1 E sQ0 one hE
        rw [← e1] at ha2
        rw [decide_eq_true hy0]
        refine draw_rule [0, 1, 2, 3] [0, 1, 2, 3] (by kernel_rfl) (by kernel_rfl) ?_
        refine load_box (d := zd (Q : Int)) 1 rfl hq2 rfl (load_I _ _) fun y5 => ?_
        refine call_fn (rOf_meets 1 (by decide) (by decide)) (Seals.refl _ _) qS ?_
        rintro y6 _ _ ⟨rfl, rfl⟩
        refine call_fn (ha2 y5 y6) (Seals.refl _ _) qS ?_
        rintro y7 _ _ ⟨rfl, rfl⟩
        refine store_box (d := zd (x / y)) 1 rfl hq2 rfl (by kernel_rfl) ?_ ?_; exact Reads.fact qM
        refine draw_ord [0, 2, 1, 3, 4] (by kernel_rfl) ?_
        refine ord_split 1 2 (by kernel_rfl) (by kernel_rfl) (by kernel_rfl) ?_ ?_
        · refine ord_go [0, 1, 2, 3, 4] (by kernel_rfl) (by kernel_rfl) ?_
          refine load_box (d := zd (x / y)) 1 rfl hq2 rfl (load_I _ _) fun t1 => ?_
          refine load_box (d := zd (x % y)) 0 rfl hr2 rfl (load_I _ _) fun t2 => ?_
          refine store_box (d := zd (x / y)) 3 rfl ho rfl (by kernel_rfl) ?_ ?_; exact Reads.fact qM
          refine store_box (d := zd (x % y)) 2 rfl ho2 rfl (by kernel_rfl) ?_ ?_; exact Reads.fact qM
          refine load_box (d := zd (x / y)) 3 rfl ho rfl (load_I _ _) fun r1 => ?_
          refine load_box (d := zd (x % y)) 2 rfl ho2 rfl (load_I _ _) fun r2' => ?_
          exact fin ⟨rfl, r1, r2', rfl, rfl⟩ (Seals.trans (Seals.drop 0 _ _) (Seals.trans (Seals.drop 0 _ _) (Seals.trans (Seals.drop 0 _ _) (Seals.trans (Seals.drop 0 _ _) (Seals.trans (Seals.drop 0 _ _) (Seals.trans (Seals.drop 0 _ _) (Seals.sub (fs' := [(r1, zd (x / y)), (r2', zd (x % y))]) qS)))))))
        · refine ord_go [0, 2, 1, 3, 4] (by kernel_rfl) (by kernel_rfl) ?_
          refine load_box (d := zd (x / y)) 1 rfl hq2 rfl (load_I _ _) fun t1 => ?_
          refine store_box (d := zd (x / y)) 3 rfl ho rfl (by kernel_rfl) ?_ ?_; exact Reads.fact qM
          refine load_box (d := zd (x % y)) 0 rfl hr2 rfl (load_I _ _) fun t2 => ?_
          refine store_box (d := zd (x % y)) 2 rfl ho2 rfl (by kernel_rfl) ?_ ?_; exact Reads.fact qM
          refine load_box (d := zd (x / y)) 3 rfl ho rfl (load_I _ _) fun r1 => ?_
          refine load_box (d := zd (x % y)) 2 rfl ho2 rfl (load_I _ _) fun r2' => ?_
          exact fin ⟨rfl, r1, r2', rfl, rfl⟩ (Seals.trans (Seals.drop 0 _ _) (Seals.trans (Seals.drop 0 _ _) (Seals.trans (Seals.drop 0 _ _) (Seals.trans (Seals.drop 0 _ _) (Seals.trans (Seals.drop 0 _ _) (Seals.trans (Seals.drop 0 _ _) (Seals.sub (fs' := [(r1, zd (x / y)), (r2', zd (x % y))]) qS)))))))
      · rw [if_neg hy0] at e1
        have ha2 := fun u u' => rSubZ u u' (Q : Int) 1 E sQ0 one hE
        rw [← e1] at ha2
        rw [decide_eq_false hy0]
        refine draw_rule [0, 1, 2, 3] [0, 1, 2, 3] (by kernel_rfl) (by kernel_rfl) ?_
        refine load_box (d := zd (Q : Int)) 1 rfl hq2 rfl (load_I _ _) fun y5 => ?_
        refine call_fn (rOf_meets 1 (by decide) (by decide)) (Seals.refl _ _) qS ?_
        rintro y6 _ _ ⟨rfl, rfl⟩
        refine call_fn (ha2 y5 y6) (Seals.refl _ _) qS ?_
        rintro y7 _ _ ⟨rfl, rfl⟩
        refine store_box (d := zd (x / y)) 1 rfl hq2 rfl (by kernel_rfl) ?_ ?_; exact Reads.fact qM
        refine draw_ord [0, 2, 1, 3, 4] (by kernel_rfl) ?_
        refine ord_split 1 2 (by kernel_rfl) (by kernel_rfl) (by kernel_rfl) ?_ ?_
        · refine ord_go [0, 1, 2, 3, 4] (by kernel_rfl) (by kernel_rfl) ?_
          refine load_box (d := zd (x / y)) 1 rfl hq2 rfl (load_I _ _) fun t1 => ?_
          refine load_box (d := zd (x % y)) 0 rfl hr2 rfl (load_I _ _) fun t2 => ?_
          refine store_box (d := zd (x / y)) 3 rfl ho rfl (by kernel_rfl) ?_ ?_; exact Reads.fact qM
          refine store_box (d := zd (x % y)) 2 rfl ho2 rfl (by kernel_rfl) ?_ ?_; exact Reads.fact qM
          refine load_box (d := zd (x / y)) 3 rfl ho rfl (load_I _ _) fun r1 => ?_
          refine load_box (d := zd (x % y)) 2 rfl ho2 rfl (load_I _ _) fun r2' => ?_
          exact fin ⟨rfl, r1, r2', rfl, rfl⟩ (Seals.trans (Seals.drop 0 _ _) (Seals.trans (Seals.drop 0 _ _) (Seals.trans (Seals.drop 0 _ _) (Seals.trans (Seals.drop 0 _ _) (Seals.trans (Seals.drop 0 _ _) (Seals.trans (Seals.drop 0 _ _) (Seals.sub (fs' := [(r1, zd (x / y)), (r2', zd (x % y))]) qS)))))))
        · refine ord_go [0, 2, 1, 3, 4] (by kernel_rfl) (by kernel_rfl) ?_
          refine load_box (d := zd (x / y)) 1 rfl hq2 rfl (load_I _ _) fun t1 => ?_
          refine store_box (d := zd (x / y)) 3 rfl ho rfl (by kernel_rfl) ?_ ?_; exact Reads.fact qM
          refine load_box (d := zd (x % y)) 0 rfl hr2 rfl (load_I _ _) fun t2 => ?_
          refine store_box (d := zd (x % y)) 2 rfl ho2 rfl (by kernel_rfl) ?_ ?_; exact Reads.fact qM
          refine load_box (d := zd (x / y)) 3 rfl ho rfl (load_I _ _) fun r1 => ?_
          refine load_box (d := zd (x % y)) 2 rfl ho2 rfl (load_I _ _) fun r2' => ?_
          exact fin ⟨rfl, r1, r2', rfl, rfl⟩ (Seals.trans (Seals.drop 0 _ _) (Seals.trans (Seals.drop 0 _ _) (Seals.trans (Seals.drop 0 _ _) (Seals.trans (Seals.drop 0 _ _) (Seals.trans (Seals.drop 0 _ _) (Seals.trans (Seals.drop 0 _ _) (Seals.sub (fs' := [(r1, zd (x / y)), (r2', zd (x % y))]) qS)))))))
    · obtain ⟨e1, e2⟩ := hsg.2 hneg
      rw [decide_eq_false hneg]
      rw [← e1, ← e2]
      refine draw_ord [0, 2, 1, 3, 4] (by kernel_rfl) ?_
      refine ord_split 1 2 (by kernel_rfl) (by kernel_rfl) (by kernel_rfl) ?_ ?_
      · refine ord_go [0, 1, 2, 3, 4] (by kernel_rfl) (by kernel_rfl) ?_
        refine load_box (d := zd (x / y)) 1 rfl hq2 rfl (load_I _ _) fun t1 => ?_
        refine load_box (d := zd (x % y)) 0 rfl hr2 rfl (load_I _ _) fun t2 => ?_
        refine store_box (d := zd (x / y)) 3 rfl ho rfl (by kernel_rfl) ?_ ?_; exact Reads.fact qM
        refine store_box (d := zd (x % y)) 2 rfl ho2 rfl (by kernel_rfl) ?_ ?_; exact Reads.fact qM
        refine load_box (d := zd (x / y)) 3 rfl ho rfl (load_I _ _) fun r1 => ?_
        refine load_box (d := zd (x % y)) 2 rfl ho2 rfl (load_I _ _) fun r2' => ?_
        exact fin ⟨rfl, r1, r2', rfl, rfl⟩ (Seals.trans (Seals.drop 0 _ _) (Seals.trans (Seals.drop 0 _ _) (Seals.trans (Seals.drop 0 _ _) (Seals.trans (Seals.drop 0 _ _) (Seals.trans (Seals.drop 0 _ _) (Seals.trans (Seals.drop 0 _ _) (Seals.sub (fs' := [(r1, zd (x / y)), (r2', zd (x % y))]) qS)))))))
      · refine ord_go [0, 2, 1, 3, 4] (by kernel_rfl) (by kernel_rfl) ?_
        refine load_box (d := zd (x / y)) 1 rfl hq2 rfl (load_I _ _) fun t1 => ?_
        refine store_box (d := zd (x / y)) 3 rfl ho rfl (by kernel_rfl) ?_ ?_; exact Reads.fact qM
        refine load_box (d := zd (x % y)) 0 rfl hr2 rfl (load_I _ _) fun t2 => ?_
        refine store_box (d := zd (x % y)) 2 rfl ho2 rfl (by kernel_rfl) ?_ ?_; exact Reads.fact qM
        refine load_box (d := zd (x / y)) 3 rfl ho rfl (load_I _ _) fun r1 => ?_
        refine load_box (d := zd (x % y)) 2 rfl ho2 rfl (load_I _ _) fun r2' => ?_
        exact fin ⟨rfl, r1, r2', rfl, rfl⟩ (Seals.trans (Seals.drop 0 _ _) (Seals.trans (Seals.drop 0 _ _) (Seals.trans (Seals.drop 0 _ _) (Seals.trans (Seals.drop 0 _ _) (Seals.trans (Seals.drop 0 _ _) (Seals.trans (Seals.drop 0 _ _) (Seals.sub (fs' := [(r1, zd (x / y)), (r2', zd (x % y))]) qS)))))))
theorem rDivModJZ (v w : Value) (x : Bool × List Nat) (y : Int) (e : Nat) (hx : Lim x.2) (lx : x.2.length ≤ 34359738368) (hy : sz y e) (he : e ≤ 34359738368) (h0 : y ≠ 0) :
    Meets Tryz.prog 34 [v, w] [(v, J x), (w, zd y)] (fun r os fs => os = [] ∧ ∃ q m, r = .tuple #[q, m, .bool true] ∧ fs = [(q, zd (jv x / y)), (m, zd (jv x % y))]) := by
  have h := rZDivMod_meets v w x.1 (decide (y < 0)) x.2 (lims y.natAbs) hx (Lim_lims _) lx (Nat.le_trans hy.len he) (by rw [iv_zd]; exact h0)
  rw [iv_zd] at h
  exact h
theorem rDivModZ (v w : Value) (x y : Int) (e : Nat) (hx : sz x e) (hy : sz y e) (he : e ≤ 34359738368) (h0 : y ≠ 0) :
    Meets Tryz.prog 34 [v, w] [(v, zd x), (w, zd y)] (fun r os fs => os = [] ∧ ∃ q m, r = .tuple #[q, m, .bool true] ∧ fs = [(q, zd (x / y)), (m, zd (x % y))]) := by
  have h := rDivModJZ v w (cn x) y e (Lim_lims _) (Nat.le_trans hx.len he) hy he h0
  rw [jv_cn] at h
  exact h
open Go.RowKit
theorem index_vd {P : Program} {t e : TypeId} {v : Value} {l : List Int} {k : IntKind} {i : Int} {os : List Own} {fs : List Fact} {K : Cont} [ht : TSl P t e 2] (hm : (v, vd l) ∈ fs) (j : Nat) (hj : i = (j : Int)) (hlt : j < l.length)
    (k' : ∀ p, K p os ((p, .ptr (zd (l.getD j 0))) :: fs)) : IndexAddrK P t v (.int k i) os fs K :=
  index_fact hm j hj (by rw [List.length_map]; exact hlt) fun p => by
    have := k' p
    rw [map_cn_get hlt]; exact this
theorem len_vd {P : Program} {t e ty : TypeId} {v : Value} {l : List Int} {os : List Own} {fs : List Fact} {K : Cont} [ht : TSl P t e 2] (hm : (v, vd l) ∈ fs) (k : K (.int .i64 l.length) os fs) : LenK P [t] ty v os fs K :=
  len_fact hm fun _ => by rw [List.length_map]; exact k
theorem rMulZJ (v w : Value) (x : Int) (y : Bool × List Nat) (e : Nat) (hx : sz x e) (he : e ≤ 137438953472) (hy : Lim y.2) (ly : y.2.length ≤ 137438953472) :
    Meets Tryz.prog 83 [v, w] [(v, zd x), (w, J y)] (fun r os fs => os = [] ∧ fs = [(r, zd (x * jv y))]) := by
  have h := rZMul_meets v w (decide (x < 0)) y.1 (lims x.natAbs) y.2 (Lim_lims _) hy (Nat.le_trans hx.len he) ly
  rw [iv_zd] at h
  exact h
theorem rSignZ (v : Value) (x : Int) (e : Nat) (hx : sz x e) (he : e ≤ 1099511627776) :
    Meets Tryz.prog 44 [v] [(v, zd x)] (fun r os fs => os = [] ∧ fs = [] ∧ r = .int .i64 x.sign) := by
  have h := rSign_meets v (decide (x < 0)) (lims x.natAbs) (Lim_lims _) (Nat.le_trans hx.len he)
  rw [iv_zd] at h
  exact h
end Go.Proofs.YtgpcepcbdpigfaaGreat
namespace Go.Proofs.YtgpcepcbdpigfaaGreat
def pev : List Int → Int → Int
  | [], _ => 0
  | c :: l, x => c + x * pev l x
def nrm : List Int → List Int
  | [] => []
  | c :: l => match nrm l with
    | [] => if c = 0 then [] else [c]
    | d :: m => c :: d :: m
theorem nrm_cons (c : Int) (l : List Int) : nrm (c :: l) = if nrm l = [] ∧ c = 0 then [] else c :: nrm l := by
  rw [nrm]
  cases h : nrm l with
  | nil => by_cases hc : c = 0 <;> simp [hc]
  | cons d m => simp
theorem nrm_nrm (l : List Int) : nrm (nrm l) = nrm l := by
  induction l with
  | nil => rfl
  | cons c l ih =>
    rw [nrm_cons]
    by_cases h : nrm l = [] ∧ c = 0
    · rw [if_pos h]; rfl
    · rw [if_neg h, nrm_cons, ih, if_neg h]
theorem ev_nrm (l : List Int) (x : Int) : pev (nrm l) x = pev l x := by
  induction l with
  | nil => rfl
  | cons c l ih =>
    rw [nrm_cons]
    by_cases h : nrm l = [] ∧ c = 0
    · rw [if_pos h, h.2]
      rw [h.1] at ih
      simp only [pev] at ih ⊢
      rw [← ih]; simp
    · rw [if_neg h]; simp only [pev]; rw [ih]
theorem co_nrm (l : List Int) (i : Nat) : (nrm l).getD i 0 = l.getD i 0 := by
  induction l generalizing i with
  | nil => rfl
  | cons c l ih =>
    rw [nrm_cons]
    by_cases h : nrm l = [] ∧ c = 0
    · rw [if_pos h]
      cases i with
      | zero => simp [h.2]
      | succ i => rw [List.getD_cons_succ, ← ih i, h.1]; simp
    · rw [if_neg h]
      cases i with
      | zero => rfl
      | succ i => rw [List.getD_cons_succ, List.getD_cons_succ, ih]
theorem nrm_length_le (l : List Int) : (nrm l).length ≤ l.length := by
  induction l with
  | nil => exact Nat.le_refl _
  | cons c l ih =>
    rw [nrm_cons]
    split
    · simp
    · simp only [List.length_cons]; omega
theorem nrm_last (l : List Int) (h : 0 < (nrm l).length) : (nrm l).getD ((nrm l).length - 1) 0 ≠ 0 := by
  induction l with
  | nil => simp [nrm] at h
  | cons c l ih =>
    rw [nrm_cons] at h ⊢
    by_cases hc : nrm l = [] ∧ c = 0
    · rw [if_pos hc] at h; simp at h
    · rw [if_neg hc] at h ⊢
      cases e : nrm l with
      | nil =>
        have : c ≠ 0 := fun h0 => hc ⟨e, h0⟩
        simpa using this
      | cons d m =>
        have := ih (by rw [e]; simp)
        rw [e] at this
        simpa using this
theorem nrm_of_last {l : List Int} (h : l = [] ∨ l.getD (l.length - 1) 0 ≠ 0) : nrm l = l := by
  induction l with
  | nil => rfl
  | cons c l ih =>
    rcases h with h | h
    · simp at h
    · rw [nrm_cons]
      cases l with
      | nil =>
        have : c ≠ 0 := by simpa using h
        simp [nrm, this]
      | cons d m =>
        have h' : (d :: m).getD ((d :: m).length - 1) 0 ≠ 0 := by simpa using h
        rw [ih (.inr h')]
        simp
theorem nrm_ext : ∀ {l m : List Int}, (∀ i, l.getD i 0 = m.getD i 0) → nrm l = nrm m
  | [], [], _ => rfl
  | [], d :: m, h => by
    have h0 : d = 0 := by have := h 0; simpa using this.symm
    have h1 := nrm_ext (l := []) (m := m) fun i => by have := h (i + 1); simpa using this
    rw [nrm_cons, ← h1, if_pos ⟨rfl, h0⟩]; rfl
  | c :: l, [], h => by
    have h0 : c = 0 := by have := h 0; simpa using this
    have h1 := nrm_ext (l := l) (m := []) fun i => by have := h (i + 1); simpa using this
    rw [nrm_cons, h1, if_pos ⟨rfl, h0⟩]; rfl
  | c :: l, d :: m, h => by
    have h0 : c = d := by have := h 0; simpa using this
    have h1 := nrm_ext (l := l) (m := m) fun i => by have := h (i + 1); simpa using this
    rw [nrm_cons, nrm_cons, h1, h0]
theorem small_dvd {c k x : Int} (h : c = x * k) (hx : c.natAbs < x.natAbs) : c = 0 := by
  by_cases hk : k = 0
  · rw [h, hk, Int.mul_zero]
  · exfalso
    have h1 : c.natAbs = x.natAbs * k.natAbs := by rw [h, Int.natAbs_mul]
    have h2 : 1 ≤ k.natAbs := by omega
    have h3 : x.natAbs * 1 ≤ x.natAbs * k.natAbs := Nat.mul_le_mul_left _ h2
    omega
theorem ev_ext_great : ∀ {l m : List Int} (N : Nat), (∀ x : Int, (N : Int) ≤ x → pev l x = pev m x) → nrm l = nrm m
  | [], [], _, _ => rfl
  | [], d :: m, N, h => by
    have h0 : d = 0 := by
      have := h (N + d.natAbs + 1) (by omega)
      simp only [pev] at this
      refine small_dvd (x := (N : Int) + d.natAbs + 1) (k := - pev m ((N : Int) + d.natAbs + 1)) ?_ (by omega)
      rw [Int.mul_neg]; omega
    have h1 := ev_ext_great (l := []) (m := m) (N + 1) fun x hx => by
      have := h x (by omega)
      simp only [pev, h0] at this ⊢
      have : x * pev m x = 0 := by omega
      rcases Int.mul_eq_zero.1 this with h2 | h2
      · omega
      · exact h2.symm
    rw [nrm_cons, ← h1, if_pos ⟨rfl, h0⟩]; rfl
  | c :: l, [], N, h => by
    have h0 : c = 0 := by
      have := h (N + c.natAbs + 1) (by omega)
      simp only [pev] at this
      refine small_dvd (x := (N : Int) + c.natAbs + 1) (k := - pev l ((N : Int) + c.natAbs + 1)) ?_ (by omega)
      rw [Int.mul_neg]; omega
    have h1 := ev_ext_great (l := l) (m := []) (N + 1) fun x hx => by
      have := h x (by omega)
      simp only [pev, h0] at this ⊢
      have : x * pev l x = 0 := by omega
      rcases Int.mul_eq_zero.1 this with h2 | h2
      · omega
      · exact h2
    rw [nrm_cons, h1, if_pos ⟨rfl, h0⟩]; rfl
  | c :: l, d :: m, N, h => by
    have h0 : c - d = 0 := by
      have := h (N + (c - d).natAbs + 1) (by omega)
      simp only [pev] at this
      refine small_dvd (x := (N : Int) + (c - d).natAbs + 1) (k := pev m ((N : Int) + (c - d).natAbs + 1) - pev l ((N : Int) + (c - d).natAbs + 1)) ?_ (by omega)
      rw [Int.mul_sub]; omega
    have h1 := ev_ext_great (l := l) (m := m) (N + 1) fun x hx => by
      have := h x (by omega)
      simp only [pev] at this
      have h2 : x * (pev l x - pev m x) = 0 := by rw [Int.mul_sub]; omega
      rcases Int.mul_eq_zero.1 h2 with h3 | h3 <;> omega
    rw [nrm_cons, nrm_cons, h1, show c = d by omega]
theorem ev_ext {l m : List Int} (h : ∀ x, pev l x = pev m x) : nrm l = nrm m := ev_ext_great 0 fun x _ => h x
theorem ev_of_nrm {l m : List Int} (h : nrm l = nrm m) (x : Int) : pev l x = pev m x := by rw [← ev_nrm l, h, ev_nrm]
theorem ev_append (l m : List Int) (x : Int) : pev (l ++ m) x = pev l x + x ^ l.length * pev m x := by
  induction l with
  | nil => simp [pev]
  | cons c l ih => simp only [List.cons_append, pev, ih, List.length_cons, Int.pow_succ]; grind
theorem ev_map_mul (c : Int) (l : List Int) (x : Int) : pev (l.map fun y => c * y) x = c * pev l x := by
  induction l with
  | nil => simp [pev]
  | cons d l ih => simp only [List.map_cons, pev, ih]; grind
theorem ev_replicate (n : Nat) (x : Int) : pev (List.replicate n 0) x = 0 := by
  induction n with
  | zero => rfl
  | succ n ih => rw [List.replicate_succ, pev, ih]; simp
theorem ev_take_succ {l : List Int} {i : Nat} (h : i < l.length) (x : Int) : pev (l.take (i + 1)) x = pev (l.take i) x + x ^ i * l.getD i 0 := by
  have e : l.take (i + 1) = l.take i ++ [l.getD i 0] := by rw [List.take_add_one]; simp [List.getD_eq_getElem?_getD, h]
  rw [e, ev_append, List.length_take, Nat.min_eq_left (Nat.le_of_lt h)]
  simp [pev]
theorem ev_getD {l : List Int} {n : Nat} (h : l.length ≤ n) (x : Int) : pev ((List.range n).map fun i => l.getD i 0) x = pev l x := by
  have : nrm ((List.range n).map fun i => l.getD i 0) = nrm l := nrm_ext fun i => by
    by_cases hi : i < n
    · simp [List.getD_eq_getElem?_getD, hi]
    · have : l.length ≤ i := by omega
      simp [List.getD_eq_getElem?_getD, hi, this]
  exact ev_of_nrm this x
open Go.RowKit
theorem Meets.closed {P : Program} {g : FuncId} {args : List Value} {fs : List Fact} {R R' : Value → List Own → List Fact → Prop} (h : Meets P g args fs R)
    (hr : ∀ v os fs, R v os fs → ∃ os' fs', R' v os' fs' ∧ Seals os fs os' fs') : Meets P g args fs R' := by
  refine ⟨h.enter, fun A w hA hf => (h.calls A w hA hf).mono ?_⟩
  rintro e w' ⟨v, os', fs', he, hv, hh⟩
  obtain ⟨os2, fs2, h2, hs⟩ := hr v os' fs' hv
  exact ⟨v, os2, fs2, he, h2, hs _ _ hh⟩
theorem nrm_take {l : List Int} {n : Nat} (hn : n ≤ l.length) (hz : ∀ j, n ≤ j → l.getD j 0 = 0) (h : n = 0 ∨ l.getD (n - 1) 0 ≠ 0) : nrm l = l.take n := by
  have e : nrm l = nrm (l.take n) := nrm_ext fun i => by
    by_cases hi : i < n
    · simp [List.getD_eq_getElem?_getD, List.getElem?_take_of_lt hi]
    · rw [hz i (by omega)]
      have : (l.take n).length ≤ i := by rw [List.length_take]; omega
      rw [List.getD_eq_getElem?_getD, List.getElem?_eq_none this]; rfl
  rw [e]
  refine nrm_of_last ?_
  have hl : (l.take n).length = n := by rw [List.length_take]; omega
  rcases h with h | h
  · left; rw [h]; rfl
  · by_cases h0 : n = 0
    · left; rw [h0]; rfl
    · right
      rw [hl]
      simpa [List.getD_eq_getElem?_getD, List.getElem?_take_of_lt (show n - 1 < n by omega)] using h
theorem take_range (l : List Int) {n : Nat} (h : n ≤ l.length) : l.take n = (List.range n).map fun i => l.getD i 0 := by
  refine ext_getD' (by rw [List.length_take]; simp; omega) fun i hi => ?_
  rw [List.length_take] at hi
  have : i < n := by omega
  simp [List.getD_eq_getElem?_getD, List.getElem?_take_of_lt this, this]
where
  ext_getD' {l m : List Int} (hl : l.length = m.length) (h : ∀ i, i < l.length → l.getD i 0 = m.getD i 0) : l = m := row_eq_of_getD 0 hl h
theorem Seals.told {v : Value} {n : Nat} {g : Nat → Int} {e : Nat → Dat} {os : List Own} {fs : List Fact} (hv : isSl v) (he : ∀ i, i < n → e i = zd (g i)) :
    Seals (own1 v 2 n e :: os) fs os ((v, vd ((List.range n).map g)) :: fs) :=
  Seals.trans (Seals.slice (os := own1 v 2 n e :: os) 0 (fun i => J ((((List.range n).map g).map cn).getD i z0)) rfl hv fun i hi => by rw [he i hi, range_cn g hi]; rfl)
    (Seals.cons (Knw.vd_of (Knw.fact (List.Mem.head _))) (Seals.sub fun _ hF => .tail _ hF))
theorem Seals.toldL {v : Value} {l : List Int} {os : List Own} {fs : List Fact} (hv : isSl v) : Seals (ownL 2 J z0 v (l.map cn) :: os) fs os ((v, vd l) :: fs) := Seals.L (os := ownL 2 J z0 v (l.map cn) :: os) 0 rfl hv
theorem own_range {v : Value} {n : Nat} {g : Nat → Int} {e : Nat → Dat} {os : List Own} {fs : List Fact} (he : ∀ i, i < n → e i = zd (g i)) :
    Seals (own1 v 2 n e :: os) fs (ownL 2 J z0 v (((List.range n).map g).map cn) :: os) fs := by
  have h := Seals.own_cong (os := own1 v 2 n e :: os) (fs := fs) 0 (n' := (((List.range n).map g).map cn).length) (fun i => J ((((List.range n).map g).map cn).getD i z0)) rfl (by simp) fun i hi => by rw [he i hi, range_cn g hi]; rfl
  exact h
theorem zero_zd : I false [] = zd 0 := zd_zero.symm
theorem upd_if {g : Nat → Int} {i : Nat} (y : Nat) : upd (fun y => if y < i then zd (g y) else I false []) i (zd (g i)) y = if y < i + 1 then zd (g y) else I false [] := by
  unfold upd
  by_cases hy : y = i
  · subst hy
    rw [if_pos rfl, if_pos (by omega)]
  · by_cases hy2 : y < i
    · rw [if_neg hy, if_pos (show y < i + 1 by omega)]; exact if_pos hy2
    · rw [if_neg hy, if_neg (show ¬ y < i + 1 by omega)]; exact if_neg hy2
theorem pNormO_meets (v : Value) (p : Row) (hp : Fit 137438953472 p) (lp : p.length ≤ 1099511627776) :
    Meets Tryz.prog 81 [v] [(v, V p)] (fun r os fs => isSl r ∧ os = [ownL 2 J z0 r ((nrm (vv p)).map cn)] ∧ fs = []) := by
  refine meets_of_vc Tryz.func81 (by kernel_rfl) rfl (by kernel_rfl) (Nat.le_of_ble_eq_true rfl) ?_
  refine len_fact qM fun _ => ?_
  refine loop_rule (X := Nat) (fun n => ([(0, v), (3, .int .i64 (n : Nat))], [], [(v, V p)])) (fun n => n ≤ p.length ∧ ∀ j, n ≤ j → j < p.length → (vv p).getD j 0 = 0) (fun n => n) rfl ?_ ?_
  · exact again p.length ⟨Nat.le_refl _, fun j h1 h2 => by omega⟩ trivial qF (Seals.sub qS)
  · rintro n ⟨h1, h2⟩
    have fin' : (n = 0 ∨ (vv p).getD (n - 1) 0 ≠ 0) → nrm (vv p) = (List.range n).map fun i => (vv p).getD i 0 := fun h => by
      rw [nrm_take (by rw [vv_len]; exact h1) (fun j hj => ?_) h, take_range _ (by rw [vv_len]; exact h1)]
      by_cases e : j < p.length
      · exact h2 j hj e
      · rw [List.getD_eq_getElem?_getD, List.getElem?_eq_none (by rw [vv_len]; omega)]; rfl
    refine cmp_split _ rfl (fun hn => ?_) (fun hn => ?_)
    · have hn' : n - 1 < p.length := by omega
      have hg := vv_get p (n - 1) hn'
      refine ar rfl qI ?_
      refine index_fact qM (n - 1) (by omega) hn' fun a1 => ?_
      refine load_fact (d := J (p.getD (n - 1) z0)) qM (load_J _) fun x1 => ?_
      refine call_fn (zsign_meets x1 (p.getD (n - 1) z0).1 (p.getD (n - 1) z0).2 (hp.get _).1 (hp.get _).2) (Seals.refl _ _) qS ?_
      rintro _ _ _ ⟨rfl, rfl, rfl⟩
      refine cmp_split _ rfl (fun hz => ?_) (fun hz => ?_)
      · refine ar rfl qI ?_
        refine again (n - 1) ⟨by omega, fun j h3 h4 => ?_⟩ (by simp only; omega) qF (Seals.sub qS)
        by_cases e : j = n - 1
        · rw [e, hg]; exact Int.sign_eq_zero_iff_zero.1 hz
        · exact h2 j (by omega) h4
      · have hfin := fin' (.inr (by rw [hg]; exact fun e => hz (Int.sign_eq_zero_iff_zero.2 e)))
        refine make_rule (t := 23) (d := I false []) n rfl rfl (by omega) (by omega) fun u hu => ?_
        refine loop_rule (X := Nat) (fun i => ([(0, v), (3, .int .i64 (n : Nat)), (4, u), (23, .int .i64 (n : Nat)), (24, .int .i64 (i : Nat))], [own1 u 2 n (fun y => if y < i then zd ((vv p).getD y 0) else I false [])], [(v, V p)])) (fun i => i ≤ n) (fun i => n - i) rfl ?_ ?_
        · exact again 0 (Nat.zero_le _) trivial qF (Seals.trans (Seals.own_cong (os := [_]) 0 _ rfl rfl fun y _ => (if_neg (Nat.not_lt_zero _)).symm) (Seals.sub qS))
        · rintro i hi
          refine cmp_split _ rfl (fun hlt => ?_) (fun hlt => ?_)
          · have hin : i < n := by omega
            have hpi := hp.get i
            have hgi := vv_get p i (by omega)
            refine index_fact (n := p.length) qM i rfl (by omega) fun b1 => ?_
            refine load_fact (d := J (p.getD i z0)) qM (load_J _) fun y1 => ?_
            have hnm := znorm_meets y1 (p.getD i z0).1 (p.getD i z0).2 hpi.1 (by omega)
            rw [show iv (p.getD i z0).1 (p.getD i z0).2 = (vv p).getD i 0 from hgi.symm] at hnm
            refine call_fn hnm (Seals.refl _ _) qS ?_
            rintro y2 _ _ ⟨rfl, rfl⟩
            refine index_elem 0 rfl hu i rfl hin ?_
            refine StoreK.post (store_elem (d := zd ((vv p).getD i 0)) 0 rfl i hin rfl (by kernel_rfl) (Reads.fact qM) ⟨_, _, Seals.own_cong (os := [_]) 0 (fun y => if y < i + 1 then zd ((vv p).getD y 0) else I false []) rfl rfl (fun y _ => upd_if y), ?_⟩)
            refine ar rfl qI ?_
            exact again (i + 1) (by omega) (by simp only; omega) qF (Seals.sub qS)
          · refine fin ⟨hu, rfl, rfl⟩ (Seals.trans (own_range (g := fun i => (vv p).getD i 0) fun y hy => if_pos (by omega)) ?_)
            rw [hfin]
            exact Seals.nil _ _
    · have hfin := fin' (.inl (by omega))
      refine make_rule (t := 23) (d := I false []) n rfl rfl (by omega) (by omega) fun u hu => ?_
      refine loop_rule (X := Nat) (fun i => ([(0, v), (3, .int .i64 (n : Nat)), (4, u), (23, .int .i64 (n : Nat)), (24, .int .i64 (i : Nat))], [own1 u 2 n (fun y => if y < i then zd ((vv p).getD y 0) else I false [])], [(v, V p)])) (fun i => i ≤ n) (fun i => n - i) rfl ?_ ?_
      · exact again 0 (Nat.zero_le _) trivial qF (Seals.trans (Seals.own_cong (os := [_]) 0 _ rfl rfl fun y _ => (if_neg (Nat.not_lt_zero _)).symm) (Seals.sub qS))
      · rintro i hi
        refine cmp_split _ rfl (fun hlt => ?_) (fun hlt => ?_)
        · have hin : i < n := by omega
          have hpi := hp.get i
          have hgi := vv_get p i (by omega)
          refine index_fact (n := p.length) qM i rfl (by omega) fun b1 => ?_
          refine load_fact (d := J (p.getD i z0)) qM (load_J _) fun y1 => ?_
          have hnm := znorm_meets y1 (p.getD i z0).1 (p.getD i z0).2 hpi.1 (by omega)
          rw [show iv (p.getD i z0).1 (p.getD i z0).2 = (vv p).getD i 0 from hgi.symm] at hnm
          refine call_fn hnm (Seals.refl _ _) qS ?_
          rintro y2 _ _ ⟨rfl, rfl⟩
          refine index_elem 0 rfl hu i rfl hin ?_
          refine StoreK.post (store_elem (d := zd ((vv p).getD i 0)) 0 rfl i hin rfl (by kernel_rfl) (Reads.fact qM) ⟨_, _, Seals.own_cong (os := [_]) 0 (fun y => if y < i + 1 then zd ((vv p).getD y 0) else I false []) rfl rfl (fun y _ => upd_if y), ?_⟩)
          refine ar rfl qI ?_
          exact again (i + 1) (by omega) (by simp only; omega) qF (Seals.sub qS)
        · refine fin ⟨hu, rfl, rfl⟩ (Seals.trans (own_range (g := fun i => (vv p).getD i 0) fun y hy => if_pos (by omega)) ?_)
          rw [hfin]
          exact Seals.nil _ _
end Go.Proofs.YtgpcepcbdpigfaaGreat
namespace Go.Proofs.YtgpcepcbdpigfaaGreat
def Nm (l : List Int) : Prop := nrm l = l
theorem Nm.nil : Nm [] := rfl
theorem Nm.nrm (l : List Int) : Nm (nrm l) := nrm_nrm l
theorem Nm.ext {l m : List Int} (hl : Nm l) (hm : Nm m) (h : ∀ x, pev l x = pev m x) : l = m := by rw [← hl, ← hm]; exact ev_ext h
def lst (n : Nat) (f : Nat → Int) : List Int := (List.range n).map f
theorem lst_len (n : Nat) (f : Nat → Int) : (lst n f).length = n := by simp [lst]
theorem lst_get {n : Nat} {f : Nat → Int} {i : Nat} (h : i < n) : (lst n f).getD i 0 = f i := by simp [lst, List.getD_eq_getElem?_getD, h]
theorem lst_get' (n : Nat) (f : Nat → Int) (i : Nat) : (lst n f).getD i 0 = if i < n then f i else 0 := by
  by_cases h : i < n
  · rw [lst_get h, if_pos h]
  · rw [if_neg h, List.getD_eq_getElem?_getD, List.getElem?_eq_none (by rw [lst_len]; omega)]; rfl
theorem lst_congr {n : Nat} {f g : Nat → Int} (h : ∀ i, i < n → f i = g i) : lst n f = lst n g := List.map_congr_left fun i hi => h i (List.mem_range.1 hi)
theorem mem_lst {n : Nat} {f : Nat → Int} {x : Int} (h : x ∈ lst n f) : ∃ i, i < n ∧ x = f i := by
  obtain ⟨i, h1, h2⟩ := List.mem_map.1 h
  exact ⟨i, List.mem_range.1 h1, h2.symm⟩
theorem lst_succ (n : Nat) (f : Nat → Int) : lst (n + 1) f = f 0 :: lst n fun i => f (i + 1) := by
  simp [lst, List.range_succ_eq_map, Function.comp_def]
theorem getD_none {l : List Int} {i : Nat} (h : l.length ≤ i) : l.getD i 0 = 0 := by rw [List.getD_eq_getElem?_getD, List.getElem?_eq_none h]; rfl
theorem ev_lst_succ (n : Nat) (f : Nat → Int) (x : Int) : pev (lst (n + 1) f) x = f 0 + x * pev (lst n fun i => f (i + 1)) x := by rw [lst_succ]; rfl
theorem ev_lst_add (n : Nat) (f g : Nat → Int) (x : Int) : pev (lst n fun i => f i + g i) x = pev (lst n f) x + pev (lst n g) x := by
  induction n generalizing f g with
  | zero => rfl
  | succ n ih => rw [ev_lst_succ, ev_lst_succ, ev_lst_succ, ih]; grind
theorem ev_lst_mul (n : Nat) (c : Int) (f : Nat → Int) (x : Int) : pev (lst n fun i => c * f i) x = c * pev (lst n f) x := by
  induction n generalizing f with
  | zero => simp [lst, pev]
  | succ n ih => rw [ev_lst_succ, ev_lst_succ, ih]; grind
theorem ev_lst_zero (n : Nat) (x : Int) : pev (lst n fun _ => 0) x = 0 := by
  induction n with
  | zero => rfl
  | succ n ih => rw [ev_lst_succ, ih]; simp
theorem ev_lst {l : List Int} {n : Nat} (h : l.length ≤ n) (x : Int) : pev (lst n fun i => l.getD i 0) x = pev l x := ev_getD h x
def up (s : Nat) (l : List Int) : List Int := List.replicate s 0 ++ l
theorem ev_up (s : Nat) (l : List Int) (x : Int) : pev (up s l) x = x ^ s * pev l x := by
  rw [up, ev_append, ev_replicate, List.length_replicate]; simp
theorem up_len (s : Nat) (l : List Int) : (up s l).length = s + l.length := by simp [up]
theorem up_get (s : Nat) (l : List Int) (i : Nat) : (up s l).getD i 0 = if i < s then 0 else l.getD (i - s) 0 := by
  unfold up
  by_cases h : i < s
  · rw [if_pos h, List.getD_eq_getElem?_getD, List.getElem?_append_left (by simpa using h)]; simp [h]
  · rw [if_neg h, List.getD_eq_getElem?_getD, List.getElem?_append_right (by simpa using Nat.le_of_not_lt h)]; simp [List.getD_eq_getElem?_getD]
theorem up_lst (s n : Nat) (f : Nat → Int) : up s (lst n f) = lst (s + n) fun i => if i < s then 0 else f (i - s) := by
  refine List.ext_getElem? fun i => ?_
  by_cases h : i < s + n
  · rw [List.getElem?_eq_getElem (by rw [up_len, lst_len]; exact h), List.getElem?_eq_getElem (by rw [lst_len]; exact h)]
    have h1 := up_get s (lst n f) i
    have h2 := lst_get (n := s + n) (f := fun i => if i < s then 0 else f (i - s)) h
    rw [List.getD_eq_getElem?_getD, List.getElem?_eq_getElem (by rw [up_len, lst_len]; exact h)] at h1
    rw [List.getD_eq_getElem?_getD, List.getElem?_eq_getElem (by rw [lst_len]; exact h)] at h2
    simp only [Option.getD_some] at h1 h2
    rw [h1, h2]
    by_cases hs : i < s
    · simp [hs]
    · simp only [hs, if_false]; rw [lst_get (by omega)]
  · rw [List.getElem?_eq_none (by rw [up_len, lst_len]; omega), List.getElem?_eq_none (by rw [lst_len]; omega)]
def padd (l m : List Int) : List Int := nrm (lst (max l.length m.length) fun i => l.getD i 0 + m.getD i 0)
def psub (l m : List Int) : List Int := nrm (lst (max l.length m.length) fun i => l.getD i 0 - m.getD i 0)
def ptim (c : Int) (l : List Int) : List Int := nrm (l.map fun y => c * y)
def prai (c : Int) (s : Nat) (l : List Int) : List Int := nrm (up s (l.map fun y => c * y))
theorem ev_padd (l m : List Int) (x : Int) : pev (padd l m) x = pev l x + pev m x := by
  rw [padd, ev_nrm, ev_lst_add, ev_lst (Nat.le_max_left _ _), ev_lst (Nat.le_max_right _ _)]
theorem ev_psub (l m : List Int) (x : Int) : pev (psub l m) x = pev l x - pev m x := by
  have e : (fun i => l.getD i 0 - m.getD i 0) = fun i => l.getD i 0 + (-1) * m.getD i 0 := funext fun i => by omega
  rw [psub, ev_nrm, e, ev_lst_add, ev_lst_mul, ev_lst (Nat.le_max_left _ _), ev_lst (Nat.le_max_right _ _)]; omega
theorem ev_ptim (c : Int) (l : List Int) (x : Int) : pev (ptim c l) x = c * pev l x := by rw [ptim, ev_nrm, ev_map_mul]
theorem ev_prai (c : Int) (s : Nat) (l : List Int) (x : Int) : pev (prai c s l) x = x ^ s * (c * pev l x) := by rw [prai, ev_nrm, ev_up, ev_map_mul]
theorem ev_lst_isum (n m : Nat) (f : Nat → Nat → Int) (x : Int) : pev (lst n fun y => isum (fun t => f t y) m) x = isum (fun t => pev (lst n (f t)) x) m := by
  induction m with
  | zero => exact ev_lst_zero n x
  | succ m ih => simp only [isum]; rw [ev_lst_add, ih]
theorem ev_isum (l : List Int) (x : Int) : pev l x = isum (fun i => l.getD i 0 * x ^ i) l.length := by
  have : ∀ (l : List Int), pev l x = isum (fun i => l.getD i 0 * x ^ i) l.length := by
    intro l
    have h : ∀ n, n ≤ l.length → pev (l.take n) x = isum (fun i => l.getD i 0 * x ^ i) n := by
      intro n
      induction n with
      | zero => intro _; rfl
      | succ n ih => intro hn; rw [ev_take_succ (by omega), ih (by omega), isum, Int.mul_comm]
    have := h l.length (Nat.le_refl _)
    rwa [List.take_length] at this
  exact this l
def conv (a b : List Int) (m y : Nat) : Int := isum (fun t => if t ≤ y then a.getD t 0 * b.getD (y - t) 0 else 0) m
def pmul (l m : List Int) : List Int :=
  let a := nrm l
  let b := nrm m
  if a = [] ∨ b = [] then [] else nrm (lst (a.length + b.length - 1) fun y => conv a b a.length y)
theorem ev_shifted (b : List Int) (t n : Nat) (h : t + b.length ≤ n) (c x : Int) : pev (lst n fun y => if t ≤ y then c * b.getD (y - t) 0 else 0) x = c * x ^ t * pev b x := by
  have e : pev (lst n fun y => if t ≤ y then c * b.getD (y - t) 0 else 0) x = pev (up t (b.map fun y => c * y)) x := by
    refine ev_of_nrm (nrm_ext fun i => ?_) x
    rw [up_get, lst_get']
    by_cases h1 : i < t
    · rw [if_pos h1, if_neg (by omega : ¬ t ≤ i)]; split <;> rfl
    · rw [if_neg h1]
      by_cases h2 : i < n
      · rw [if_pos h2, if_pos (by omega)]
        simp [List.getD_eq_getElem?_getD]
        cases b[i - t]? <;> simp
      · rw [if_neg h2, getD_none]; rw [List.length_map]; omega
  rw [e, ev_up, ev_map_mul]; grind
theorem ev_conv (a b : List Int) (x : Int) (hb : b ≠ []) (ha : a ≠ []) : pev (lst (a.length + b.length - 1) fun y => conv a b a.length y) x = pev a x * pev b x := by
  unfold conv
  rw [ev_lst_isum]
  have h : ∀ t, t < a.length → pev (lst (a.length + b.length - 1) fun y => if t ≤ y then a.getD t 0 * b.getD (y - t) 0 else 0) x = pev b x * (a.getD t 0 * x ^ t) := fun t ht => by
    rw [ev_shifted b t _ (by have := List.length_pos_iff.2 hb; omega)]; grind
  rw [isum_congr h, isum_mul, ← ev_isum, Int.mul_comm]
theorem ev_pmul (l m : List Int) (x : Int) : pev (pmul l m) x = pev l x * pev m x := by
  unfold pmul
  simp only
  split
  · rename_i h
    rcases h with h | h
    · rw [← ev_nrm l, h]; simp [pev]
    · rw [← ev_nrm m, h]; simp [pev]
  · rename_i h
    rw [ev_nrm, ev_conv _ _ _ (fun e => h (.inr e)) (fun e => h (.inl e)), ev_nrm, ev_nrm]
theorem padd_nm (l m : List Int) : Nm (padd l m) := nrm_nrm _
theorem psub_nm (l m : List Int) : Nm (psub l m) := nrm_nrm _
theorem ptim_nm (c : Int) (l : List Int) : Nm (ptim c l) := nrm_nrm _
theorem prai_nm (c : Int) (s : Nat) (l : List Int) : Nm (prai c s l) := nrm_nrm _
theorem pmul_nm (l m : List Int) : Nm (pmul l m) := by unfold pmul; simp only; split; exact rfl; exact nrm_nrm _
open Go.RowKit
theorem info_psl : (Tryz.prog.info? 23).map (fun i => (i.zero, i.size, i.bytes)) = some (some (.slice none 0 0), 1, 24) := by kernel_rfl
instance : TEl Tryz.prog 23 1 24 := tel info_psl rfl (by decide)
instance : TSl Tryz.prog 51 23 1 := ⟨Tryz.underlying51, by kernel_rfl⟩
theorem lit2_L {α : Type} {P : Program} {t e : TypeId} {size bytes : Nat} {os : List Own} {fs : List Fact} {K : Cont} [ht : TSl P t e size] [he : TEl P e size bytes] {x y : Value} (f : α → Dat) (z : α) (a b : α) (hsz : size ≤ 16) (hx : Reads os fs x (f a)) (hy : Reads os fs y (f b)) (hc : (f a).cells = size) (hc' : (f b).cells = size)
    (k : ∀ v, K v os ((v, LD size f z [a, b]) :: fs)) : BuildSliceK P t 2 [(0, x), (1, y)] os fs K := by
  have h1 := buildSlice_fact (P := P) (t := t) (os := os) (fs := fs) (K := fun u os' fs' => ∃ os'' fs'', Seals os' fs' os'' fs'' ∧ K u os'' fs'') (n := 2) [x, y] [f a, f b] rfl rfl (by decide) hsz ⟨hx, hc, hy, hc', trivial⟩
  refine ⟨Grw.sealed (h1 fun v => ⟨_, _, ?_, k v⟩).out⟩
  exact Seals.knw_cong rfl fun i hi => by
    have : i = 0 ∨ i = 1 := by omega
    rcases this with rfl | rfl <;> rfl
theorem pNorm_meets (v : Value) (p : Row) (hp : Fit 137438953472 p) (lp : p.length ≤ 1099511627776) :
    Meets Tryz.prog 81 [v] [(v, V p)] (fun r os fs => os = [] ∧ fs = [(r, vd (nrm (vv p)))]) :=
  (pNormO_meets v p hp lp).closed fun r os fs ⟨h1, h2, h3⟩ => ⟨_, _, ⟨rfl, rfl⟩, by
    subst h2 h3
    exact Seals.toldL h1⟩
theorem szR.fit {k : Nat} {l : List Int} (h : szR k l) : Fit k (l.map cn) := Fit_cn h
theorem szR.mono {k k' : Nat} {l : List Int} (h : szR k l) (hk : k ≤ k') : szR k' l := fun x hx => (h x hx).mono hk
theorem szR.get {k : Nat} {l : List Int} (h : szR k l) (i : Nat) : sz (l.getD i 0) k := by
  by_cases hi : i < l.length
  · exact h _ (getD_mem 0 hi)
  · rw [getD_none (by omega)]; exact sz_zero _
theorem Fit.szR {k : Nat} {p : Row} (h : Fit k p) : Go.Proofs.YtgpcepcbdpigfaaGreat.szR k (vv p) := fun x hx => by
  obtain ⟨y, hy, rfl⟩ := List.mem_map.1 hx
  exact sz_jv (h y hy).1 (h y hy).2
theorem mem_nrm {l : List Int} {x : Int} (h : x ∈ nrm l) : x ∈ l := by
  induction l with
  | nil => exact h
  | cons c l ih =>
    rw [nrm_cons] at h
    split at h
    · simp at h
    · rcases List.mem_cons.1 h with rfl | h
      · exact .head _
      · exact .tail _ (ih h)
theorem szR.nrm {k : Nat} {l : List Int} (h : szR k l) : szR k (nrm l) := fun x hx => h x (mem_nrm hx)
theorem szR.lst {k n : Nat} {f : Nat → Int} (h : ∀ i, i < n → sz (f i) k) : szR k (lst n f) := fun x hx => by
  obtain ⟨i, hi, rfl⟩ := mem_lst hx
  exact h i hi
theorem pNormT (v : Value) (l : List Int) (hl : szR 137438953472 l) (ll : l.length ≤ 1099511627776) :
    Meets Tryz.prog 81 [v] [(v, vd l)] (fun r os fs => os = [] ∧ fs = [(r, vd (nrm l))]) := by
  have h := pNorm_meets v (l.map cn) hl.fit (by rw [List.length_map]; exact ll)
  rw [vv_cn] at h
  exact h
theorem pNormOT (v : Value) (l : List Int) (hl : szR 137438953472 l) (ll : l.length ≤ 1099511627776) :
    Meets Tryz.prog 81 [v] [(v, vd l)] (fun r os fs => isSl r ∧ os = [ownL 2 J z0 r ((nrm l).map cn)] ∧ fs = []) := by
  have h := pNormO_meets v (l.map cn) hl.fit (by rw [List.length_map]; exact ll)
  rw [vv_cn] at h
  exact h
theorem pLead_meets (v : Value) (p : Row) :
    Meets Tryz.prog 104 [v] [(v, V p)] (fun r os fs => os = [] ∧ fs = [(r, J (p.getD (p.length - 1) z0))]) := by
  refine meets_of_vc Tryz.func104 (by kernel_rfl) rfl (by kernel_rfl) (Nat.le_of_ble_eq_true rfl) ?_
  refine alloc_rule (d := I false []) fun o ho => ?_
  refine len_fact qM fun _ => ?_
  refine cmp_split _ rfl (fun h => ?_) (fun h => ?_)
  · have h0 : p = [] := List.length_eq_zero_iff.1 (by omega)
    subst h0
    refine build0 (da := .one (.bool false)) (db := U []) (fun S w => ⟨[.bool false], [.slice none 0 0], rfl, rd_false S w, rd_nil S w 1 _⟩) fun z => ?_
    refine store_box (d := J z0) 0 rfl ho rfl (by kernel_rfl) ?_ ?_; exact Reads.fact qM
    refine load_box (d := J z0) 0 rfl ho rfl (load_J _) fun r => ?_
    exact fin ⟨rfl, rfl⟩ (Seals.trans (Seals.drop 0 _ _) (Seals.sub qS))
  · refine len_fact qM fun _ => ?_
    refine ar rfl qI ?_
    refine index_fact qM (p.length - 1) (by omega) (by omega) fun a1 => ?_
    refine load_fact (d := J (p.getD (p.length - 1) z0)) qM (load_J _) fun x1 => ?_
    refine store_box (d := J (p.getD (p.length - 1) z0)) 0 rfl ho rfl (by kernel_rfl) ?_ ?_; exact Reads.fact qM
    refine load_box (d := J (p.getD (p.length - 1) z0)) 0 rfl ho rfl (load_J _) fun r => ?_
    exact fin ⟨rfl, rfl⟩ (Seals.trans (Seals.drop 0 _ _) (Seals.sub qS))
theorem pLeadT (v : Value) (l : List Int) (h0 : l ≠ []) :
    Meets Tryz.prog 104 [v] [(v, vd l)] (fun r os fs => os = [] ∧ fs = [(r, zd (l.getD (l.length - 1) 0))]) := by
  have h := pLead_meets v (l.map cn)
  have h1 : 0 < l.length := List.length_pos_iff.2 h0
  rw [List.length_map, map_cn_get (by omega)] at h
  exact h
theorem rai_0 (s : Nat) (c : Int) (g : Nat → Int) (y : Nat) : I false [] = zd (if y < s then 0 else if y < s + 0 then c * g (y - s) else 0) := by
  rw [zero_zd]
  congr 1
  by_cases h1 : y < s
  · rw [if_pos h1]
  · rw [if_neg h1, if_neg (by omega)]
theorem rai_n (s n : Nat) (c : Int) (g : Nat → Int) (y : Nat) (hy : y < s + n) : zd (if y < s then 0 else if y < s + n then c * g (y - s) else 0) = zd (if y < s then 0 else c * g (y - s)) := by
  congr 1
  by_cases h1 : y < s
  · rw [if_pos h1, if_pos h1]
  · rw [if_neg h1, if_neg h1, if_pos hy]
theorem upd_zd {G H : Nat → Int} {j : Nat} {v : Int} (h1 : H j = v) (h2 : ∀ y, y ≠ j → G y = H y) (y : Nat) : upd (fun y => zd (G y)) j (zd v) y = zd (H y) := by
  unfold upd
  by_cases hy : y = j
  · subst hy
    rw [if_pos rfl, h1]
  · rw [if_neg hy]
    show zd (G y) = zd (H y)
    rw [h2 y hy]
theorem rai_s (s i : Nat) (c : Int) (g : Nat → Int) (y : Nat) : upd (fun y => zd (if y < s then 0 else if y < s + i then c * g (y - s) else 0)) (s + i) (zd (c * g i)) y = zd (if y < s then 0 else if y < s + (i + 1) then c * g (y - s) else 0) :=
  upd_zd (G := fun y => if y < s then 0 else if y < s + i then c * g (y - s) else 0) (H := fun y => if y < s then 0 else if y < s + (i + 1) then c * g (y - s) else 0) (by
    rw [if_neg (by omega), if_pos (by omega), Nat.add_sub_cancel_left]) (fun y hy => by
    by_cases h1 : y < s
    · rw [if_pos h1, if_pos h1]
    · rw [if_neg h1, if_neg h1]
      by_cases h2 : y < s + i
      · rw [if_pos h2, if_pos (by omega)]
      · rw [if_neg h2, if_neg (by omega)]) y
theorem pRaisedJO (v w : Value) (p : Row) (cj : Bool × List Nat) (s : Nat) (k a : Nat) (hp : Fit k p) (hcl : Lim cj.2) (hca : cj.2.length ≤ a) (hk : k + a ≤ 137438953472) (lp : p.length ≤ 1073741824) (ls : s ≤ 1073741824) :
    Meets Tryz.prog 106 [v, w, .int .i64 (s : Nat)] [(v, V p), (w, J cj)] (fun r os fs => isSl r ∧ os = [ownL 2 J z0 r ((prai (jv cj) s (vv p)).map cn)] ∧ fs = []) := by
  have hc : sz (jv cj) a := sz_jv hcl hca
  obtain ⟨c, hcj⟩ : ∃ c, jv cj = c := ⟨_, rfl⟩
  rw [hcj] at hc ⊢
  have hel : ∀ i, i < p.length → sz (c * (vv p).getD i 0) (k + a) := fun i _ => by rw [Nat.add_comm]; exact hc.mul (hp.szR.get i)
  have hfin : prai c s (vv p) = nrm (lst (s + p.length) fun y => if y < s then 0 else c * (vv p).getD (y - s) 0) := by
    unfold prai
    rw [show (vv p).map (fun y => c * y) = lst p.length fun i => c * (vv p).getD i 0 from ?_, up_lst]
    refine List.ext_getElem? fun i => ?_
    by_cases hi : i < p.length
    · simp [lst, hi, vv_len, List.getD_eq_getElem?_getD]
    · simp [lst, hi, vv_len]
  have hszL : szR (k + a) (lst (s + p.length) fun y => if y < s then 0 else c * (vv p).getD (y - s) 0) := szR.lst fun i hi => by
    split
    · exact sz_zero _
    · exact hel _ (by omega)
  refine meets_of_vc Tryz.func106 (by kernel_rfl) rfl (by kernel_rfl) (Nat.le_of_ble_eq_true rfl) ?_
  refine box_fact (Reads.fact (d := J cj) qM) fun q => ?_
  refine len_fact qM fun _ => ?_
  refine ar rfl qI ?_
  refine make_rule (t := 23) (d := I false []) (s + p.length) (by omega) (by omega) (by omega) (by omega) fun u hu => ?_
  refine len_fact qM fun _ => ?_
  refine loop_rule (X := Nat) (fun i => ([(0, v), (2, .int .i64 (s : Nat)), (4, q), (7, u), (15, .int .i64 (p.length : Nat)), (16, .int .i64 (i : Nat))], [own1 u 2 (s + p.length) (fun y => zd (if y < s then 0 else if y < s + i then c * (vv p).getD (y - s) 0 else 0))], [(v, V p), (q, .ptr (J cj))])) (fun i => i ≤ p.length) (fun i => p.length - i) rfl ?_ ?_
  · exact again 0 (Nat.zero_le _) trivial qF (Seals.trans (Seals.own_cong (os := [_]) 0 _ rfl rfl fun y _ => rai_0 s c (fun i => (vv p).getD i 0) y) (Seals.sub qS))
  · rintro i hi
    refine cmp_split _ rfl (fun hlt => ?_) (fun hlt => ?_)
    · have hin : i < p.length := by omega
      have hpi := hp.get i
      have hgi := vv_get p i (by omega)
      refine draw_rule [0, 1, 2, 3, 4, 5, 6, 7, 8, 9, 10, 11] [0, 1, 2, 3, 4, 5, 6, 7, 8, 9, 10, 11] (by kernel_rfl) (by kernel_rfl) ?_
      refine ar rfl qI ?_
      refine load_fact (d := J cj) qM (load_J _) fun y1 => ?_
      refine index_fact qM i rfl hin fun b1 => ?_
      refine load_fact (d := J (p.getD i z0)) qM (load_J _) fun y2 => ?_
      have hmul := zMulJ y1 y2 cj (p.getD i z0) hcl (by omega) hpi.1 (by omega)
      rw [hcj, ← hgi] at hmul
      refine call_fn hmul (Seals.refl _ _) qS ?_
      rintro y3 _ _ ⟨rfl, rfl⟩
      refine index_elem 0 rfl hu (s + i) (by omega) (by omega) ?_
      refine StoreK.post (store_elem (d := zd (c * (vv p).getD i 0)) 0 rfl (s + i) (by omega) rfl (by kernel_rfl) (Reads.fact qM) ⟨_, _, Seals.own_cong (os := [_]) 0 (fun y => zd (if y < s then 0 else if y < s + (i + 1) then c * (vv p).getD (y - s) 0 else 0)) rfl rfl (fun y _ => rai_s s i c (fun i => (vv p).getD i 0) y), ?_⟩)
      refine ar rfl qI ?_
      exact again (i + 1) (by omega) (by simp only; omega) qF (Seals.sub qS)
    · have hip : i = p.length := by omega
      subst hip
      have hn := pNormOT u (lst (s + p.length) fun y => if y < s then 0 else c * (vv p).getD (y - s) 0) (hszL.mono hk) (by rw [lst_len]; omega)
      rw [← hfin] at hn
      refine call_fn hn (Seals.told (g := fun y => if y < s then 0 else c * (vv p).getD (y - s) 0) hu fun y hy => rai_n s _ c (fun i => (vv p).getD i 0) y hy) qS ?_
      rintro r _ _ ⟨hr, rfl, rfl⟩
      exact fin ⟨hr, rfl, rfl⟩ (Seals.nil _ _)
theorem pRaisedJ (v w : Value) (p : Row) (cj : Bool × List Nat) (s : Nat) (k a : Nat) (hp : Fit k p) (hcl : Lim cj.2) (hca : cj.2.length ≤ a) (hk : k + a ≤ 137438953472) (lp : p.length ≤ 1073741824) (ls : s ≤ 1073741824) :
    Meets Tryz.prog 106 [v, w, .int .i64 (s : Nat)] [(v, V p), (w, J cj)] (fun r os fs => os = [] ∧ fs = [(r, vd (prai (jv cj) s (vv p)))]) :=
  (pRaisedJO v w p cj s k a hp hcl hca hk lp ls).closed fun r os fs ⟨h1, h2, h3⟩ => ⟨_, _, ⟨rfl, rfl⟩, by subst h2 h3; exact Seals.toldL h1⟩
theorem pRaised_meets (v w : Value) (p : Row) (c : Int) (s : Nat) (k a : Nat) (hp : Fit k p) (hc : sz c a) (hk : k + a ≤ 137438953472) (lp : p.length ≤ 1073741824) (ls : s ≤ 1073741824) :
    Meets Tryz.prog 106 [v, w, .int .i64 (s : Nat)] [(v, V p), (w, zd c)] (fun r os fs => os = [] ∧ fs = [(r, vd (prai c s (vv p)))]) := by
  have h := pRaisedJ v w p (cn c) s k a hp (Lim_lims _) hc.len hk lp ls
  rw [jv_cn] at h
  exact h
theorem pRaisedT (v w : Value) (l : List Int) (c : Int) (s : Nat) (k a : Nat) (hp : szR k l) (hc : sz c a) (hk : k + a ≤ 137438953472) (lp : l.length ≤ 1073741824) (ls : s ≤ 1073741824) :
    Meets Tryz.prog 106 [v, w, .int .i64 (s : Nat)] [(v, vd l), (w, zd c)] (fun r os fs => os = [] ∧ fs = [(r, vd (prai c s l))]) := by
  have h := pRaised_meets v w (l.map cn) c s k a hp.fit hc hk (by rw [List.length_map]; exact lp) ls
  rw [vv_cn] at h
  exact h
open Go.RowKit
theorem load_elem' {P : Program} {t : TypeId} {v : Value} {size n : Nat} {e : Nat → Dat} {os : List Own} {fs : List Fact} {K : Cont} (pos : Nat) (h : nthOwn os pos = some (own1 v size n e)) (j : Nat)
    (hj : j < n) {d : Dat} (hd : e j = d) (ht : LoadAs P t d) (k' : ∀ u, K u os ((u, d) :: fs)) : LoadK P t (eptr v (j * size)) os fs K := by
  subst hd
  exact load_elem pos h j hj ht k'
theorem zAddJ (v w : Value) (x y : Bool × List Nat) (hx : Lim x.2) (lx : x.2.length ≤ 137438953472) (hy : Lim y.2) (ly : y.2.length ≤ 137438953472) :
    Meets Tryz.prog 29 [v, w] [(v, J x), (w, J y)] (fun r os fs => os = [] ∧ fs = [(r, zd (jv x + jv y))]) := zadd_meets v w x.1 y.1 x.2 y.2 hx hy lx ly
def sumco (ps : List Row) (i y : Nat) : Int := isum (fun t => (vv (ps.getD t [])).getD y 0) i
theorem sumco_sz {ps : List Row} {k i : Nat} (h : Fits k ps) (hi : i < 18446744073709551616) (y : Nat) : sz (sumco ps i y) (k + 1) := isum_sz (fun t _ => (h.get t).szR.get y) hi
def mxl (ps : List Row) : Nat → Nat
  | 0 => 0
  | i + 1 => max (mxl ps i) (ps.getD i []).length
theorem mxl_le {ps : List Row} {n m : Nat} (h : ∀ i, (ps.getD i []).length ≤ m) : mxl ps n ≤ m := by
  induction n with
  | zero => exact Nat.zero_le _
  | succ n ih => exact Nat.max_le.2 ⟨ih, h n⟩
theorem le_mxl {ps : List Row} {n i : Nat} (h : i < n) : (ps.getD i []).length ≤ mxl ps n := by
  induction n with
  | zero => omega
  | succ n ih =>
    by_cases e : i = n
    · subst e; exact Nat.le_max_right _ _
    · exact Nat.le_trans (ih (by omega)) (Nat.le_max_left _ _)
theorem sum_s (a b : Nat → Int) (j y : Nat) : upd (fun y => zd (a y + if y < j then b y else 0)) j (zd (a j + b j)) y = zd (a y + if y < j + 1 then b y else 0) :=
  upd_zd (G := fun y => a y + if y < j then b y else 0) (H := fun y => a y + if y < j + 1 then b y else 0) (by
    rw [if_pos (by omega)]) (fun y hy => by
    by_cases h2 : y < j
    · rw [if_pos h2, if_pos (by omega)]
    · rw [if_neg h2, if_neg (by omega)]) y
theorem pSumO_meets (v : Value) (ps : List Row) (k : Nat) (hf : Fits k ps) (hk : k + 1 ≤ 137438953472) (lp : ps.length ≤ 1048576) (ln : ∀ i, (ps.getD i []).length ≤ 4294967296) :
    Meets Tryz.prog 105 [v] [(v, W ps)] (fun r os fs => isSl r ∧ os = [ownL 2 J z0 r ((nrm (lst (mxl ps ps.length) (sumco ps ps.length))).map cn)] ∧ fs = []) := by
  have hM : mxl ps ps.length ≤ 4294967296 := mxl_le ln
  have hss : ∀ i y, i ≤ ps.length → sz (sumco ps i y) (k + 1) := fun i y hi => sumco_sz hf (by omega) y
  have hle : ∀ i, i < ps.length → (ps.getD i []).length ≤ mxl ps ps.length := fun i hi => le_mxl hi
  generalize hMe : mxl ps ps.length = M at *
  refine meets_of_vc Tryz.func105 (by kernel_rfl) rfl (by kernel_rfl) (Nat.le_of_ble_eq_true rfl) ?_
  refine len_fact qM fun _ => ?_
  refine loop_rule (X := Nat) (fun i => ([(0, v), (3, .int .i64 (mxl ps i : Nat)), (11, v), (12, .int .i64 (ps.length : Nat)), (13, .int .i64 (i : Nat))], [], [(v, W ps)])) (fun i => i ≤ ps.length) (fun i => ps.length - i) rfl ?_ ?_
  · exact again 0 (Nat.zero_le _) trivial qF (Seals.sub qS)
  · rintro i hi
    refine cmp_split _ rfl (fun hlt => ?_) (fun hlt => ?_)
    · have hin : i < ps.length := by omega
      refine index_fact qM i rfl hin fun a1 => ?_
      refine load_fact (d := V (ps.getD i [])) qM (load_P _) fun x1 => ?_
      refine len_fact qM fun _ => ?_
      refine max2_rule ?_
      refine ar rfl qI ?_
      have hmx : mxl ps (i + 1) = max (mxl ps i) (ps.getD i []).length := rfl
      exact again (i + 1) (by omega) (by simp only; omega) qF (Seals.sub qS)
    · have hip : i = ps.length := by omega
      subst hip
      rw [hMe]
      refine make_rule (t := 23) (d := I false []) M rfl rfl (by omega) (by omega) fun u hu => ?_
      refine len_fact qM fun _ => ?_
      refine loop_rule (X := Nat) (fun i => ([(6, u), (24, v), (25, .int .i64 (ps.length : Nat)), (26, .int .i64 (i : Nat))], [own1 u 2 M (fun y => zd (sumco ps i y))], [(v, W ps)])) (fun i => i ≤ ps.length) (fun i => ps.length - i) rfl ?_ ?_
      · exact again 0 (Nat.zero_le _) trivial qF (Seals.trans (Seals.own_cong (os := [_]) 0 (fun y => zd (sumco ps 0 y)) rfl rfl fun y _ => zero_zd) (Seals.sub qS))
      · rintro i hi
        refine cmp_split _ rfl (fun hlt => ?_) (fun hlt => ?_)
        · have hin : i < ps.length := by omega
          have hli := hle i hin
          have hfi := hf.get i
          refine index_fact qM i rfl hin fun a1 => ?_
          refine load_fact (d := V (ps.getD i [])) qM (load_P _) fun x1 => ?_
          refine len_fact qM fun _ => ?_
          have hnext : ∀ y, sumco ps (i + 1) y = sumco ps i y + (vv (ps.getD i [])).getD y 0 := fun y => rfl
          generalize hp : ps.getD i [] = p at *
          refine loop_rule (X := Nat) (fun j => ([(6, u), (24, v), (25, .int .i64 (ps.length : Nat)), (26, .int .i64 (i : Nat)), (30, x1), (31, .int .i64 (p.length : Nat)), (32, .int .i64 (j : Nat))],
            [own1 u 2 M (fun y => zd (sumco ps i y + if y < j then (vv p).getD y 0 else 0))], [(v, W ps), (x1, V p)])) (fun j => j ≤ p.length) (fun j => p.length - j) rfl ?_ ?_
          · exact again 0 (Nat.zero_le _) trivial qF (Seals.trans (Seals.own_cong (os := [_]) 0 (fun y => zd (sumco ps i y + if y < 0 then (vv p).getD y 0 else 0)) rfl rfl fun y _ => by rw [if_neg (Nat.not_lt_zero _), Int.add_zero]) (Seals.sub qS))
          · rintro j hj
            refine cmp_split _ rfl (fun hlj => ?_) (fun hlj => ?_)
            · have hjn : j < p.length := by omega
              have hpj := hfi.get j
              have hgj := vv_get p j hjn
              have hsj := hss i j hi
              refine index_fact qM j rfl hjn fun b1 => ?_
              refine load_fact (d := J (p.getD j z0)) qM (load_J _) fun y1 => ?_
              refine alloc_rule (d := I false []) fun q hq => ?_
              refine store_box (d := J (p.getD j z0)) 0 rfl hq rfl (by kernel_rfl) ?_ ?_; exact Reads.fact qM
              refine draw_rule [0, 1, 2, 3, 4, 5, 6, 7, 8, 9] [0, 1, 2, 3, 4, 5, 6, 7, 8, 9] (by kernel_rfl) (by kernel_rfl) ?_
              refine index_elem 1 rfl hu j rfl (by omega) ?_
              refine load_elem' (d := zd (sumco ps i j)) 1 rfl j (by omega) (by simp) (load_I _ _) fun y2 => ?_
              refine load_box (d := J (p.getD j z0)) 0 rfl hq rfl (load_J _) fun y3 => ?_
              have hadd := zAddJ y2 y3 (cn (sumco ps i j)) (p.getD j z0) (Lim_lims _) (Nat.le_trans hsj.len (by omega)) hpj.1 (by omega)
              rw [jv_cn, ← hgj] at hadd
              refine call_fn hadd (Seals.refl _ _) qS ?_
              rintro y4 _ _ ⟨rfl, rfl⟩
              refine index_elem 1 rfl hu j rfl (by omega) ?_
              refine StoreK.post (store_elem (d := zd (sumco ps i j + (vv p).getD j 0)) 1 rfl j (by omega) rfl (by kernel_rfl) (Reads.fact qM) ⟨_, _, Seals.own_cong (os := [_, _]) 1 (fun y => zd (sumco ps i y + if y < j + 1 then (vv p).getD y 0 else 0)) rfl rfl (fun y _ => sum_s (sumco ps i) (fun y => (vv p).getD y 0) j y), ?_⟩)
              refine ar rfl qI ?_
              exact again (j + 1) (by omega) (by simp only; omega) qF (Seals.trans (Seals.drop 0 _ _) (Seals.sub qS))
            · have hend : ∀ y, zd (sumco ps i y + if y < j then (vv p).getD y 0 else 0) = zd (sumco ps (i + 1) y) := fun y => by
                rw [hnext]
                by_cases h2 : y < j
                · rw [if_pos h2]
                · rw [if_neg h2, getD_none (by rw [vv_len]; omega)]
              refine ar rfl qI ?_
              refine again (i + 1) (by omega) (by simp only; omega) qF (Seals.trans (Seals.own_cong (os := [_]) 0 (fun y => zd (sumco ps (i + 1) y)) rfl rfl fun y _ => hend y) (Seals.sub qS))
        · have hip : i = ps.length := by omega
          subst hip
          refine call_fn (pNormOT u (lst M (sumco ps ps.length)) (szR.lst fun y _ => (hss _ y (Nat.le_refl _)).mono hk) (by rw [lst_len]; omega)) (Seals.told (g := sumco ps ps.length) hu fun y hy => rfl) qS ?_
          rintro r _ _ ⟨hr, rfl, rfl⟩
          exact fin ⟨hr, rfl, rfl⟩ (Seals.nil _ _)
theorem padd_eq (p q : Row) : nrm (lst (mxl [p, q] 2) (sumco [p, q] 2)) = padd (vv p) (vv q) := by
  unfold padd
  have h1 : mxl [p, q] 2 = max (vv p).length (vv q).length := by
    rw [vv_len, vv_len]
    show max (max 0 p.length) q.length = _
    omega
  rw [h1]
  congr 1
  refine lst_congr fun i _ => ?_
  show 0 + (vv p).getD i 0 + (vv q).getD i 0 = _
  omega
theorem pSum2O_meets (v : Value) (p q : Row) (k : Nat) (hp : Fit k p) (hq : Fit k q) (hk : k + 1 ≤ 137438953472) (lp : p.length ≤ 4294967296) (lq : q.length ≤ 4294967296) :
    Meets Tryz.prog 105 [v] [(v, W [p, q])] (fun r os fs => isSl r ∧ os = [ownL 2 J z0 r ((padd (vv p) (vv q)).map cn)] ∧ fs = []) := by
  have h := pSumO_meets v [p, q] k (fun r hr => by
    rcases List.mem_cons.1 hr with rfl | hr
    · exact hp
    · rcases List.mem_cons.1 hr with rfl | hr
      · exact hq
      · simp at hr) hk (by show 2 ≤ 1048576; omega) (fun i => by
    match i with
    | 0 => exact lp
    | 1 => exact lq
    | i + 2 => show 0 ≤ _; omega)
  have e : nrm (lst (mxl [p, q] [p, q].length) (sumco [p, q] [p, q].length)) = padd (vv p) (vv q) := padd_eq p q
  rw [e] at h
  exact h
theorem pSum2_meets (v : Value) (p q : Row) (k : Nat) (hp : Fit k p) (hq : Fit k q) (hk : k + 1 ≤ 137438953472) (lp : p.length ≤ 4294967296) (lq : q.length ≤ 4294967296) :
    Meets Tryz.prog 105 [v] [(v, W [p, q])] (fun r os fs => os = [] ∧ fs = [(r, vd (padd (vv p) (vv q)))]) :=
  (pSum2O_meets v p q k hp hq hk lp lq).closed fun r os fs ⟨h1, h2, h3⟩ => ⟨_, _, ⟨rfl, rfl⟩, by subst h2 h3; exact Seals.toldL h1⟩
open Go.RowKit
theorem prai_zero (c : Int) (l : List Int) : prai c 0 l = ptim c l := rfl
theorem szR.map {k a : Nat} {c : Int} {l : List Int} (h : szR k l) (hc : sz c a) : szR (k + a) (l.map fun y => c * y) := fun x hx => by
  obtain ⟨y, hy, rfl⟩ := List.mem_map.1 hx
  rw [Nat.add_comm]; exact hc.mul (h y hy)
theorem szR.prai {k a : Nat} {c : Int} {l : List Int} (h : szR k l) (hc : sz c a) (s : Nat) : szR (k + a) (prai c s l) := szR.nrm fun x hx => by
  rcases List.mem_append.1 hx with h1 | h1
  · rw [(List.mem_replicate.1 h1).2]; exact sz_zero _
  · exact h.map hc x h1
theorem prai_len (c : Int) (s : Nat) (l : List Int) : (prai c s l).length ≤ s + l.length := Nat.le_trans (nrm_length_le _) (by rw [up_len, List.length_map]; exact Nat.le_refl _)
theorem szR.padd {k : Nat} {l m : List Int} (h : szR k l) (h' : szR k m) : szR (k + 1) (padd l m) := szR.nrm (szR.lst fun i _ => by
  have := sz_sub (h.get i) ((h'.get i).neg)
  rwa [Int.sub_neg] at this)
theorem padd_len (l m : List Int) : (padd l m).length ≤ max l.length m.length := Nat.le_trans (nrm_length_le _) (by rw [lst_len]; exact Nat.le_refl _)
theorem szR.psub {k : Nat} {l m : List Int} (h : szR k l) (h' : szR k m) : szR (k + 1) (psub l m) := szR.nrm (szR.lst fun i _ => sz_sub (h.get i) (h'.get i))
theorem psub_len (l m : List Int) : (psub l m).length ≤ max l.length m.length := Nat.le_trans (nrm_length_le _) (by rw [lst_len]; exact Nat.le_refl _)
theorem szR.neg {k : Nat} {l : List Int} (h : szR k l) : szR k (Go.Proofs.YtgpcepcbdpigfaaGreat.prai (-1) 0 l) := szR.nrm fun x hx => by
  rcases List.mem_append.1 hx with h1 | h1
  · rw [(List.mem_replicate.1 h1).2]; exact sz_zero _
  · obtain ⟨y, hy, rfl⟩ := List.mem_map.1 h1
    have := (h y hy).neg
    rwa [← Int.neg_one_mul] at this
theorem padd_neg (l m : List Int) : padd l (prai (-1) 0 m) = psub l m := (padd_nm _ _).ext (psub_nm _ _) fun x => by
  rw [ev_padd, ev_prai, ev_psub, Int.pow_zero]; omega
theorem sz_one (x : Int) (h : x.natAbs ≤ 1) : sz x 1 := by
  unfold sz; omega
theorem pTimesJO (v w : Value) (p : Row) (cj : Bool × List Nat) (k a : Nat) (hp : Fit k p) (hcl : Lim cj.2) (hca : cj.2.length ≤ a) (hk : k + a ≤ 137438953472) (lp : p.length ≤ 1073741824) :
    Meets Tryz.prog 69 [v, w] [(v, V p), (w, J cj)] (fun r os fs => isSl r ∧ os = [ownL 2 J z0 r ((ptim (jv cj) (vv p)).map cn)] ∧ fs = []) := by
  have hr := fun u => pRaisedJO v u p cj 0 k a hp hcl hca hk lp (by omega)
  simp only [prai_zero] at hr
  refine meets_of_vc Tryz.func69 (by kernel_rfl) rfl (by kernel_rfl) (Nat.le_of_ble_eq_true rfl) ?_
  refine box_fact (Reads.fact (d := J cj) qM) fun q => ?_
  refine load_fact (d := J cj) qM (load_J _) fun y1 => ?_
  refine call_fn (hr y1) (Seals.refl _ _) qS ?_
  rintro r _ _ ⟨hr, rfl, rfl⟩
  exact fin ⟨hr, rfl, rfl⟩ (Seals.nil _ _)
theorem pSubO_meets (v w : Value) (p q : Row) (k : Nat) (hp : Fit k p) (hq : Fit k q) (hk : k + 1 ≤ 137438953472) (lp : p.length ≤ 1073741824) (lq : q.length ≤ 1073741824) :
    Meets Tryz.prog 107 [v, w] [(v, V p), (w, V q)] (fun r os fs => isSl r ∧ os = [ownL 2 J z0 r ((psub (vv p) (vv q)).map cn)] ∧ fs = []) := by
  have hr := fun u => pRaised_meets w u q (-1) 0 k 1 hq (sz_one _ (by decide)) hk lq (by omega)
  have hs := fun u => pSum2O_meets u p ((prai (-1) 0 (vv q)).map cn) k hp hq.szR.neg.fit hk (by omega) (by
    have := prai_len (-1) 0 (vv q)
    rw [vv_len] at this
    rw [List.length_map]; omega)
  simp only [vv_cn, padd_neg] at hs
  refine meets_of_vc Tryz.func107 (by kernel_rfl) rfl (by kernel_rfl) (Nat.le_of_ble_eq_true rfl) ?_
  refine call_fn (zof_meets (-1) (by decide) (by decide)) (Seals.refl _ _) qS ?_
  rintro x1 _ _ ⟨rfl, rfl⟩
  refine call_fn (hr x1) (Seals.refl _ _) qS ?_
  rintro x2 _ _ ⟨rfl, rfl⟩
  refine lit2_L (size := 1) (f := V) (z := []) (e := 23) p ((prai (-1) 0 (vv q)).map cn) (by decide) (Reads.fact qM) (Reads.fact qM) rfl rfl fun x3 => ?_
  refine call_fn (hs x3) (Seals.refl _ _) qS ?_
  rintro r _ _ ⟨hr, rfl, rfl⟩
  exact fin ⟨hr, rfl, rfl⟩ (Seals.nil _ _)
theorem pSub_meets (v w : Value) (p q : Row) (k : Nat) (hp : Fit k p) (hq : Fit k q) (hk : k + 1 ≤ 137438953472) (lp : p.length ≤ 1073741824) (lq : q.length ≤ 1073741824) :
    Meets Tryz.prog 107 [v, w] [(v, V p), (w, V q)] (fun r os fs => os = [] ∧ fs = [(r, vd (psub (vv p) (vv q)))]) :=
  (pSubO_meets v w p q k hp hq hk lp lq).closed fun r os fs ⟨h1, h2, h3⟩ => ⟨_, _, ⟨rfl, rfl⟩, by subst h2 h3; exact Seals.toldL h1⟩
theorem pSubT (v w : Value) (l m : List Int) (k : Nat) (hl : szR k l) (hm : szR k m) (hk : k + 1 ≤ 137438953472) (ll : l.length ≤ 1073741824) (lm : m.length ≤ 1073741824) :
    Meets Tryz.prog 107 [v, w] [(v, vd l), (w, vd m)] (fun r os fs => os = [] ∧ fs = [(r, vd (psub l m))]) := by
  have h := pSub_meets v w (l.map cn) (m.map cn) k hl.fit hm.fit hk (by rw [List.length_map]; exact ll) (by rw [List.length_map]; exact lm)
  rw [vv_cn, vv_cn] at h
  exact h
theorem pSumT (v : Value) (l m : List Int) (k : Nat) (hl : szR k l) (hm : szR k m) (hk : k + 1 ≤ 137438953472) (ll : l.length ≤ 4294967296) (lm : m.length ≤ 4294967296) :
    Meets Tryz.prog 105 [v] [(v, W [l.map cn, m.map cn])] (fun r os fs => os = [] ∧ fs = [(r, vd (padd l m))]) := by
  have h := pSum2_meets v (l.map cn) (m.map cn) k hl.fit hm.fit hk (by rw [List.length_map]; exact ll) (by rw [List.length_map]; exact lm)
  rw [vv_cn, vv_cn] at h
  exact h
theorem pSubOT (v w : Value) (l m : List Int) (k : Nat) (hl : szR k l) (hm : szR k m) (hk : k + 1 ≤ 137438953472) (ll : l.length ≤ 1073741824) (lm : m.length ≤ 1073741824) :
    Meets Tryz.prog 107 [v, w] [(v, vd l), (w, vd m)] (fun r os fs => isSl r ∧ os = [ownL 2 J z0 r ((psub l m).map cn)] ∧ fs = []) := by
  have h := pSubO_meets v w (l.map cn) (m.map cn) k hl.fit hm.fit hk (by rw [List.length_map]; exact ll) (by rw [List.length_map]; exact lm)
  rw [vv_cn, vv_cn] at h
  exact h
theorem pRaisedOT (v w : Value) (l : List Int) (c : Int) (s : Nat) (k a : Nat) (hp : szR k l) (hc : sz c a) (hk : k + a ≤ 137438953472) (lp : l.length ≤ 1073741824) (ls : s ≤ 1073741824) :
    Meets Tryz.prog 106 [v, w, .int .i64 (s : Nat)] [(v, vd l), (w, zd c)] (fun r os fs => isSl r ∧ os = [ownL 2 J z0 r ((prai c s l).map cn)] ∧ fs = []) := by
  have h := pRaisedJO v w (l.map cn) (cn c) s k a hp.fit (Lim_lims _) hc.len hk (by rw [List.length_map]; exact lp) ls
  rw [vv_cn, jv_cn] at h
  exact h
theorem pTimesOT (v w : Value) (l : List Int) (c : Int) (k a : Nat) (hp : szR k l) (hc : sz c a) (hk : k + a ≤ 137438953472) (lp : l.length ≤ 1073741824) :
    Meets Tryz.prog 69 [v, w] [(v, vd l), (w, zd c)] (fun r os fs => isSl r ∧ os = [ownL 2 J z0 r ((ptim c l).map cn)] ∧ fs = []) := by
  have h := pTimesJO v w (l.map cn) (cn c) k a hp.fit (Lim_lims _) hc.len hk (by rw [List.length_map]; exact lp)
  rw [vv_cn, jv_cn] at h
  exact h
open Go.RowKit
theorem conv_succ (a b : List Int) (i y : Nat) : conv a b (i + 1) y = conv a b i y + if i ≤ y then a.getD i 0 * b.getD (y - i) 0 else 0 := rfl
theorem conv_sz {a b : List Int} {k l m : Nat} (ha : szR k a) (hb : szR l b) (hm : m < 18446744073709551616) (y : Nat) : sz (conv a b m y) (k + l + 1) := isum_sz (fun t _ => by
  split
  · exact (ha.get t).mul (hb.get _)
  · exact sz_zero _) hm
theorem ev_sz {l : List Int} {x : Int} {k a : Nat} (h : szR k l) (hx : sz x a) : sz (pev l x) (k + l.length * (a + 1)) := by
  induction l with
  | nil => exact sz_zero _
  | cons c l ih =>
    have h1 := ih fun y hy => h y (.tail _ hy)
    have h2 := hx.mul h1
    have h3 : sz c (a + (k + l.length * (a + 1))) := (h c (.head _)).mono (by omega)
    have h4 := sz_sub h3 h2.neg
    rw [Int.sub_neg] at h4
    refine h4.mono ?_
    rw [List.length_cons, Nat.succ_mul]; omega
theorem ev_drop {l : List Int} {i : Nat} (h : i < l.length) (x : Int) : pev (l.drop i) x = l.getD i 0 + x * pev (l.drop (i + 1)) x := by
  rw [List.drop_eq_getElem_cons h]
  simp [pev, List.getD_eq_getElem?_getD, h]
theorem szR.drop {k : Nat} {l : List Int} (h : szR k l) (i : Nat) : szR k (l.drop i) := fun x hx => h x (List.mem_of_mem_drop hx)
theorem zMulZJ (v w : Value) (x : Int) (y : Bool × List Nat) (a : Nat) (hx : sz x a) (ha : a ≤ 137438953472) (hy : Lim y.2) (ly : y.2.length ≤ 137438953472) :
    Meets Tryz.prog 82 [v, w] [(v, zd x), (w, J y)] (fun r os fs => os = [] ∧ fs = [(r, zd (x * jv y))]) := by
  have h := zMulJ v w (cn x) y (Lim_lims _) (Nat.le_trans hx.len ha) hy ly
  rw [jv_cn] at h
  exact h
theorem pValueJ (v w : Value) (p : Row) (xj : Bool × List Nat) (k a : Nat) (hp : Fit k p) (hxl : Lim xj.2) (hxa : xj.2.length ≤ a) (hk : k + (p.length + 1) * (a + 1) ≤ 137438953472) (lp : p.length ≤ 1073741824) :
    Meets Tryz.prog 43 [v, w] [(v, V p), (w, J xj)] (fun r os fs => os = [] ∧ fs = [(r, zd (pev (vv p) (jv xj)))]) := by
  have hx : sz (jv xj) a := sz_jv hxl hxa
  obtain ⟨x, hxj⟩ : ∃ x, jv xj = x := ⟨_, rfl⟩
  rw [hxj] at hx ⊢
  have hm1 : (p.length + 1) * (a + 1) = p.length * (a + 1) + (a + 1) := Nat.succ_mul _ _
  have h1 := pNorm_meets v p (hp.mono (by omega)) (by omega)
  have sa := hp.szR.nrm
  have la : (nrm (vv p)).length ≤ p.length := Nat.le_trans (nrm_length_le _) (by rw [vv_len]; exact Nat.le_refl _)
  rw [← ev_nrm (vv p)]
  generalize hA : nrm (vv p) = A at *
  have hs : ∀ i, sz (pev (A.drop i) x) (k + p.length * (a + 1)) := fun i => (ev_sz (sa.drop i) hx).mono (by
    have : (A.drop i).length * (a + 1) ≤ p.length * (a + 1) := Nat.mul_le_mul_right _ (by rw [List.length_drop]; omega)
    omega)
  have hlast : pev (A.drop A.length) x = 0 := by rw [List.drop_length]; rfl
  have hstep : ∀ i, i < A.length → pev (A.drop (A.length - i)) x * x + A.getD (A.length - 1 - i) 0 = pev (A.drop (A.length - (i + 1))) x := fun i hi => by
    rw [ev_drop (i := A.length - (i + 1)) (by omega), show A.length - (i + 1) + 1 = A.length - i by omega, show A.length - (i + 1) = A.length - 1 - i by omega, Int.mul_comm]; omega
  have hfin : pev (A.drop (A.length - A.length)) x = pev A x := by rw [Nat.sub_self, List.drop_zero]
  generalize hV : (fun i => pev (A.drop (A.length - i)) x) = Vf
  have hs' : ∀ i, sz (Vf i) (k + p.length * (a + 1)) := fun i => by rw [← hV]; exact hs _
  have hstep' : ∀ i, i < A.length → Vf i * x + A.getD (A.length - 1 - i) 0 = Vf (i + 1) := fun i hi => by rw [← hV]; exact hstep i hi
  have h0' : Vf 0 = 0 := by rw [← hV]; exact hlast
  have hfin' : Vf A.length = pev A x := by rw [← hV]; exact hfin
  refine meets_of_vc Tryz.func43 (by kernel_rfl) rfl (by kernel_rfl) (Nat.le_of_ble_eq_true rfl) ?_
  refine box_fact (Reads.fact (d := J xj) qM) fun px => ?_
  refine alloc_rule (d := I false []) fun o ho => ?_
  refine build0 (da := .one (.bool false)) (db := U (lims 0)) (fun S w => ⟨[.bool false], [.slice none 0 0], rfl, rd_false S w, by rw [lims_zero]; exact rd_nil S w 1 _⟩) fun z => ?_
  refine alloc_rule (d := I false []) fun s hs1 => ?_
  refine store_box (d := zd 0) 0 rfl hs1 rfl (by kernel_rfl) ?_ ?_; exact Reads.fact qM
  refine call_fn h1 (Seals.refl _ _) qS ?_
  rintro x1 _ _ ⟨rfl, rfl⟩
  refine len_vd qM ?_
  refine loop_rule (X := Nat) (fun i => ([(3, px), (4, o), (5, s), (6, x1), (12, .int .i64 (A.length : Nat)), (13, .int .i64 (i : Nat))], [own1 s 2 1 (fun _ => zd (Vf i)), own1 o 2 1 (fun _ => I false [])], [(x1, vd A), (px, .ptr (J xj))])) (fun i => i ≤ A.length) (fun i => A.length - i) rfl ?_ ?_
  · exact again 0 (Nat.zero_le _) trivial qF (Seals.trans (Seals.box0 (by rw [h0']; rfl)) (Seals.sub qS))
  · rintro i hi
    refine cmp_split _ rfl (fun hlt => ?_) (fun hlt => ?_)
    · have hin : i < A.length := by omega
      have hsi := hs' i
      have hsi1 := hstep' i hin
      have hai := sa.get (A.length - 1 - i)
      refine draw_rule [0, 1, 3, 4, 5, 6, 7, 8, 9, 10, 2, 11, 12] [0, 1, 2, 3, 4, 5, 6, 7, 8, 9, 10, 11, 12] (by kernel_rfl) (by kernel_rfl) ?_
      refine load_box (d := zd (Vf i)) 0 rfl hs1 rfl (load_I _ _) fun y1 => ?_
      refine load_fact (d := J xj) qM (load_J _) fun y2 => ?_
      refine len_vd qM ?_
      refine ar rfl qI ?_
      refine ar rfl qI ?_
      refine index_vd qM (A.length - 1 - i) (by omega) (by omega) fun b1 => ?_
      refine load_fact (d := zd (A.getD (A.length - 1 - i) 0)) qM (load_I _ _) fun y4 => ?_
      have hmul := zMulZJ y1 y2 _ xj _ hsi (by omega) hxl (by omega)
      rw [hxj] at hmul
      refine call_fn hmul (Seals.refl _ _) qS ?_
      rintro y3 _ _ ⟨rfl, rfl⟩
      have hadd := zAddZ y3 y4 _ _ _ _ (hsi.mul hx) hai (by omega) (by omega)
      rw [hsi1] at hadd
      refine call_fn hadd (Seals.refl _ _) qS ?_
      rintro y5 _ _ ⟨rfl, rfl⟩
      refine store_box (d := zd (Vf (i + 1))) 0 rfl hs1 rfl (by kernel_rfl) ?_ ?_; exact Reads.fact qM
      refine ar rfl qI ?_
      exact again (i + 1) (by omega) (by simp only; omega) qF (Seals.trans (Seals.box0 rfl) (Seals.sub qS))
    · have hip : i = A.length := by omega
      subst hip
      have hsn := hs' A.length
      rw [hfin'] at hsn
      rw [hfin']
      refine load_box (d := zd (pev A x)) 0 rfl hs1 rfl (load_I _ _) fun y1 => ?_
      refine call_fn (zNormZ y1 _ _ hsn (by omega)) (Seals.refl _ _) qS ?_
      rintro y2 _ _ ⟨rfl, rfl⟩
      refine store_box (d := zd (pev A x)) 1 rfl ho rfl (by kernel_rfl) ?_ ?_; exact Reads.fact qM
      refine load_box (d := zd (pev A x)) 1 rfl ho rfl (load_I _ _) fun r => ?_
      exact fin ⟨rfl, rfl⟩ (Seals.trans (Seals.drop 0 _ _) (Seals.trans (Seals.drop 0 _ _) (Seals.sub qS)))
end Go.Proofs.YtgpcepcbdpigfaaGreat
namespace Go.Proofs.YtgpcepcbdpigfaaGreat
def dg (l : List Int) : Nat := (nrm l).length
def ld (l : List Int) : Int := l.getD (dg l - 1) 0
theorem co_ext {l m : List Int} (h : ∀ x, pev l x = pev m x) (i : Nat) : l.getD i 0 = m.getD i 0 := by rw [← co_nrm l, ev_ext h, co_nrm]
theorem dg_ext {l m : List Int} (h : ∀ x, pev l x = pev m x) : dg l = dg m := by unfold dg; rw [ev_ext h]
theorem ld_ext {l m : List Int} (h : ∀ x, pev l x = pev m x) : ld l = ld m := by unfold ld; rw [dg_ext h, co_ext h]
theorem dg_nm {l : List Int} (h : Nm l) : dg l = l.length := by unfold dg; rw [h]
theorem dg_le {l : List Int} {n : Nat} : dg l ≤ n ↔ ∀ i, n ≤ i → l.getD i 0 = 0 := by
  constructor
  · intro h i hi
    rw [← co_nrm]
    exact getD_none (Nat.le_trans h hi)
  · intro h
    refine Nat.le_of_not_lt fun hn => ?_
    have := nrm_last l (show 0 < (nrm l).length by unfold dg at hn; omega)
    rw [co_nrm] at this
    exact this (h _ (by unfold dg at hn; omega))
theorem dg_le_len (l : List Int) : dg l ≤ l.length := nrm_length_le l
theorem ld_ne {l : List Int} (h : 0 < dg l) : ld l ≠ 0 := by
  have := nrm_last l h
  rwa [co_nrm] at this
theorem dg_zero {l : List Int} : dg l = 0 ↔ ∀ x, pev l x = 0 := by
  constructor
  · intro h x
    rw [← ev_nrm, List.length_eq_zero_iff.1 h]; rfl
  · intro h
    have := dg_ext (l := l) (m := []) fun x => by rw [h]; rfl
    rw [this]; rfl
theorem dg_pos {l : List Int} (h : ¬ ∀ x, pev l x = 0) : 0 < dg l := Nat.pos_of_ne_zero fun e => h (dg_zero.1 e)
theorem co_psub (l m : List Int) (i : Nat) : (psub l m).getD i 0 = l.getD i 0 - m.getD i 0 := by
  rw [psub, co_nrm, lst_get']
  split
  · rfl
  · rw [getD_none (by omega), getD_none (by omega)]; rfl
theorem co_padd (l m : List Int) (i : Nat) : (padd l m).getD i 0 = l.getD i 0 + m.getD i 0 := by
  rw [padd, co_nrm, lst_get']
  split
  · rfl
  · rw [getD_none (by omega), getD_none (by omega)]; rfl
theorem co_map (c : Int) (l : List Int) (i : Nat) : (l.map fun y => c * y).getD i 0 = c * l.getD i 0 := by
  simp only [List.getD_eq_getElem?_getD, List.getElem?_map]
  cases l[i]? <;> simp
theorem co_prai (c : Int) (s : Nat) (l : List Int) (i : Nat) : (prai c s l).getD i 0 = if i < s then 0 else c * l.getD (i - s) 0 := by
  rw [prai, co_nrm, up_get]
  split
  · rfl
  · rw [co_map]
theorem co_ptim (c : Int) (l : List Int) (i : Nat) : (ptim c l).getD i 0 = c * l.getD i 0 := by rw [ptim, co_nrm, co_map]
theorem pmul_dg {a b : List Int} (ha : 0 < dg a) (hb : 0 < dg b) : dg (pmul a b) + 1 = dg a + dg b ∧ ld (pmul a b) = ld a * ld b := by
  have ea : ld a = (nrm a).getD ((nrm a).length - 1) 0 := by rw [co_nrm]; rfl
  have eb : ld b = (nrm b).getD ((nrm b).length - 1) 0 := by rw [co_nrm]; rfl
  have h1 : ¬ (nrm a = [] ∨ nrm b = []) := by
    unfold dg at ha hb
    rintro (h | h)
    · rw [h] at ha; simp at ha
    · rw [h] at hb; simp at hb
  have hn : (lst ((nrm a).length + (nrm b).length - 1) fun y => conv (nrm a) (nrm b) (nrm a).length y).getD ((nrm a).length + (nrm b).length - 1 - 1) 0 = ld a * ld b := by
    unfold dg at ha hb
    rw [lst_get (by omega), conv, isum_one (r := (nrm a).length - 1) (by omega) fun k hk hne => by
      split
      · rw [getD_none (l := nrm b) (by omega), Int.mul_zero]
      · rfl]
    rw [if_pos (by omega), ea, eb]
    congr 2; omega
  have hne : ld a * ld b ≠ 0 := Int.mul_ne_zero (ld_ne ha) (ld_ne hb)
  have e : pmul a b = lst ((nrm a).length + (nrm b).length - 1) fun y => conv (nrm a) (nrm b) (nrm a).length y := by
    unfold pmul
    simp only
    rw [if_neg h1]
    refine nrm_of_last (.inr ?_)
    rw [lst_len, hn]; exact hne
  have hd : dg (pmul a b) = (nrm a).length + (nrm b).length - 1 := by
    rw [dg_nm (pmul_nm a b), e, lst_len]
  refine ⟨by rw [hd]; unfold dg at ha hb ⊢; omega, ?_⟩
  unfold ld
  rw [hd, e, hn]
  rfl
theorem mul_dg {a b c : List Int} (h : ∀ x, pev c x = pev a x * pev b x) (ha : 0 < dg a) (hb : 0 < dg b) : dg c + 1 = dg a + dg b ∧ ld c = ld a * ld b := by
  have e : ∀ x, pev c x = pev (pmul a b) x := fun x => by rw [h, ev_pmul]
  rw [dg_ext e, ld_ext e]
  exact pmul_dg ha hb
theorem mul_zero' {a b : List Int} (h : ∀ x, pev a x * pev b x = 0) : dg a = 0 ∨ dg b = 0 := by
  by_cases ha : 0 < dg a
  · by_cases hb : 0 < dg b
    · exfalso
      have h1 := (pmul_dg ha hb).1
      have h2 : dg (pmul a b) = 0 := dg_zero.2 fun x => by rw [ev_pmul, h]
      omega
    · right; omega
  · left; omega
theorem cancel {a u v : List Int} (ha : 0 < dg a) (h : ∀ x, pev a x * pev u x = pev a x * pev v x) (x : Int) : pev u x = pev v x := by
  have h1 : ∀ x, pev a x * pev (psub u v) x = 0 := fun x => by rw [ev_psub, Int.mul_sub, h]; omega
  rcases mul_zero' h1 with h2 | h2
  · omega
  · have := dg_zero.1 h2 x
    rw [ev_psub] at this; omega
def Dv (a b : List Int) : Prop := ∃ u, ∀ x, pev b x = pev a x * pev u x
theorem Dv.refl (a : List Int) : Dv a a := ⟨[1], fun x => by simp [pev]⟩
theorem Dv.trans {a b c : List Int} (h : Dv a b) (k : Dv b c) : Dv a c := by
  obtain ⟨u, hu⟩ := h; obtain ⟨v, hv⟩ := k
  exact ⟨pmul u v, fun x => by rw [hv, hu, ev_pmul]; grind⟩
theorem Dv.zero (a : List Int) {b : List Int} (h : ∀ x, pev b x = 0) : Dv a b := ⟨[], fun x => by rw [h]; simp [pev]⟩
theorem Dv.mul_right {a b c d : List Int} (h : Dv a b) (e : ∀ x, pev d x = pev b x * pev c x) : Dv a d := by
  obtain ⟨u, hu⟩ := h
  exact ⟨pmul u c, fun x => by rw [e, hu, ev_pmul]; grind⟩
theorem Dv.add {a b c d : List Int} (h : Dv a b) (k : Dv a c) (e : ∀ x, pev d x = pev b x + pev c x) : Dv a d := by
  obtain ⟨u, hu⟩ := h; obtain ⟨v, hv⟩ := k
  exact ⟨padd u v, fun x => by rw [e, hu, hv, ev_padd]; grind⟩
theorem Dv.sub {a b c d : List Int} (h : Dv a b) (k : Dv a c) (e : ∀ x, pev d x = pev b x - pev c x) : Dv a d := by
  obtain ⟨u, hu⟩ := h; obtain ⟨v, hv⟩ := k
  exact ⟨psub u v, fun x => by rw [e, hu, hv, ev_psub]; grind⟩
theorem Dv.ext {a b c d : List Int} (h : Dv a b) (h1 : ∀ x, pev a x = pev c x) (h2 : ∀ x, pev b x = pev d x) : Dv c d := by
  obtain ⟨u, hu⟩ := h
  exact ⟨u, fun x => by rw [← h2, hu, h1]⟩
theorem Dv.deg {a b : List Int} (h : Dv a b) (hb : 0 < dg b) : 0 < dg a ∧ dg a ≤ dg b := by
  obtain ⟨u, hu⟩ := h
  have ha : 0 < dg a := dg_pos fun h => by
    have := (dg_zero (l := b)).2 fun x => by rw [hu, h]; simp
    omega
  have h2 : 0 < dg u := dg_pos fun h => by
    have := (dg_zero (l := b)).2 fun x => by rw [hu, h]; simp
    omega
  have := (mul_dg hu ha h2).1
  exact ⟨ha, by omega⟩
theorem red_dg {p q : List Int} (hq : 0 < dg q) (hp : dg q ≤ dg p) : dg (psub (prai (ld q) 0 p) (prai (ld p) (dg p - dg q) q)) < dg p := by
  have : dg (psub (prai (ld q) 0 p) (prai (ld p) (dg p - dg q) q)) ≤ dg p - 1 := dg_le.2 fun i hi => by
    rw [co_psub, co_prai, co_prai, if_neg (by omega), if_neg (by omega), Nat.sub_zero]
    by_cases h : i = dg p - 1
    · rw [h, show dg p - 1 - (dg p - dg q) = dg q - 1 by omega]
      show ld q * ld p - ld p * ld q = 0
      grind
    · rw [dg_le.1 (Nat.le_refl (dg p)) i (by omega), dg_le.1 (Nat.le_refl (dg q)) (i - (dg p - dg q)) (by omega)]; simp
  omega
theorem pseudo {q : List Int} (hq : 0 < dg q) : ∀ (n : Nat) (p : List Int), dg p ≤ n → ∃ t r, dg r < dg q ∧ ∀ x, ld q ^ (n + 1 - dg q) * pev p x = pev q x * pev t x + pev r x
  | 0, p, hp => ⟨[], p, by omega, fun x => by rw [show 0 + 1 - dg q = 0 by omega]; simp [pev]⟩
  | n + 1, p, hp => by
    by_cases h : dg p < dg q
    · refine ⟨[], ptim (ld q ^ (n + 1 + 1 - dg q)) p, ?_, fun x => by rw [ev_ptim]; simp [pev]⟩
      refine Nat.lt_of_le_of_lt (dg_le.2 fun i hi => ?_) h
      rw [co_ptim, dg_le.1 (Nat.le_refl _) i hi, Int.mul_zero]
    · have h1 := red_dg hq (Nat.le_of_not_lt h)
      obtain ⟨t, r, h2, h3⟩ := pseudo hq n _ (show dg (psub (prai (ld q) 0 p) (prai (ld p) (dg p - dg q) q)) ≤ n by omega)
      refine ⟨padd t (prai (ld q ^ (n + 1 - dg q) * ld p) (dg p - dg q) [1]), r, h2, fun x => ?_⟩
      have h4 := h3 x
      rw [ev_psub, ev_prai, ev_prai] at h4
      rw [ev_padd, ev_prai, show n + 1 + 1 - dg q = (n + 1 - dg q) + 1 by omega, Int.pow_succ]
      simp only [pev, Int.pow_zero] at h4 ⊢
      grind
theorem rest_unique {q t r t' r' : List Int} (hr : dg r < dg q) (hr' : dg r' < dg q) (h : ∀ x, pev q x * pev t x + pev r x = pev q x * pev t' x + pev r' x) : (∀ x, pev t x = pev t' x) ∧ ∀ x, pev r x = pev r' x := by
  have h1 : ∀ x, pev (psub r' r) x = pev q x * pev (psub t t') x := fun x => by rw [ev_psub, ev_psub, Int.mul_sub]; have := h x; omega
  have h2 : dg (psub r' r) < dg q := by
    have : dg (psub r' r) ≤ dg q - 1 := dg_le.2 fun i hi => by
      rw [co_psub, dg_le.1 (Nat.le_refl (dg r')) i (by omega), dg_le.1 (Nat.le_refl (dg r)) i (by omega)]; rfl
    omega
  have h3 : dg (psub t t') = 0 := by
    refine Nat.eq_zero_of_not_pos fun h3 => ?_
    have := (mul_dg h1 (by omega) h3).1
    omega
  have h4 := dg_zero.1 h3
  refine ⟨fun x => by have := h4 x; rw [ev_psub] at this; omega, fun x => ?_⟩
  have := h1 x
  rw [h4, ev_psub] at this
  omega
def cont (l : List Int) : Nat := l.foldr (fun c g => Nat.gcd c.natAbs g) 0
theorem dvd_cont {k : Nat} {l : List Int} : k ∣ cont l ↔ ∀ i, (k : Int) ∣ l.getD i 0 := by
  induction l with
  | nil => exact ⟨fun _ i => by simp, fun _ => Nat.dvd_zero k⟩
  | cons c l ih =>
    show k ∣ Nat.gcd c.natAbs (cont l) ↔ _
    rw [Nat.dvd_gcd_iff, ih]
    constructor
    · rintro ⟨h1, h2⟩ i
      cases i with
      | zero => exact Int.ofNat_dvd_left.2 h1
      | succ i => simpa using h2 i
    · intro h
      exact ⟨Int.ofNat_dvd_left.1 (by simpa using h 0), fun i => by simpa using h (i + 1)⟩
theorem cont_ext {l m : List Int} (h : ∀ x, pev l x = pev m x) : cont l = cont m :=
  Nat.dvd_antisymm (dvd_cont.2 fun i => by rw [← co_ext h]; exact dvd_cont.1 (Nat.dvd_refl _) i) (dvd_cont.2 fun i => by rw [co_ext h]; exact dvd_cont.1 (Nat.dvd_refl _) i)
theorem cont_zero {l : List Int} : cont l = 0 ↔ dg l = 0 := by
  constructor
  · intro h
    have := dvd_cont.1 (show 0 ∣ cont l from ⟨0, by omega⟩)
    refine Nat.eq_zero_of_not_pos fun hp => ld_ne hp ?_
    exact Int.zero_dvd.1 (this _)
  · intro h
    refine Nat.eq_zero_of_zero_dvd (dvd_cont.2 fun i => ?_)
    rw [dg_le.1 (Nat.le_of_eq h) i (Nat.zero_le i)]; exact ⟨0, by simp⟩
theorem cont_map (c : Int) (l : List Int) : cont (l.map fun y => c * y) = c.natAbs * cont l := by
  induction l with
  | nil => rfl
  | cons d l ih =>
    show Nat.gcd (c * d).natAbs (cont _) = c.natAbs * Nat.gcd d.natAbs (cont l)
    rw [ih, Int.natAbs_mul, Nat.gcd_mul_left]
theorem cont_mul {l m : List Int} {c : Int} (h : ∀ x, pev m x = c * pev l x) : cont m = c.natAbs * cont l := by
  rw [← cont_map]; exact cont_ext fun x => by rw [h, ev_map_mul]
theorem by_const {k : Nat} {l : List Int} (h : k ∣ cont l) : ∃ u, ∀ x, pev l x = k * pev u x := by
  refine ⟨l.map fun y => y / k, fun x => ?_⟩
  rw [← ev_map_mul]
  congr 1
  rw [List.map_map]
  have : ∀ y, y ∈ l → y = ((fun y => (k : Int) * y) ∘ fun y => y / k) y := fun y hy => by
    obtain ⟨i, hi, rfl⟩ := List.mem_iff_getElem.1 hy
    have := dvd_cont.1 h i
    rw [List.getD_eq_getElem?_getD, List.getElem?_eq_getElem hi] at this
    exact (Int.mul_ediv_cancel' this).symm
  exact (List.map_id l).symm.trans (List.map_congr_left this)
theorem prim_exists {l : List Int} (h : 0 < dg l) : ∃ u, cont u = 1 ∧ ∀ x, pev l x = cont l * pev u x := by
  obtain ⟨u, hu⟩ := by_const (Nat.dvd_refl (cont l))
  refine ⟨u, ?_, hu⟩
  have h1 := cont_mul hu
  rw [Int.natAbs_natCast] at h1
  have h2 : cont l ≠ 0 := fun e => by have := cont_zero.1 e; omega
  exact Nat.eq_of_mul_eq_mul_left (Nat.pos_of_ne_zero h2) (by omega)
def tail (l : List Int) : List Int := psub l (prai (ld l) (dg l - 1) [1])
theorem tail_dg {l : List Int} (h : 0 < dg l) : dg (tail l) < dg l := by
  have : dg (tail l) ≤ dg l - 1 := dg_le.2 fun i hi => by
    rw [tail, co_psub, co_prai, if_neg (by omega)]
    by_cases e : i = dg l - 1
    · rw [e, Nat.sub_self]; simp [ld]
    · rw [dg_le.1 (Nat.le_refl (dg l)) i (by omega), getD_none (l := [1]) (by simp; omega)]; simp
  omega
theorem tail_ev (l : List Int) (x : Int) : pev l x = pev (tail l) x + ld l * x ^ (dg l - 1) := by
  rw [tail, ev_psub, ev_prai]; simp only [pev]; grind
theorem gauss : ∀ (n : Nat) (a b c : List Int), dg a + dg b ≤ n → (∀ x, pev c x = pev a x * pev b x) → cont c = cont a * cont b := by
  intro n
  induction n with
  | zero =>
    intro a b c hn h
    have h1 : dg a = 0 := by omega
    have h2 : dg c = 0 := dg_zero.2 fun x => by rw [h, dg_zero.1 h1]; simp
    rw [cont_zero.2 h1, cont_zero.2 h2]; simp
  | succ n ih =>
    intro a b c hn h
    by_cases ha : dg a = 0
    · have h2 : dg c = 0 := dg_zero.2 fun x => by rw [h, dg_zero.1 ha]; simp
      rw [cont_zero.2 ha, cont_zero.2 h2]; simp
    by_cases hb : dg b = 0
    · have h2 : dg c = 0 := dg_zero.2 fun x => by rw [h, dg_zero.1 hb]; simp
      rw [cont_zero.2 hb, cont_zero.2 h2]; simp
    obtain ⟨a1, ha1, ea⟩ := prim_exists (Nat.pos_of_ne_zero ha)
    obtain ⟨b1, hb1, eb⟩ := prim_exists (Nat.pos_of_ne_zero hb)
    have hca : cont a ≠ 0 := fun e => ha (cont_zero.1 e)
    have hcb : cont b ≠ 0 := fun e => hb (cont_zero.1 e)
    have hda : 0 < dg a1 := dg_pos fun e => ha (dg_zero.2 fun x => by rw [ea, e]; simp)
    have hdb : 0 < dg b1 := dg_pos fun e => hb (dg_zero.2 fun x => by rw [eb, e]; simp)
    have da : dg a1 ≤ dg a := ((show Dv a1 a from ⟨[(cont a : Int)], fun x => by rw [ea]; simp only [pev]; grind⟩).deg (by omega)).2
    have db : dg b1 ≤ dg b := ((show Dv b1 b from ⟨[(cont b : Int)], fun x => by rw [eb]; simp only [pev]; grind⟩).deg (by omega)).2
    have key : cont (pmul a1 b1) = 1 := by
      have hk : ∀ (u v : List Int), dg u + dg v ≤ n + 1 → cont u = 1 → cont v = 1 → 0 < dg u → Nat.gcd (cont (pmul u v)) (ld u).natAbs = 1 := fun u v hl hu hv hd => by
        have t := tail_dg hd
        have e1 := ih (tail u) v (pmul (tail u) v) (by omega) (ev_pmul _ _)
        rw [hv, Nat.mul_one] at e1
        have g1 : Nat.gcd (cont (pmul u v)) (ld u).natAbs ∣ cont (tail u) := by
          rw [← e1]
          refine dvd_cont.2 fun i => ?_
          have e2 : ∀ x, pev (pmul (tail u) v) x = pev (psub (pmul u v) (prai (ld u) (dg u - 1) v)) x := fun x => by
            rw [ev_pmul, ev_psub, ev_pmul, ev_prai, tail_ev u x]; grind
          rw [co_ext e2, co_psub, co_prai]
          refine Int.dvd_sub (Int.dvd_trans (Int.natCast_dvd_natCast.2 (Nat.gcd_dvd_left _ _)) (dvd_cont.1 (Nat.dvd_refl _) i)) ?_
          split
          · exact ⟨0, by simp⟩
          · exact Int.dvd_trans (Int.ofNat_dvd_left.2 (Nat.gcd_dvd_right _ _)) ⟨_, rfl⟩
        have g2 : Nat.gcd (cont (pmul u v)) (ld u).natAbs ∣ cont u := by
          refine dvd_cont.2 fun i => ?_
          have e3 : ∀ x, pev u x = pev (padd (tail u) (prai (ld u) (dg u - 1) [1])) x := fun x => by
            rw [ev_padd, ev_prai, tail_ev u x]; simp only [pev]; grind
          rw [co_ext e3, co_padd, co_prai]
          refine Int.dvd_add (dvd_cont.1 g1 i) ?_
          split
          · exact ⟨0, by simp⟩
          · exact Int.dvd_trans (Int.ofNat_dvd_left.2 (Nat.gcd_dvd_right _ _)) ⟨_, rfl⟩
        rw [hu] at g2
        exact Nat.dvd_one.1 g2
      have k1 := hk a1 b1 (by omega) ha1 hb1 hda
      have k2 := hk b1 a1 (by omega) hb1 ha1 hdb
      have e4 : cont (pmul b1 a1) = cont (pmul a1 b1) := cont_ext fun x => by rw [ev_pmul, ev_pmul, Int.mul_comm]
      rw [e4] at k2
      have h5 : (cont (pmul a1 b1) : Int) ∣ ld a1 * ld b1 := by
        rw [← (pmul_dg hda hdb).2]
        exact dvd_cont.1 (Nat.dvd_refl _) _
      have h6 : cont (pmul a1 b1) ∣ (ld a1).natAbs * (ld b1).natAbs := by rw [← Int.natAbs_mul]; exact Int.ofNat_dvd_left.1 h5
      have h7 : cont (pmul a1 b1) ∣ (ld b1).natAbs := Nat.Coprime.dvd_of_dvd_mul_left k1 h6
      have h8 : Nat.gcd (cont (pmul a1 b1)) (ld b1).natAbs = cont (pmul a1 b1) := Nat.gcd_eq_left h7
      omega
    have e5 : ∀ x, pev c x = ((cont a * cont b : Nat) : Int) * pev (pmul a1 b1) x := fun x => by
      rw [h, ea, eb, ev_pmul]; push_cast; grind
    rw [cont_mul e5, key, Int.natAbs_natCast, Nat.mul_one]
theorem cont_prod {a b c : List Int} (h : ∀ x, pev c x = pev a x * pev b x) : cont c = cont a * cont b := gauss _ a b c (Nat.le_refl _) h
theorem Dv.prim {a b : List Int} {k : Int} (ha : cont a = 1) (hk : k ≠ 0) (h : Dv a (b.map fun y => k * y)) : Dv a b := by
  obtain ⟨u, hu⟩ := h
  have h1 := cont_prod hu
  rw [ha, Nat.one_mul, cont_map] at h1
  obtain ⟨v, hv⟩ := by_const (k := k.natAbs) (l := u) ⟨cont b, by rw [h1]⟩
  have h2 : ∀ x, k * pev b x = pev a x * (k.natAbs * pev v x) := fun x => by rw [← hv, ← hu, ev_map_mul]
  refine ⟨v.map fun y => (k.sign) * y, fun x => ?_⟩
  rw [ev_map_mul]
  have h3 := h2 x
  have h4 : (k.natAbs : Int) = k * k.sign := by rw [Int.mul_sign_self]
  rw [h4] at h3
  refine Int.eq_of_mul_eq_mul_left hk ?_
  rw [h3]; grind
theorem Dv.cnt {a b : List Int} (h : Dv a b) : cont a ∣ cont b := by
  obtain ⟨u, hu⟩ := h
  exact ⟨_, cont_prod hu⟩
end Go.Proofs.YtgpcepcbdpigfaaGreat
namespace Go.Proofs.YtgpcepcbdpigfaaGreat
def Gc (g p q : List Int) : Prop := Dv g p ∧ Dv g q ∧ (∀ h, Dv h p → Dv h q → Dv h g) ∧ 0 ≤ ld g
theorem const_ev {u : List Int} (h : dg u ≤ 1) (x : Int) : pev u x = u.getD 0 0 := by
  have : nrm u = nrm [u.getD 0 0] := nrm_ext fun i => by
    cases i with
    | zero => rfl
    | succ i => rw [dg_le.1 h (i + 1) (by omega)]; rfl
  rw [ev_of_nrm this]; simp [pev]
theorem Dv.anti {a b : List Int} (h : Dv a b) (k : Dv b a) (ha : 0 ≤ ld a) (hb : 0 ≤ ld b) (x : Int) : pev a x = pev b x := by
  obtain ⟨u, hu⟩ := h
  obtain ⟨v, hv⟩ := k
  by_cases h0 : dg a = 0
  · rw [hu, dg_zero.1 h0]; simp
  have h0 : 0 < dg a := by omega
  have huv : ∀ x, pev (pmul u v) x = pev [1] x := cancel h0 fun x => by rw [ev_pmul, ← Int.mul_assoc, ← hu, ← hv]; simp [pev]
  have hd : dg (pmul u v) = 1 := by rw [dg_ext huv]; rfl
  have hu0 : 0 < dg u := dg_pos fun e => by
    have : dg (pmul u v) = 0 := dg_zero.2 fun x => by rw [ev_pmul, e]; simp
    omega
  have hv0 : 0 < dg v := dg_pos fun e => by
    have : dg (pmul u v) = 0 := dg_zero.2 fun x => by rw [ev_pmul, e]; simp
    omega
  have h1 := pmul_dg hu0 hv0
  have hl : ld u * ld v = 1 := by rw [← h1.2, ld_ext huv]; rfl
  have e1 : u.getD 0 0 = ld u := by rw [ld, show dg u = 1 by omega]
  have h2 := (mul_dg hu h0 hu0).2
  have h3 : ld a ≠ 0 := ld_ne h0
  have h4 : 0 ≤ ld u := by
    refine Int.not_lt.1 fun hn => ?_
    have := Int.mul_neg_of_pos_of_neg (show 0 < ld a by omega) hn
    omega
  have h5 : ld u = 1 := by
    have : (ld u).natAbs * (ld v).natAbs = 1 := by rw [← Int.natAbs_mul, hl]; rfl
    have := Nat.eq_one_of_mul_eq_one_right this
    omega
  rw [hu, const_ev (show dg u ≤ 1 by omega), e1, h5, Int.mul_one]
theorem Gc.unique {g g' p q : List Int} (h : Gc g p q) (h' : Gc g' p q) (x : Int) : pev g x = pev g' x :=
  Dv.anti (h'.2.2.1 g h.1 h.2.1) (h.2.2.1 g' h'.1 h'.2.1) h.2.2.2 h'.2.2.2 x
theorem Gc.ext {g g' p p' q q' : List Int} (h : Gc g p q) (e : ∀ x, pev g x = pev g' x) (e1 : ∀ x, pev p x = pev p' x) (e2 : ∀ x, pev q x = pev q' x) : Gc g' p' q' :=
  ⟨h.1.ext e e1, h.2.1.ext e e2, fun d h1 h2 => (h.2.2.1 d (h1.ext (fun _ => rfl) fun x => (e1 x).symm) (h2.ext (fun _ => rfl) fun x => (e2 x).symm)).ext (fun _ => rfl) e, by rw [← ld_ext e]; exact h.2.2.2⟩
def scont (l : List Int) : Int := if ld l < 0 then - (cont l : Int) else cont l
def pprim (l : List Int) : List Int := nrm ((nrm l).map fun y => y / scont l)
theorem scont_natAbs (l : List Int) : (scont l).natAbs = cont l := by
  unfold scont; split <;> omega
theorem pprim_ev (l : List Int) (x : Int) : pev l x = scont l * pev (pprim l) x := by
  rw [pprim, ev_nrm, ← ev_map_mul, List.map_map]
  rw [← ev_nrm l]
  congr 1
  have : ∀ y, y ∈ nrm l → y = ((fun y => scont l * y) ∘ fun y => y / scont l) y := fun y hy => by
    obtain ⟨i, hi, rfl⟩ := List.mem_iff_getElem.1 hy
    have h1 := dvd_cont.1 (Nat.dvd_refl (cont l)) i
    rw [← co_nrm, List.getD_eq_getElem?_getD, List.getElem?_eq_getElem hi] at h1
    have h2 : scont l ∣ (nrm l)[i] := by
      rw [← Int.natAbs_dvd, scont_natAbs]; exact h1
    exact (Int.mul_ediv_cancel' h2).symm
  exact (List.map_id _).symm.trans (List.map_congr_left this)
theorem pprim_nm (l : List Int) : Nm (pprim l) := nrm_nrm _
theorem pprim_zero {l : List Int} (h : dg l = 0) : pprim l = [] := by
  unfold pprim
  rw [List.length_eq_zero_iff.1 h]; rfl
theorem pprim_dg (l : List Int) : dg (pprim l) = dg l := by
  by_cases h : dg l = 0
  · rw [pprim_zero h, h]; rfl
  have h0 : scont l ≠ 0 := fun e => h (cont_zero.1 (by have := scont_natAbs l; omega))
  have e : ∀ x, pev l x = pev [scont l] x * pev (pprim l) x := fun x => by rw [pprim_ev]; simp [pev]
  have h1 : 0 < dg (pprim l) := dg_pos fun e1 => h (dg_zero.2 fun x => by rw [pprim_ev, e1]; simp)
  have h2 : dg [scont l] = 1 := by simp [dg, nrm, h0]
  have := (mul_dg e (by omega) h1).1
  omega
theorem pprim_cont {l : List Int} (h : 0 < dg l) : cont (pprim l) = 1 := by
  have h1 := cont_mul (pprim_ev l)
  rw [scont_natAbs] at h1
  have h2 : cont l ≠ 0 := fun e => by have := cont_zero.1 e; omega
  exact Nat.eq_of_mul_eq_mul_left (Nat.pos_of_ne_zero h2) (by omega)
theorem pprim_ld {l : List Int} (h : 0 < dg l) : 0 < ld (pprim l) := by
  have h1 := ld_ne (l := pprim l) (by rw [pprim_dg]; exact h)
  have h2 : ld l = scont l * ld (pprim l) := by
    have e : ∀ x, pev l x = pev (ptim (scont l) (pprim l)) x := fun x => by rw [ev_ptim, ← pprim_ev]
    unfold ld
    rw [co_ext e, co_ptim, pprim_dg]
  have h3 := ld_ne h
  unfold scont at h2
  refine Int.not_le.1 fun hn => ?_
  have h4 : ld (pprim l) < 0 := by omega
  have hc : (0 : Int) ≤ cont l := Int.natCast_nonneg _
  split at h2
  · have := Int.mul_nonneg_of_nonpos_of_nonpos (show -(cont l : Int) ≤ 0 by omega) (Int.le_of_lt h4); omega
  · have := Int.mul_nonpos_of_nonneg_of_nonpos hc (Int.le_of_lt h4); omega
theorem prim_dv {h r : List Int} (hh : cont h = 1) : Dv h (pprim r) ↔ Dv h r := by
  constructor
  · rintro ⟨u, hu⟩
    exact ⟨ptim (scont r) u, fun x => by rw [pprim_ev, hu, ev_ptim]; grind⟩
  · intro hd
    by_cases h0 : dg r = 0
    · exact Dv.zero _ fun x => by rw [pprim_zero h0]; rfl
    have h1 : scont r ≠ 0 := fun e => h0 (cont_zero.1 (by have := scont_natAbs r; omega))
    exact Dv.prim hh h1 (hd.ext (fun _ => rfl) fun x => by rw [ev_map_mul, ← pprim_ev])
theorem gcd_step {a b t r h : List Int} {k : Int} (hh : cont h = 1) (hk : k ≠ 0) (e : ∀ x, k * pev a x = pev b x * pev t x + pev r x) : Dv h a ∧ Dv h b ↔ Dv h b ∧ Dv h (pprim r) := by
  rw [prim_dv hh]
  constructor
  · rintro ⟨h1, h2⟩
    refine ⟨h2, (h1.mul_right (c := [k]) (d := ptim k a) fun x => by rw [ev_ptim]; simp only [pev]; grind).sub (h2.mul_right (c := t) (d := pmul b t) fun x => ev_pmul _ _ _) fun x => ?_⟩
    rw [ev_ptim, ev_pmul, e]; omega
  · rintro ⟨h1, h2⟩
    refine ⟨Dv.prim hh hk ((h1.mul_right (c := t) (d := pmul b t) fun x => ev_pmul _ _ _).add h2 fun x => ?_), h1⟩
    rw [ev_map_mul, e, ev_pmul]
theorem gcd_end {p q a : List Int} (ha : 0 < dg a → cont a = 1 ∧ 0 < ld a) (hz : dg a = 0 → dg p = 0 ∧ dg q = 0)
    (h : ∀ h, cont h = 1 → (Dv h a ↔ Dv h (pprim p) ∧ Dv h (pprim q))) : Gc (ptim (Nat.gcd (cont p) (cont q) : Nat) a) p q := by
  by_cases h0 : dg a = 0
  · obtain ⟨h1, h2⟩ := hz h0
    have e : ∀ x, pev (ptim (Nat.gcd (cont p) (cont q) : Nat) a) x = 0 := fun x => by rw [ev_ptim, dg_zero.1 h0]; simp
    refine ⟨Dv.zero _ (dg_zero.1 h1), Dv.zero _ (dg_zero.1 h2), fun d _ _ => Dv.zero _ e, ?_⟩
    unfold ld; rw [dg_le.1 (Nat.le_of_eq (dg_zero.2 e)) _ (Nat.zero_le _)]; exact Int.le_refl _
  obtain ⟨ha1, ha2⟩ := ha (by omega)
  obtain ⟨k1, k2⟩ := (h a ha1).1 (Dv.refl a)
  have side : ∀ (p : List Int) (c : Nat), c ∣ cont p → Dv a (pprim p) → Dv (ptim (c : Nat) a) p := fun p c hc hd => by
    obtain ⟨u, hu⟩ := hd
    obtain ⟨s, hs⟩ : (c : Int) ∣ scont p := by rw [← Int.dvd_natAbs, scont_natAbs]; exact Int.natCast_dvd_natCast.2 hc
    exact ⟨ptim s u, fun x => by rw [pprim_ev, hu, ev_ptim, ev_ptim, hs]; grind⟩
  refine ⟨side p _ (Nat.gcd_dvd_left _ _) k1, side q _ (Nat.gcd_dvd_right _ _) k2, fun d hp hq => ?_, ?_⟩
  · by_cases hd : dg d = 0
    · have z : ∀ {p : List Int}, Dv d p → cont p = 0 := fun ⟨u, hu⟩ => cont_zero.2 (dg_zero.2 fun x => by rw [hu, dg_zero.1 hd]; simp)
      exact Dv.zero _ fun x => by rw [ev_ptim, z hp, z hq]; simp
    have hd : 0 < dg d := by omega
    have hdp : Dv (pprim d) d := ⟨[scont d], fun x => by rw [pprim_ev]; simp only [pev]; grind⟩
    have h1 := (h (pprim d) (pprim_cont hd)).2 ⟨(prim_dv (pprim_cont hd)).2 (hdp.trans hp), (prim_dv (pprim_cont hd)).2 (hdp.trans hq)⟩
    obtain ⟨u, hu⟩ := h1
    have hc : cont d ∣ Nat.gcd (cont p) (cont q) := Nat.dvd_gcd hp.cnt hq.cnt
    obtain ⟨s, hs⟩ : scont d ∣ (Nat.gcd (cont p) (cont q) : Nat) := by rw [← Int.natAbs_dvd, scont_natAbs]; exact Int.natCast_dvd_natCast.2 hc
    exact ⟨ptim s u, fun x => by rw [ev_ptim, ev_ptim, hu, hs, pprim_ev d]; grind⟩
  · have e : ld (ptim (Nat.gcd (cont p) (cont q) : Nat) a) = if Nat.gcd (cont p) (cont q) = 0 then 0 else (Nat.gcd (cont p) (cont q) : Nat) * ld a := by
      by_cases hg : Nat.gcd (cont p) (cont q) = 0
      · rw [if_pos hg]
        unfold ld; rw [co_ptim, hg]; simp
      · rw [if_neg hg]
        have e : ∀ x, pev (ptim (Nat.gcd (cont p) (cont q) : Nat) a) x = pev [((Nat.gcd (cont p) (cont q) : Nat) : Int)] x * pev a x := fun x => by rw [ev_ptim]; simp [pev]
        have h2 : dg [((Nat.gcd (cont p) (cont q) : Nat) : Int)] = 1 := by simp only [dg, nrm]; rw [if_neg (by omega)]; rfl
        have h3 : ld [((Nat.gcd (cont p) (cont q) : Nat) : Int)] = (Nat.gcd (cont p) (cont q) : Nat) := by unfold ld; rw [h2]; rfl
        rw [(mul_dg e (by omega) (by omega)).2, h3]
    rw [e]
    split
    · exact Int.le_refl _
    · exact Int.mul_nonneg (Int.natCast_nonneg _) (Int.le_of_lt ha2)
open Go.RowKit
theorem cont_snoc (l : List Int) (c : Int) : cont (l ++ [c]) = Nat.gcd (cont l) c.natAbs := by
  induction l with
  | nil => show Nat.gcd c.natAbs 0 = Nat.gcd 0 c.natAbs; simp
  | cons d l ih =>
    show Nat.gcd d.natAbs (cont (l ++ [c])) = Nat.gcd (Nat.gcd d.natAbs (cont l)) c.natAbs
    rw [ih, Nat.gcd_assoc]
theorem cont_sz {l : List Int} {k : Nat} (h : szR k l) : sz (cont l : Nat) k := by
  unfold sz
  rw [Int.natAbs_natCast]
  induction l with
  | nil => exact Nat.pow_pos (by decide)
  | cons c l ih =>
    have h1 := ih fun y hy => h y (.tail _ hy)
    have h2 := h c (.head _)
    show Nat.gcd c.natAbs (cont l) < _
    by_cases e : c.natAbs = 0
    · rw [e, Nat.gcd_zero_left]; exact h1
    · exact Nat.lt_of_le_of_lt (Nat.gcd_le_left _ (Nat.pos_of_ne_zero e)) h2
theorem szR.take {k : Nat} {l : List Int} (h : szR k l) (i : Nat) : szR k (l.take i) := fun x hx => h x (List.mem_of_mem_take hx)
theorem cont_take {l : List Int} {i : Nat} (h : i < l.length) : cont (l.take (i + 1)) = Nat.gcd (cont (l.take i)) (l.getD i 0).natAbs := by
  rw [take_snoc' 0 h, cont_snoc]
theorem jv_abs (x : Bool × List Nat) : (jv x).natAbs = nv x.2 := iv_abs _ _
theorem zGcdJ (v w : Value) (x y : Bool × List Nat) (hx : Lim x.2) (lx : x.2.length ≤ 137438953472) (hy : Lim y.2) (ly : y.2.length ≤ 137438953472) :
    Meets Tryz.prog 129 [v, w] [(v, J x), (w, J y)] (fun r os fs => os = [] ∧ fs = [(r, zd (Nat.gcd (jv x).natAbs (jv y).natAbs : Nat))]) := by
  rw [jv_abs, jv_abs]
  exact zgcd_meets v w x.1 y.1 x.2 y.2 hx hy lx ly
theorem zGcdZ (v w : Value) (x y : Int) (a b : Nat) (hx : sz x a) (hy : sz y b) (ha : a ≤ 137438953472) (hb : b ≤ 137438953472) :
    Meets Tryz.prog 129 [v, w] [(v, zd x), (w, zd y)] (fun r os fs => os = [] ∧ fs = [(r, zd (Nat.gcd x.natAbs y.natAbs : Nat))]) := by
  have h := zGcdJ v w (cn x) (cn y) (Lim_lims _) (Nat.le_trans hx.len ha) (Lim_lims _) (Nat.le_trans hy.len hb)
  rw [jv_cn, jv_cn] at h
  exact h
theorem zAbsZ (v : Value) (x : Int) (a : Nat) (hx : sz x a) (ha : a ≤ 137438953472) :
    Meets Tryz.prog 27 [v] [(v, zd x)] (fun r os fs => os = [] ∧ fs = [(r, zd (x.natAbs : Nat))]) := by
  have h := zabs_meets v (decide (x < 0)) (lims x.natAbs) (Lim_lims _) (Nat.le_trans hx.len ha)
  rw [nv_lims] at h
  exact h
theorem pContent_meets (v : Value) (p : Row) (k : Nat) (hp : Fit k p) (hk : k ≤ 137438953472) :
    Meets Tryz.prog 108 [v] [(v, V p)] (fun r os fs => os = [] ∧ fs = [(r, zd (cont (vv p) : Nat))]) := by
  have hs : ∀ i, sz (cont ((vv p).take i) : Nat) k := fun i => cont_sz (hp.szR.take i)
  have hst : ∀ i, i < p.length → Nat.gcd (cont ((vv p).take i)) (jv (p.getD i z0)).natAbs = cont ((vv p).take (i + 1)) := fun i hi => by
    rw [cont_take (by rw [vv_len]; exact hi), vv_get p i hi]
  have hlast : cont ((vv p).take p.length) = cont (vv p) := by rw [List.take_of_length_le (by rw [vv_len]; exact Nat.le_refl _)]
  have h00 : cont ((vv p).take 0) = 0 := rfl
  generalize hC : (fun i => cont ((vv p).take i)) = C
  have hs' : ∀ i, sz (C i : Nat) k := fun i => by rw [← hC]; exact hs i
  have hst' : ∀ i, i < p.length → Nat.gcd (C i) (jv (p.getD i z0)).natAbs = C (i + 1) := fun i hi => by rw [← hC]; exact hst i hi
  have hlast' : C p.length = cont (vv p) := by rw [← hC]; exact hlast
  have h0' : C 0 = 0 := by rw [← hC]; exact h00
  refine meets_of_vc Tryz.func108 (by kernel_rfl) rfl (by kernel_rfl) (Nat.le_of_ble_eq_true rfl) ?_
  refine alloc_rule (d := I false []) fun o ho => ?_
  refine build0 (da := .one (.bool false)) (db := U (lims 0)) (fun S w => ⟨[.bool false], [.slice none 0 0], rfl, rd_false S w, by rw [lims_zero]; exact rd_nil S w 1 _⟩) fun z => ?_
  refine alloc_rule (d := I false []) fun s hs1 => ?_
  refine store_box (d := zd 0) 0 rfl hs1 rfl (by kernel_rfl) ?_ ?_; exact Reads.fact qM
  refine len_fact qM fun _ => ?_
  refine loop_rule (X := Nat) (fun i => ([(2, o), (3, s), (7, v), (8, .int .i64 (p.length : Nat)), (9, .int .i64 (i : Nat))], [own1 s 2 1 (fun _ => zd (C i : Nat)), own1 o 2 1 (fun _ => I false [])], [(v, V p)])) (fun i => i ≤ p.length) (fun i => p.length - i) rfl ?_ ?_
  · exact again 0 (Nat.zero_le _) trivial qF (Seals.trans (Seals.box0 (by rw [h0']; rfl)) (Seals.sub qS))
  · rintro i hi
    refine cmp_split _ rfl (fun hlt => ?_) (fun hlt => ?_)
    · have hin : i < p.length := by omega
      have hsi := hs' i
      have hpi := hp.get i
      refine index_fact qM i rfl hin fun b1 => ?_
      refine load_fact (d := J (p.getD i z0)) qM (load_J _) fun y1 => ?_
      refine alloc_rule (d := I false []) fun q hq => ?_
      refine store_box (d := J (p.getD i z0)) 0 rfl hq rfl (by kernel_rfl) ?_ ?_; exact Reads.fact qM
      refine load_box (d := zd (C i : Nat)) 1 rfl hs1 rfl (load_I _ _) fun y2 => ?_
      refine load_box (d := J (p.getD i z0)) 0 rfl hq rfl (load_J _) fun y3 => ?_
      have hg := zGcdJ y2 y3 (cn (C i : Nat)) (p.getD i z0) (Lim_lims _) (Nat.le_trans hsi.len hk) hpi.1 (by omega)
      rw [jv_cn, Int.natAbs_natCast, hst' i hin] at hg
      refine call_fn hg (Seals.refl _ _) qS ?_
      rintro y4 _ _ ⟨rfl, rfl⟩
      refine store_box (d := zd (C (i + 1) : Nat)) 1 rfl hs1 rfl (by kernel_rfl) ?_ ?_; exact Reads.fact qM
      refine ar rfl qI ?_
      exact again (i + 1) (by omega) (by simp only; omega) qF (Seals.trans (Seals.drop 0 _ _) (Seals.trans (Seals.box0 rfl) (Seals.sub qS)))
    · have hip : i = p.length := by omega
      subst hip
      have hsn := hs' p.length
      rw [hlast'] at hsn
      rw [hlast']
      have hab := fun y => zAbsZ y _ _ hsn hk
      simp only [Int.natAbs_natCast] at hab
      refine load_box (d := zd (cont (vv p) : Nat)) 0 rfl hs1 rfl (load_I _ _) fun y1 => ?_
      refine call_fn (hab y1) (Seals.refl _ _) qS ?_
      rintro y2 _ _ ⟨rfl, rfl⟩
      refine store_box (d := zd (cont (vv p) : Nat)) 1 rfl ho rfl (by kernel_rfl) ?_ ?_; exact Reads.fact qM
      refine load_box (d := zd (cont (vv p) : Nat)) 1 rfl ho rfl (load_I _ _) fun r => ?_
      exact fin ⟨rfl, rfl⟩ (Seals.trans (Seals.drop 0 _ _) (Seals.trans (Seals.drop 0 _ _) (Seals.sub qS)))
theorem content_call {K : Cont} {os : List Own} {fs : List Fact} (pos : Nat) {v : Value} {l : List Int} {k : Nat} (h : nthOwn os pos = some (ownL 2 J z0 v (l.map cn))) (hs : isSl v) (hp : szR k l) (hk : k ≤ 137438953472)
    (kk : ∀ r, K r os ((r, zd (cont l : Nat)) :: fs)) : CallK Tryz.prog false (.func (.func 108) #[] #[]) [v] os fs K := by
  have hs0 : ∀ i, sz (cont (l.take i) : Nat) k := fun i => cont_sz (hp.take i)
  have hst : ∀ i, i < l.length → Nat.gcd (cont (l.take i)) (l.getD i 0).natAbs = cont (l.take (i + 1)) := fun i hi => by
    rw [cont_take hi]
  have hlast : cont (l.take l.length) = cont l := by rw [List.take_of_length_le (Nat.le_refl _)]
  have h00 : cont (l.take 0) = 0 := rfl
  generalize hC : (fun i => cont (l.take i)) = C
  have hs' : ∀ i, sz (C i : Nat) k := fun i => by rw [← hC]; exact hs0 i
  have hst' : ∀ i, i < l.length → Nat.gcd (C i) (l.getD i 0).natAbs = C (i + 1) := fun i hi => by rw [← hC]; exact hst i hi
  have hlast' : C l.length = cont l := by rw [← hC]; exact hlast
  have h0' : C 0 = 0 := by rw [← hC]; exact h00
  have hml : (l.map cn).length = l.length := List.length_map _
  refine call_inline Tryz.func108 (by kernel_rfl) rfl (by kernel_rfl) (Nat.le_of_ble_eq_true rfl) ?_
  refine alloc_rule (d := I false []) fun o ho => ?_
  refine build0 (da := .one (.bool false)) (db := U (lims 0)) (fun S w => ⟨[.bool false], [.slice none 0 0], rfl, rd_false S w, by rw [lims_zero]; exact rd_nil S w 1 _⟩) fun z => ?_
  refine alloc_rule (d := I false []) fun s hs1 => ?_
  refine store_box (d := zd 0) 0 rfl hs1 rfl (by kernel_rfl) ?_ ?_; exact Reads.fact qM
  refine len_own (pos + 2) h hs fun _ => ?_
  refine loop_rule (X := Nat) (fun i => ([(2, o), (3, s), (7, v), (8, .int .i64 ((l.map cn).length : Nat)), (9, .int .i64 (i : Nat))], own1 s 2 1 (fun _ => zd (C i : Nat)) :: own1 o 2 1 (fun _ => I false []) :: os, fs)) (fun i => i ≤ l.length) (fun i => l.length - i) rfl ?_ ?_
  · exact again 0 (Nat.zero_le _) trivial qF (Seals.trans (Seals.box0 (by rw [h0']; rfl)) (Seals.sub qD))
  · rintro i hi
    refine cmp_split _ rfl (fun hlt => ?_) (fun hlt => ?_)
    · have hin : i < l.length := by omega
      have hsi := hs' i
      have hpi := hp.get i
      refine index_elem (pos + 2) h hs i rfl (by omega) ?_
      refine load_elem' (d := zd (l.getD i 0)) (pos + 2) h i (by omega) (by rw [map_cn_get hin]; rfl) (load_I _ _) fun y1 => ?_
      refine alloc_rule (d := I false []) fun q hq => ?_
      refine store_box (d := zd (l.getD i 0)) 0 rfl hq rfl (by kernel_rfl) ?_ ?_; exact Reads.fact qM
      refine load_box (d := zd (C i : Nat)) 1 rfl hs1 rfl (load_I _ _) fun y2 => ?_
      refine load_box (d := zd (l.getD i 0)) 0 rfl hq rfl (load_I _ _) fun y3 => ?_
      have hg := zGcdZ y2 y3 _ _ _ _ hsi hpi hk hk
      rw [Int.natAbs_natCast, hst' i hin] at hg
      refine call_fn hg (Seals.refl _ _) qS ?_
      rintro y4 _ _ ⟨rfl, rfl⟩
      refine store_box (d := zd (C (i + 1) : Nat)) 1 rfl hs1 rfl (by kernel_rfl) ?_ ?_; exact Reads.fact qM
      refine ar rfl qI ?_
      exact again (i + 1) (by omega) (by simp only; omega) qF (Seals.trans (Seals.drop 0 _ _) (Seals.trans (Seals.box0 rfl) (Seals.sub qD)))
    · have hip : i = l.length := by omega
      subst hip
      have hsn := hs' l.length
      rw [hlast'] at hsn
      rw [hlast']
      have hab := fun y => zAbsZ y _ _ hsn hk
      simp only [Int.natAbs_natCast] at hab
      refine load_box (d := zd (cont l : Nat)) 0 rfl hs1 rfl (load_I _ _) fun y1 => ?_
      refine call_fn (hab y1) (Seals.refl _ _) qS ?_
      rintro y2 _ _ ⟨rfl, rfl⟩
      refine store_box (d := zd (cont l : Nat)) 1 rfl ho rfl (by kernel_rfl) ?_ ?_; exact Reads.fact qM
      refine load_box (d := zd (cont l : Nat)) 1 rfl ho rfl (load_I _ _) fun r => ?_
      exact fin (kk r) (Seals.trans (Seals.drop 0 _ _) (Seals.trans (Seals.drop 0 _ _) (Seals.sub (fun F hF => by
        rcases List.mem_cons.1 hF with rfl | hF
        · exact List.Mem.head _
        · repeat (first | exact hF | apply List.Mem.tail)))))
theorem lead_call {K : Cont} {os : List Own} {fs : List Fact} (pos : Nat) {v : Value} {l : List Int} (h : nthOwn os pos = some (ownL 2 J z0 v (l.map cn))) (hs : isSl v)
    (kk : ∀ r, K r os ((r, zd (l.getD (l.length - 1) 0)) :: fs)) : CallK Tryz.prog false (.func (.func 104) #[] #[]) [v] os fs K := by
  have hml : (l.map cn).length = l.length := List.length_map _
  refine call_inline Tryz.func104 (by kernel_rfl) rfl (by kernel_rfl) (Nat.le_of_ble_eq_true rfl) ?_
  refine alloc_rule (d := I false []) fun o ho => ?_
  refine len_own (pos + 1) h hs fun _ => ?_
  refine cmp_split _ rfl (fun h0 => ?_) (fun h0 => ?_)
  · have h0 : l = [] := List.length_eq_zero_iff.1 (by omega)
    subst h0
    refine build0 (da := .one (.bool false)) (db := U (lims 0)) (fun S w => ⟨[.bool false], [.slice none 0 0], rfl, rd_false S w, by rw [lims_zero]; exact rd_nil S w 1 _⟩) fun z => ?_
    refine store_box (d := zd 0) 0 rfl ho rfl (by kernel_rfl) ?_ ?_; exact Reads.fact qM
    refine load_box (d := zd 0) 0 rfl ho rfl (load_I _ _) fun r => ?_
    exact fin (kk r) (Seals.trans (Seals.drop 0 _ _) (Seals.sub (fun F hF => by
        rcases List.mem_cons.1 hF with rfl | hF
        · exact List.Mem.head _
        · repeat (first | exact hF | apply List.Mem.tail))))
  · refine len_own (pos + 1) h hs fun _ => ?_
    refine ar rfl qI ?_
    refine index_elem (pos + 1) h hs (l.length - 1) (by omega) (by omega) ?_
    refine load_elem' (d := zd (l.getD (l.length - 1) 0)) (pos + 1) h (l.length - 1) (by omega) (by rw [map_cn_get (by omega)]; rfl) (load_I _ _) fun y1 => ?_
    refine store_box (d := zd (l.getD (l.length - 1) 0)) 0 rfl ho rfl (by kernel_rfl) ?_ ?_; exact Reads.fact qM
    refine load_box (d := zd (l.getD (l.length - 1) 0)) 0 rfl ho rfl (load_I _ _) fun r => ?_
    exact fin (kk r) (Seals.trans (Seals.drop 0 _ _) (Seals.sub (fun F hF => by
        rcases List.mem_cons.1 hF with rfl | hF
        · exact List.Mem.head _
        · repeat (first | exact hF | apply List.Mem.tail))))
open Go.RowKit
theorem rGcdN_meets (va vb : Value) (a b : List Nat) (ha : Lim a) (hb : Lim b) (la : a.length ≤ 274877906944) (lb : b.length ≤ 274877906944) :
    Meets Tryz.prog 135 [va, vb] [(va, U a), (vb, U b)] (fun r os fs => os = [] ∧ fs = [(r, U (lims (Nat.gcd (nv a) (nv b))))]) := by
  refine meets_of_vc Tryz.func135 (by kernel_rfl) rfl (by kernel_rfl) (Nat.le_of_ble_eq_true rfl) ?_
  refine call_fn (rNorm_meets va a ha (by omega)) (Seals.refl _ _) qS ?_
  rintro x _ _ ⟨rfl, rfl⟩
  refine call_fn (rNorm_meets vb b hb (by omega)) (Seals.refl _ _) qS ?_
  rintro y _ _ ⟨rfl, rfl⟩
  have hal := lims_length_le (nv_lt ha)
  have hbl := lims_length_le (nv_lt hb)
  refine loop_rule (X := (Value × Nat) × (Value × Nat)) (fun x => ([(0, x.1.1), (1, x.2.1)], [], [(x.1.1, U (lims x.1.2)), (x.2.1, U (lims x.2.2))]))
    (fun x => (lims x.1.2).length ≤ 274877906944 ∧ (lims x.2.2).length ≤ 274877906944 ∧ Nat.gcd x.1.2 x.2.2 = Nat.gcd (nv a) (nv b)) (fun x => x.2.2) rfl ?_ ?_
  · exact again ((x, nv a), (y, nv b)) ⟨by simp only; omega, by simp only; omega, rfl⟩ trivial qF (Seals.sub qS)
  · rintro ⟨⟨x, n⟩, ⟨y, d⟩⟩ ⟨h1, h2, h3⟩
    simp only at h1 h2 h3 ⊢
    refine len_fact qM fun _ => ?_
    refine cmp_split _ rfl (fun hc => ?_) (fun hc => ?_)
    · have hd : d ≠ 0 := fun e => by rw [e, lims_zero] at hc; simp at hc
      refine call_fn (rDivMod_meets x y (lims n) (lims d) (Lim_lims _) (Lim_lims _) h1 h2 (by rwa [nv_lims])) (Seals.refl _ _) qS ?_
      rintro _ _ _ ⟨rfl, q, r, rfl, rfl⟩
      have hm := Nat.mod_lt n (Nat.pos_of_ne_zero hd)
      refine again ((y, d), (r, n % d)) ⟨h2, ?_, ?_⟩ hm qF (Seals.cons (Knw.fact qM) (Seals.cons ((Knw.fact qM).cast ?_) (Seals.nil _ _)))
      · have hb := lims_length_le (Nat.lt_trans hm (by have := nv_lt (Lim_lims d); rwa [nv_lims] at this))
        simp only; omega
      · simp only; rw [Nat.gcd_comm, ← Nat.gcd_rec, Nat.gcd_comm]; exact h3
      · rw [nv_lims, nv_lims]
    · have hd : d = 0 := by
        have : (lims d).length = 0 := by omega
        exact lims_eq_nil.1 (List.eq_nil_of_length_eq_zero this)
      subst hd
      refine fin ⟨rfl, rfl⟩ (Seals.cons ((Knw.fact qM).cast ?_) (Seals.nil _ _))
      rw [← h3, Nat.gcd_zero_right]
theorem rGcdJ (v w : Value) (x y : Bool × List Nat) (hx : Lim x.2) (lx : x.2.length ≤ 137438953472) (hy : Lim y.2) (ly : y.2.length ≤ 137438953472) :
    Meets Tryz.prog 115 [v, w] [(v, J x), (w, J y)] (fun r os fs => os = [] ∧ fs = [(r, zd (Nat.gcd (jv x).natAbs (jv y).natAbs : Nat))]) := by
  rw [jv_abs, jv_abs]
  obtain ⟨s, a⟩ := x
  obtain ⟨t, b⟩ := y
  simp only at hx lx hy ly ⊢
  have hg := fun u u' => rGcdN_meets u u' a b hx hy (by omega) (by omega)
  have hl : (lims (Nat.gcd (nv a) (nv b))).length ≤ 1099511627776 := by
    by_cases h0 : nv a = 0
    · rw [h0, Nat.gcd_zero_left]
      exact Nat.le_trans (lims_length_le (nv_lt hy)) (by omega)
    · exact Nat.le_trans (lims_length_le (Nat.lt_of_le_of_lt (Nat.gcd_le_left _ (Nat.pos_of_ne_zero h0)) (nv_lt hx))) (by omega)
  have hm := fun u => rMake_meets u false (lims (Nat.gcd (nv a) (nv b))) (Lim_lims _) hl
  have e : iv false (lims (Nat.gcd (nv a) (nv b))) = (Nat.gcd (nv a) (nv b) : Nat) := by unfold iv; rw [nv_lims]; rfl
  rw [e] at hm
  generalize Nat.gcd (nv a) (nv b) = g at *
  refine meets_of_vc Tryz.func115 (by kernel_rfl) rfl (by kernel_rfl) (Nat.le_of_ble_eq_true rfl) ?_
  refine box_rule (Reads.fact (d := I s a) qM) fun p hp => ?_
  refine box_rule (Reads.fact (d := I t b) qM) fun q hq => ?_
  refine alloc_rule (d := I false []) fun o ho => ?_
  refine field_box 2 rfl hp ?_
  refine load_box_field 2 rfl (Part.right (Part.refl _)) (load_L _) fun u1 => ?_
  refine field_box 1 rfl hq ?_
  refine load_box_field 1 rfl (Part.right (Part.refl _)) (load_L _) fun u2 => ?_
  refine call_fn (hg u1 u2) (Seals.refl _ _) qS ?_
  rintro u3 _ _ ⟨rfl, rfl⟩
  refine call_fn (hm u3) (Seals.refl _ _) qS ?_
  rintro r0 _ _ ⟨rfl, rfl⟩
  refine store_box (d := zd (g : Nat)) 0 rfl ho rfl (by kernel_rfl) ?_ ?_; exact Reads.fact qM
  refine load_box (d := zd (g : Nat)) 0 rfl ho rfl (load_I _ _) fun r => ?_
  exact fin ⟨rfl, rfl⟩ (Seals.trans (Seals.drop 0 _ _) (Seals.trans (Seals.drop 0 _ _) (Seals.trans (Seals.drop 0 _ _) (Seals.sub qS))))
theorem rGcdZ (v w : Value) (x y : Int) (a b : Nat) (hx : sz x a) (hy : sz y b) (ha : a ≤ 137438953472) (hb : b ≤ 137438953472) :
    Meets Tryz.prog 115 [v, w] [(v, zd x), (w, zd y)] (fun r os fs => os = [] ∧ fs = [(r, zd (Nat.gcd x.natAbs y.natAbs : Nat))]) := by
  have h := rGcdJ v w (cn x) (cn y) (Lim_lims _) (Nat.le_trans hx.len ha) (Lim_lims _) (Nat.le_trans hy.len hb)
  rw [jv_cn, jv_cn] at h
  exact h
theorem rAbsZ (v : Value) (x : Int) (a : Nat) (hx : sz x a) (ha : a ≤ 137438953472) :
    Meets Tryz.prog 33 [v] [(v, zd x)] (fun r os fs => os = [] ∧ fs = [(r, zd (x.natAbs : Nat))]) := by
  have h := rAbs_meets v (decide (x < 0)) (lims x.natAbs) (Lim_lims _) (Nat.le_trans hx.len (by omega))
  rw [iv_zd] at h
  exact h
open Go.RowKit
theorem rshift_meets (n : Int) : Meets Tryz.prog 138 [.int .i64 n] [] (fun r os fs => os = [] ∧ fs = [] ∧ r = .int .i64 (far n : Nat)) := by
  refine meets_of_vc Tryz.func138 (by kernel_rfl) rfl (by kernel_rfl) (Nat.le_of_ble_eq_true rfl) ?_
  refine min2_rule ?_
  refine max2_rule ?_
  have hK : max 0 (min n 8192) = (far n : Int) := by unfold far; omega
  rw [hK]
  exact fin ⟨rfl, rfl, rfl⟩ (Seals.nil _ _)
theorem rShl01_meets (v : Value) (a : List Nat) (n : Int) (ha : Lim a) (la : a.length ≤ 274877906944) :
    Meets Tryz.prog 124 [v, .int .i64 n] [(v, U a)] (fun r os fs => os = [] ∧ fs = [(r, U (lims (nv a * 2 ^ far n)))]) := by
  have hK2 : far n ≤ 8192 := by unfold far; omega
  have hsh := rshift_meets n
  generalize far n = K at *
  have hq : K / 32 ≤ 256 := by omega
  have hs : K % 32 < 32 := Nat.mod_lt _ (by decide)
  have hpow : 2 ^ K = 4294967296 ^ (K / 32) * 2 ^ (K % 32) := by
    rw [show (4294967296 : Nat) = 2 ^ 32 from rfl, ← Nat.pow_mul, ← Nat.pow_add, Nat.div_add_mod K 32]
  have h2s : 2 ^ (K % 32) < 4294967296 := Nat.lt_of_lt_of_le (Nat.pow_lt_pow_right (by decide) hs) (by decide)
  have h1 := digs_len ha
  have h3 : (digs (nv a * 2 ^ (K % 32))).length ≤ 2 * a.length + 1 := by
    refine digs_length_le ?_
    rw [Nat.pow_succ, pow_two_mul]
    exact Nat.mul_lt_mul'' (nv_lt ha) h2s
  have hval : dv (List.replicate (K / 32) 0 ++ digs (nv a * 2 ^ (K % 32))) = nv a * 2 ^ K := by
    rw [dv_append, dv_replicate, dv_digs, List.length_replicate, hpow, Nat.zero_add]
    rw [Nat.mul_left_comm]
  refine meets_of_vc Tryz.func124 (by kernel_rfl) rfl (by kernel_rfl) (Nat.le_of_ble_eq_true rfl) ?_
  refine call_fn hsh (Seals.refl _ _) qS ?_
  rintro _ _ _ ⟨rfl, rfl, rfl⟩
  refine call_fn (digits_meets v a ha (by omega)) (Seals.refl _ _) qS ?_
  rintro x _ _ ⟨rfl, rfl⟩
  refine rem_rule (by omega) (by decide) ?_
  refine conv_int ⟨_, Tryz.underlying3⟩ Tryz.underlying96 ((K : Int) % 32) (wrap_in ⟨by omega, by omega⟩) ?_
  refine shl_rule 1 (K % 32) rfl (by omega) (by omega) ?_
  have e1 : ((1 * 2 ^ (K % 32) % 18446744073709551616 : Nat) : Int) = ((2 ^ (K % 32) : Nat) : Int) := by
    rw [Nat.one_mul, Nat.mod_eq_of_lt (by omega)]
  rw [e1]
  refine call_fn (rtimes_meets x (digs (nv a)) (2 ^ (K % 32)) (Dig_digs _) h2s (by omega)) (Seals.refl _ _) qS ?_
  rintro y _ _ ⟨rfl, rfl⟩
  rw [dv_digs]
  refine quo_rule (by omega) (by decide) ⟨by omega, by omega⟩ ?_
  refine make_U (K / 32) (by omega) (by omega) (by omega) (by omega) fun z hz => ?_
  refine append_U 0 rfl hz (Knw.fact qM) (by rw [List.length_replicate]; omega) (by rw [List.length_replicate]; omega) fun z2 hz2 => ?_
  refine call_fn (limbs_meets z2 (List.replicate (K / 32) 0 ++ digs (nv a * 2 ^ (K % 32))) (Dig.append (Dig.replicate _) (Dig_digs _)) (by rw [List.length_append, List.length_replicate]; omega)) (Seals.U 0 rfl hz2) qS ?_
  rintro r _ _ ⟨rfl, rfl⟩
  rw [hval]
  exact fin ⟨rfl, rfl⟩ (Seals.sub qS)
theorem rShlJ (v : Value) (x : Bool × List Nat) (n : Int) (hx : Lim x.2) (lx : x.2.length ≤ 274877906944) :
    Meets Tryz.prog 118 [v, .int .i64 n] [(v, J x)] (fun r os fs => os = [] ∧ fs = [(r, zd (jv x * 2 ^ far n))]) := by
  have e : iv x.1 (lims (nv x.2 * 2 ^ far n)) = jv x * 2 ^ far n := by
    unfold jv iv
    rw [nv_lims]
    cases x.1 <;> simp [Int.neg_mul]
  have hl : (lims (nv x.2 * 2 ^ far n)).length ≤ x.2.length + 129 := by
    refine lims_length_le ?_
    rw [Nat.pow_add]
    have hK2 : far n ≤ 8192 := by unfold far; omega
    have key : ∀ K m : Nat, K < 64 * m → 2 ^ K < 18446744073709551616 ^ m := fun K m h => by
      rw [show (18446744073709551616 : Nat) = 2 ^ 64 from rfl, ← Nat.pow_mul]
      exact Nat.pow_lt_pow_right (by decide) h
    exact Nat.mul_lt_mul'' (nv_lt hx) (key _ _ (by omega))
  refine meets_of_vc Tryz.func118 (by kernel_rfl) rfl (by kernel_rfl) (Nat.le_of_ble_eq_true rfl) ?_
  refine box_rule (Reads.fact (d := I x.1 x.2) qM) fun p hp => ?_
  refine alloc_rule (d := I false []) fun o ho => ?_
  refine draw_rule [0, 1, 2, 3, 4, 5, 6, 7] [0, 1, 2, 3, 4, 5, 6, 7] (by kernel_rfl) (by kernel_rfl) ?_
  refine field_box 1 rfl hp ?_
  refine load_box_field_one 1 rfl (Part.left (Part.refl _)) ?_
  refine field_box 1 rfl hp ?_
  refine load_box_field 1 rfl (Part.right (Part.refl _)) (load_L _) fun u1 => ?_
  refine call_fn (rShl01_meets u1 x.2 n hx lx) (Seals.refl _ _) qS ?_
  rintro u2 _ _ ⟨rfl, rfl⟩
  refine call_fn (rMake_meets u2 x.1 (lims (nv x.2 * 2 ^ far n)) (Lim_lims _) (by omega)) (Seals.refl _ _) qS ?_
  rintro u3 _ _ ⟨rfl, rfl⟩
  rw [e]
  refine store_box (d := zd (jv x * 2 ^ far n)) 0 rfl ho rfl (by kernel_rfl) ?_ ?_; exact Reads.fact qM
  refine load_box (d := zd (jv x * 2 ^ far n)) 0 rfl ho rfl (load_I _ _) fun r => ?_
  exact fin ⟨rfl, rfl⟩ (Seals.trans (Seals.drop 0 _ _) (Seals.trans (Seals.drop 0 _ _) (Seals.sub (fs' := [(r, zd (jv x * 2 ^ far n))]) qS)))
theorem rShlZ (v : Value) (x : Int) (n : Int) (a : Nat) (hx : sz x a) (ha : a ≤ 274877906944) :
    Meets Tryz.prog 118 [v, .int .i64 n] [(v, zd x)] (fun r os fs => os = [] ∧ fs = [(r, zd (x * 2 ^ far n))]) := by
  have h := rShlJ v (cn x) n (Lim_lims _) (Nat.le_trans hx.len ha)
  rw [jv_cn] at h
  exact h
end Go.Proofs.YtgpcepcbdpigfaaGreat
