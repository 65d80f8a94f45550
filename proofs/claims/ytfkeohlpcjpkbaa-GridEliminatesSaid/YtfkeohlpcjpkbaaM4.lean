/- Towards the statement, part 4 of 5: contracts of functions, and what they rest on. Conditions: each theorem names its own. -/
import Derived.Test.YtfkeohlpcjpkbaaM3
import Derived.DeepKeys4
set_option linter.unusedVariables false
set_option linter.unusedSimpArgs false

namespace Go.Proofs.Ytfkeohlpcjpkbaa
open Go.RowKit
theorem load_elem' {P : Program} {t : TypeId} {v : Value} {size n : Nat} {e : Nat → Dat} {os : List Own} {fs : List Fact} {K : Cont} (pos : Nat) (h : nthOwn os pos = some (own1 v size n e)) (j : Nat)
    (hj : j < n) {d : Dat} (hd : e j = d) (ht : LoadAs P t d) (k' : ∀ u, K u os ((u, d) :: fs)) : LoadK P t (eptr v (j * size)) os fs K := by
  subst hd
  exact load_elem pos h j hj ht k'
theorem zAddJ (v w : Value) (x y : Bool × List Nat) (hx : Lim x.2) (lx : x.2.length ≤ 137438953472) (hy : Lim y.2) (ly : y.2.length ≤ 137438953472) :
    Meets Try.prog 51 [v, w] [(v, J x), (w, J y)] (fun r os fs => os = [] ∧ fs = [(r, zd (jv x + jv y))]) := zadd_meets v w x.1 y.1 x.2 y.2 hx hy lx ly
def sumco (ps : List Row) (i y : Nat) : Int := isum (fun t => (vv (ps.getD t [])).getD y 0) i
theorem sumco_sz {ps : List Row} {k i : Nat} (h : Fits k ps) (hi : i < 18446744073709551616) (y : Nat) : sz (sumco ps i y) (k + 1) := isum_sz (fun t _ => (h.get t).szR.get y) hi
def mxl (ps : List Row) : Nat → Nat
  | 0 => 0
  | i + 1 => max (mxl ps i) (ps.getD i []).length
theorem mxl_le {ps : List Row} {n m : Nat} (h : ∀ i, (ps.getD i []).length ≤ m) : mxl ps n ≤ m := by
  induction n with
  | zero => exact Nat.zero_le _
  | succ n ih => exact Nat.max_le.2 ⟨ih, h n⟩
theorem le_mxl {ps : List Row} {n i : Nat} (h : i < n) : (ps.getD i []).length ≤ mxl ps n := by
  induction n with
  | zero => omega
  | succ n ih =>
    by_cases e : i = n
    · subst e; exact Nat.le_max_right _ _
    · exact Nat.le_trans (ih (by omega)) (Nat.le_max_left _ _)
theorem sum_s (a b : Nat → Int) (j y : Nat) : upd (fun y => zd (a y + if y < j then b y else 0)) j (zd (a j + b j)) y = zd (a y + if y < j + 1 then b y else 0) :=
  upd_zd (G := fun y => a y + if y < j then b y else 0) (H := fun y => a y + if y < j + 1 then b y else 0) (by
    rw [if_pos (by omega)]) (fun y hy => by
    by_cases h2 : y < j
    · rw [if_pos h2, if_pos (by omega)]
    · rw [if_neg h2, if_neg (by omega)]) y
theorem pSum_meets (v : Value) (ps : List Row) (k : Nat) (hf : Fits k ps) (hk : k + 1 ≤ 137438953472) (lp : ps.length ≤ 1048576) (ln : ∀ i, (ps.getD i []).length ≤ 4294967296) :
    Meets Try.prog 74 [v] [(v, W ps)] (fun r os fs => os = [] ∧ fs = [(r, vd (nrm (lst (mxl ps ps.length) (sumco ps ps.length))))]) := by
  have hM : mxl ps ps.length ≤ 4294967296 := mxl_le ln
  have hss : ∀ i y, i ≤ ps.length → sz (sumco ps i y) (k + 1) := fun i y hi => sumco_sz hf (by omega) y
  have hle : ∀ i, i < ps.length → (ps.getD i []).length ≤ mxl ps ps.length := fun i hi => le_mxl hi
  generalize hMe : mxl ps ps.length = M at *
  refine meets_of_vc Try.func74 (by kernel_rfl) rfl (by kernel_rfl) (Nat.le_of_ble_eq_true rfl) ?_
  refine len_fact (by repeat (first | exact List.Mem.head _ | apply List.Mem.tail)) fun _ => ?_
  refine loop_rule (X := Nat) (fun i => ([(0, v), (3, .int .i64 (mxl ps i : Nat)), (11, v), (12, .int .i64 (ps.length : Nat)), (13, .int .i64 (i : Nat))], [], [(v, W ps)])) (fun i => i ≤ ps.length) (fun i => ps.length - i) rfl ?_ ?_
  · exact again 0 (Nat.zero_le _) trivial (by repeat (first | exact trivial | refine ⟨rfl, ?_⟩ | refine ⟨i64_eq (by first | omega | (simp only; omega)), ?_⟩ | refine ⟨u64_eq (by first | omega | (simp only; omega)), ?_⟩)) (Seals.sub (by repeat (first | exact Sub.nil _ | refine Sub.cons (by repeat (first | exact List.Mem.head _ | apply List.Mem.tail)) ?_)))
  · rintro i hi
    refine cmp_split _ rfl (fun hlt => ?_) (fun hlt => ?_)
    · have hin : i < ps.length := by omega
      refine index_fact (by repeat (first | exact List.Mem.head _ | apply List.Mem.tail)) i rfl hin fun a1 => ?_
      refine load_fact (d := V (ps.getD i [])) (by repeat (first | exact List.Mem.head _ | apply List.Mem.tail)) (load_P _) fun x1 => ?_
      refine len_fact (by repeat (first | exact List.Mem.head _ | apply List.Mem.tail)) fun _ => ?_
      refine max2_rule ?_
      refine ar rfl (by first | exact ⟨by omega, by omega⟩ | (simp only [inK]; omega)) ?_
      have hmx : mxl ps (i + 1) = max (mxl ps i) (ps.getD i []).length := rfl
      exact again (i + 1) (by omega) (by simp only; omega) (by repeat (first | exact trivial | refine ⟨rfl, ?_⟩ | refine ⟨i64_eq (by first | omega | (simp only; omega)), ?_⟩ | refine ⟨u64_eq (by first | omega | (simp only; omega)), ?_⟩)) (Seals.sub (by repeat (first | exact Sub.nil _ | refine Sub.cons (by repeat (first | exact List.Mem.head _ | apply List.Mem.tail)) ?_)))
    · have hip : i = ps.length := by omega
      subst hip
      rw [hMe]
      refine make_rule (t := 28) (d := I false []) M rfl rfl (by omega) (by omega) fun u hu => ?_
      refine len_fact (by repeat (first | exact List.Mem.head _ | apply List.Mem.tail)) fun _ => ?_
      refine loop_rule (X := Nat) (fun i => ([(6, u), (24, v), (25, .int .i64 (ps.length : Nat)), (26, .int .i64 (i : Nat))], [own1 u 2 M (fun y => zd (sumco ps i y))], [(v, W ps)])) (fun i => i ≤ ps.length) (fun i => ps.length - i) rfl ?_ ?_
      · exact again 0 (Nat.zero_le _) trivial (by repeat (first | exact trivial | refine ⟨rfl, ?_⟩ | refine ⟨i64_eq (by first | omega | (simp only; omega)), ?_⟩ | refine ⟨u64_eq (by first | omega | (simp only; omega)), ?_⟩)) (Seals.trans (Seals.own_cong (os := [_]) 0 (fun y => zd (sumco ps 0 y)) rfl rfl fun y _ => zero_zd) (Seals.sub (by repeat (first | exact Sub.nil _ | refine Sub.cons (by repeat (first | exact List.Mem.head _ | apply List.Mem.tail)) ?_))))
      · rintro i hi
        refine cmp_split _ rfl (fun hlt => ?_) (fun hlt => ?_)
        · have hin : i < ps.length := by omega
          have hli := hle i hin
          have hfi := hf.get i
          refine index_fact (by repeat (first | exact List.Mem.head _ | apply List.Mem.tail)) i rfl hin fun a1 => ?_
          refine load_fact (d := V (ps.getD i [])) (by repeat (first | exact List.Mem.head _ | apply List.Mem.tail)) (load_P _) fun x1 => ?_
          refine len_fact (by repeat (first | exact List.Mem.head _ | apply List.Mem.tail)) fun _ => ?_
          have hnext : ∀ y, sumco ps (i + 1) y = sumco ps i y + (vv (ps.getD i [])).getD y 0 := fun y => rfl
          generalize hp : ps.getD i [] = p at *
          refine loop_rule (X := Nat) (fun j => ([(6, u), (24, v), (25, .int .i64 (ps.length : Nat)), (26, .int .i64 (i : Nat)), (30, x1), (31, .int .i64 (p.length : Nat)), (32, .int .i64 (j : Nat))],
            [own1 u 2 M (fun y => zd (sumco ps i y + if y < j then (vv p).getD y 0 else 0))], [(v, W ps), (x1, V p)])) (fun j => j ≤ p.length) (fun j => p.length - j) rfl ?_ ?_
          · exact again 0 (Nat.zero_le _) trivial (by repeat (first | exact trivial | refine ⟨rfl, ?_⟩ | refine ⟨i64_eq (by first | omega | (simp only; omega)), ?_⟩ | refine ⟨u64_eq (by first | omega | (simp only; omega)), ?_⟩)) (Seals.trans (Seals.own_cong (os := [_]) 0 (fun y => zd (sumco ps i y + if y < 0 then (vv p).getD y 0 else 0)) rfl rfl fun y _ => by rw [if_neg (Nat.not_lt_zero _), Int.add_zero]) (Seals.sub (by repeat (first | exact Sub.nil _ | refine Sub.cons (by repeat (first | exact List.Mem.head _ | apply List.Mem.tail)) ?_))))
          · rintro j hj
            refine cmp_split _ rfl (fun hlj => ?_) (fun hlj => ?_)
            · have hjn : j < p.length := by omega
              have hpj := hfi.get j
              have hgj := vv_get p j hjn
              have hsj := hss i j hi
              refine index_fact (by repeat (first | exact List.Mem.head _ | apply List.Mem.tail)) j rfl hjn fun b1 => ?_
              refine load_fact (d := J (p.getD j z0)) (by repeat (first | exact List.Mem.head _ | apply List.Mem.tail)) (load_J _) fun y1 => ?_
              refine alloc_rule (d := I false []) fun q hq => ?_
              refine store_box (d := J (p.getD j z0)) 0 rfl hq rfl (by kernel_rfl) ?_ ?_; exact Reads.fact (by repeat (first | exact List.Mem.head _ | apply List.Mem.tail))
              refine draw_rule [0, 1, 2, 3, 4, 5, 6, 7, 8, 9] [0, 1, 2, 3, 4, 5, 6, 7, 8, 9] (by kernel_rfl) (by kernel_rfl) ?_
              refine index_elem 1 rfl hu j rfl (by omega) ?_
              refine load_elem' (d := zd (sumco ps i j)) 1 rfl j (by omega) (by simp) (load_I _ _) fun y2 => ?_
              refine load_box (d := J (p.getD j z0)) 0 rfl hq rfl (load_J _) fun y3 => ?_
              have hadd := zAddJ y2 y3 (cn (sumco ps i j)) (p.getD j z0) (Lim_lims _) (Nat.le_trans hsj.len (by omega)) hpj.1 (by omega)
              rw [jv_cn, ← hgj] at hadd
              refine call_fn hadd (Seals.refl _ _) (by repeat (first | exact Sub.nil _ | refine Sub.cons (by repeat (first | exact List.Mem.head _ | apply List.Mem.tail)) ?_)) ?_
              rintro y4 _ _ ⟨rfl, rfl⟩
              refine index_elem 1 rfl hu j rfl (by omega) ?_
              refine StoreK.post (store_elem (d := zd (sumco ps i j + (vv p).getD j 0)) 1 rfl j (by omega) rfl (by kernel_rfl) (Reads.fact (by repeat (first | exact List.Mem.head _ | apply List.Mem.tail))) ⟨_, _, Seals.own_cong (os := [_, _]) 1 (fun y => zd (sumco ps i y + if y < j + 1 then (vv p).getD y 0 else 0)) rfl rfl (fun y _ => sum_s (sumco ps i) (fun y => (vv p).getD y 0) j y), ?_⟩)
              refine ar rfl (by first | exact ⟨by omega, by omega⟩ | (simp only [inK]; omega)) ?_
              exact again (j + 1) (by omega) (by simp only; omega) (by repeat (first | exact trivial | refine ⟨rfl, ?_⟩ | refine ⟨i64_eq (by first | omega | (simp only; omega)), ?_⟩ | refine ⟨u64_eq (by first | omega | (simp only; omega)), ?_⟩)) (Seals.trans (Seals.drop 0 _ _) (Seals.sub (by repeat (first | exact Sub.nil _ | refine Sub.cons (by repeat (first | exact List.Mem.head _ | apply List.Mem.tail)) ?_))))
            · have hend : ∀ y, zd (sumco ps i y + if y < j then (vv p).getD y 0 else 0) = zd (sumco ps (i + 1) y) := fun y => by
                rw [hnext]
                by_cases h2 : y < j
                · rw [if_pos h2]
                · rw [if_neg h2, getD_none (by rw [vv_len]; omega)]
              refine ar rfl (by first | exact ⟨by omega, by omega⟩ | (simp only [inK]; omega)) ?_
              refine again (i + 1) (by omega) (by simp only; omega) (by repeat (first | exact trivial | refine ⟨rfl, ?_⟩ | refine ⟨i64_eq (by first | omega | (simp only; omega)), ?_⟩ | refine ⟨u64_eq (by first | omega | (simp only; omega)), ?_⟩)) (Seals.trans (Seals.own_cong (os := [_]) 0 (fun y => zd (sumco ps (i + 1) y)) rfl rfl fun y _ => hend y) (Seals.sub (by repeat (first | exact Sub.nil _ | refine Sub.cons (by repeat (first | exact List.Mem.head _ | apply List.Mem.tail)) ?_))))
        · have hip : i = ps.length := by omega
          subst hip
          refine call_fn (pNormT u (lst M (sumco ps ps.length)) (szR.lst fun y _ => (hss _ y (Nat.le_refl _)).mono hk) (by rw [lst_len]; omega)) (Seals.told (g := sumco ps ps.length) hu fun y hy => rfl) (by repeat (first | exact Sub.nil _ | refine Sub.cons (by repeat (first | exact List.Mem.head _ | apply List.Mem.tail)) ?_)) ?_
          rintro r _ _ ⟨rfl, rfl⟩
          exact fin ⟨rfl, rfl⟩ (Seals.sub (by repeat (first | exact Sub.nil _ | refine Sub.cons (by repeat (first | exact List.Mem.head _ | apply List.Mem.tail)) ?_)))
theorem padd_eq (p q : Row) : nrm (lst (mxl [p, q] 2) (sumco [p, q] 2)) = padd (vv p) (vv q) := by
  unfold padd
  have h1 : mxl [p, q] 2 = max (vv p).length (vv q).length := by
    rw [vv_len, vv_len]
    show max (max 0 p.length) q.length = _
    omega
  rw [h1]
  congr 1
  refine lst_congr fun i _ => ?_
  show 0 + (vv p).getD i 0 + (vv q).getD i 0 = _
  omega
theorem pSum2_meets (v : Value) (p q : Row) (k : Nat) (hp : Fit k p) (hq : Fit k q) (hk : k + 1 ≤ 137438953472) (lp : p.length ≤ 4294967296) (lq : q.length ≤ 4294967296) :
    Meets Try.prog 74 [v] [(v, W [p, q])] (fun r os fs => os = [] ∧ fs = [(r, vd (padd (vv p) (vv q)))]) := by
  have h := pSum_meets v [p, q] k (fun r hr => by
    rcases List.mem_cons.1 hr with rfl | hr
    · exact hp
    · rcases List.mem_cons.1 hr with rfl | hr
      · exact hq
      · simp at hr) hk (by show 2 ≤ 1048576; omega) (fun i => by
    match i with
    | 0 => exact lp
    | 1 => exact lq
    | i + 2 => show 0 ≤ _; omega)
  have e : nrm (lst (mxl [p, q] [p, q].length) (sumco [p, q] [p, q].length)) = padd (vv p) (vv q) := padd_eq p q
  rw [e] at h
  exact h
end Go.Proofs.Ytfkeohlpcjpkbaa

namespace Go.Proofs.Ytfkeohlpcjpkbaa
open Go.RowKit
theorem prai_zero (c : Int) (l : List Int) : prai c 0 l = ptim c l := rfl
theorem szR.map {k a : Nat} {c : Int} {l : List Int} (h : szR k l) (hc : sz c a) : szR (k + a) (l.map fun y => c * y) := fun x hx => by
  obtain ⟨y, hy, rfl⟩ := List.mem_map.1 hx
  rw [Nat.add_comm]; exact hc.mul (h y hy)
theorem szR.prai {k a : Nat} {c : Int} {l : List Int} (h : szR k l) (hc : sz c a) (s : Nat) : szR (k + a) (prai c s l) := szR.nrm fun x hx => by
  rcases List.mem_append.1 hx with h1 | h1
  · rw [(List.mem_replicate.1 h1).2]; exact sz_zero _
  · exact h.map hc x h1
theorem prai_len (c : Int) (s : Nat) (l : List Int) : (prai c s l).length ≤ s + l.length := Nat.le_trans (nrm_length_le _) (by rw [up_len, List.length_map]; exact Nat.le_refl _)
theorem szR.padd {k : Nat} {l m : List Int} (h : szR k l) (h' : szR k m) : szR (k + 1) (padd l m) := szR.nrm (szR.lst fun i _ => by
  have := sz_sub (h.get i) ((h'.get i).neg)
  rwa [Int.sub_neg] at this)
theorem padd_len (l m : List Int) : (padd l m).length ≤ max l.length m.length := Nat.le_trans (nrm_length_le _) (by rw [lst_len]; exact Nat.le_refl _)
theorem szR.psub {k : Nat} {l m : List Int} (h : szR k l) (h' : szR k m) : szR (k + 1) (psub l m) := szR.nrm (szR.lst fun i _ => sz_sub (h.get i) (h'.get i))
theorem psub_len (l m : List Int) : (psub l m).length ≤ max l.length m.length := Nat.le_trans (nrm_length_le _) (by rw [lst_len]; exact Nat.le_refl _)
theorem szR.neg {k : Nat} {l : List Int} (h : szR k l) : szR k (Go.Proofs.Ytfkeohlpcjpkbaa.prai (-1) 0 l) := szR.nrm fun x hx => by
  rcases List.mem_append.1 hx with h1 | h1
  · rw [(List.mem_replicate.1 h1).2]; exact sz_zero _
  · obtain ⟨y, hy, rfl⟩ := List.mem_map.1 h1
    have := (h y hy).neg
    rwa [← Int.neg_one_mul] at this
theorem padd_neg (l m : List Int) : padd l (prai (-1) 0 m) = psub l m := (padd_nm _ _).ext (psub_nm _ _) fun x => by
  rw [ev_padd, ev_prai, ev_psub, Int.pow_zero]; omega
theorem sz_one (x : Int) (h : x.natAbs ≤ 1) : sz x 1 := by
  unfold sz; omega
theorem pTimesJ (v w : Value) (p : Row) (cj : Bool × List Nat) (k a : Nat) (hp : Fit k p) (hcl : Lim cj.2) (hca : cj.2.length ≤ a) (hk : k + a ≤ 137438953472) (lp : p.length ≤ 1073741824) :
    Meets Try.prog 47 [v, w] [(v, V p), (w, J cj)] (fun r os fs => os = [] ∧ fs = [(r, vd (ptim (jv cj) (vv p)))]) := by
  have hr := fun u => pRaisedJ v u p cj 0 k a hp hcl hca hk lp (by omega)
  simp only [prai_zero] at hr
  refine meets_of_vc Try.func47 (by kernel_rfl) rfl (by kernel_rfl) (Nat.le_of_ble_eq_true rfl) ?_
  refine box_fact (Reads.fact (d := J cj) (by repeat (first | exact List.Mem.head _ | apply List.Mem.tail))) fun q => ?_
  refine load_fact (d := J cj) (by repeat (first | exact List.Mem.head _ | apply List.Mem.tail)) (load_J _) fun y1 => ?_
  refine call_fn (hr y1) (Seals.refl _ _) (by repeat (first | exact Sub.nil _ | refine Sub.cons (by repeat (first | exact List.Mem.head _ | apply List.Mem.tail)) ?_)) ?_
  rintro r _ _ ⟨rfl, rfl⟩
  exact fin ⟨rfl, rfl⟩ (Seals.sub (by repeat (first | exact Sub.nil _ | refine Sub.cons (by repeat (first | exact List.Mem.head _ | apply List.Mem.tail)) ?_)))
theorem pTimes_meets (v w : Value) (p : Row) (c : Int) (k a : Nat) (hp : Fit k p) (hc : sz c a) (hk : k + a ≤ 137438953472) (lp : p.length ≤ 1073741824) :
    Meets Try.prog 47 [v, w] [(v, V p), (w, zd c)] (fun r os fs => os = [] ∧ fs = [(r, vd (ptim c (vv p)))]) := by
  have h := pTimesJ v w p (cn c) k a hp (Lim_lims _) hc.len hk lp
  rw [jv_cn] at h
  exact h
theorem pTimesT (v w : Value) (l : List Int) (c : Int) (k a : Nat) (hp : szR k l) (hc : sz c a) (hk : k + a ≤ 137438953472) (lp : l.length ≤ 1073741824) :
    Meets Try.prog 47 [v, w] [(v, vd l), (w, zd c)] (fun r os fs => os = [] ∧ fs = [(r, vd (ptim c l))]) := by
  have h := pTimes_meets v w (l.map cn) c k a hp.fit hc hk (by rw [List.length_map]; exact lp)
  rw [vv_cn] at h
  exact h
theorem pSub_meets (v w : Value) (p q : Row) (k : Nat) (hp : Fit k p) (hq : Fit k q) (hk : k + 1 ≤ 137438953472) (lp : p.length ≤ 1073741824) (lq : q.length ≤ 1073741824) :
    Meets Try.prog 45 [v, w] [(v, V p), (w, V q)] (fun r os fs => os = [] ∧ fs = [(r, vd (psub (vv p) (vv q)))]) := by
  have hr := fun u => pRaised_meets w u q (-1) 0 k 1 hq (sz_one _ (by decide)) hk lq (by omega)
  have hs := fun u => pSum2_meets u p ((prai (-1) 0 (vv q)).map cn) k hp hq.szR.neg.fit hk (by omega) (by
    have := prai_len (-1) 0 (vv q)
    rw [vv_len] at this
    rw [List.length_map]; omega)
  simp only [vv_cn, padd_neg] at hs
  refine meets_of_vc Try.func45 (by kernel_rfl) rfl (by kernel_rfl) (Nat.le_of_ble_eq_true rfl) ?_
  refine call_fn (zof_meets (-1) (by decide) (by decide)) (Seals.refl _ _) (by repeat (first | exact Sub.nil _ | refine Sub.cons (by repeat (first | exact List.Mem.head _ | apply List.Mem.tail)) ?_)) ?_
  rintro x1 _ _ ⟨rfl, rfl⟩
  refine call_fn (hr x1) (Seals.refl _ _) (by repeat (first | exact Sub.nil _ | refine Sub.cons (by repeat (first | exact List.Mem.head _ | apply List.Mem.tail)) ?_)) ?_
  rintro x2 _ _ ⟨rfl, rfl⟩
  refine lit2_L (size := 1) (f := V) (z := []) (e := 28) p ((prai (-1) 0 (vv q)).map cn) (by decide) (Reads.fact (by repeat (first | exact List.Mem.head _ | apply List.Mem.tail))) (Reads.fact (by repeat (first | exact List.Mem.head _ | apply List.Mem.tail))) rfl rfl fun x3 => ?_
  refine call_fn (hs x3) (Seals.refl _ _) (by repeat (first | exact Sub.nil _ | refine Sub.cons (by repeat (first | exact List.Mem.head _ | apply List.Mem.tail)) ?_)) ?_
  rintro r _ _ ⟨rfl, rfl⟩
  exact fin ⟨rfl, rfl⟩ (Seals.sub (by repeat (first | exact Sub.nil _ | refine Sub.cons (by repeat (first | exact List.Mem.head _ | apply List.Mem.tail)) ?_)))
theorem pSubT (v w : Value) (l m : List Int) (k : Nat) (hl : szR k l) (hm : szR k m) (hk : k + 1 ≤ 137438953472) (ll : l.length ≤ 1073741824) (lm : m.length ≤ 1073741824) :
    Meets Try.prog 45 [v, w] [(v, vd l), (w, vd m)] (fun r os fs => os = [] ∧ fs = [(r, vd (psub l m))]) := by
  have h := pSub_meets v w (l.map cn) (m.map cn) k hl.fit hm.fit hk (by rw [List.length_map]; exact ll) (by rw [List.length_map]; exact lm)
  rw [vv_cn, vv_cn] at h
  exact h
end Go.Proofs.Ytfkeohlpcjpkbaa

namespace Go.Proofs.Ytfkeohlpcjpkbaa
open Go.RowKit
theorem conv_succ (a b : List Int) (i y : Nat) : conv a b (i + 1) y = conv a b i y + if i ≤ y then a.getD i 0 * b.getD (y - i) 0 else 0 := rfl
theorem conv_sz {a b : List Int} {k l m : Nat} (ha : szR k a) (hb : szR l b) (hm : m < 18446744073709551616) (y : Nat) : sz (conv a b m y) (k + l + 1) := isum_sz (fun t _ => by
  split
  · exact (ha.get t).mul (hb.get _)
  · exact sz_zero _) hm
/-- The list while the product is made: of row i the first k numbers. -/
def mst (a b : List Int) (i k y : Nat) : Int := conv a b i y + if i ≤ y ∧ y < i + k then a.getD i 0 * b.getD (y - i) 0 else 0
theorem mst_0 (a b : List Int) (i y : Nat) : mst a b i 0 y = conv a b i y := by unfold mst; rw [if_neg (by omega)]; omega
theorem mst_at (a b : List Int) (i k : Nat) : mst a b i k (i + k) = conv a b i (i + k) := by unfold mst; rw [if_neg (by omega)]; omega
theorem mst_n (a b : List Int) (i y : Nat) : mst a b i b.length y = conv a b (i + 1) y := by
  unfold mst
  rw [conv_succ]
  by_cases h : i ≤ y
  · by_cases h2 : y < i + b.length
    · rw [if_pos ⟨h, h2⟩, if_pos h]
    · rw [if_neg (by omega), if_pos h, getD_none (l := b) (by omega)]; simp
  · rw [if_neg (by omega), if_neg h]
theorem mst_s (a b : List Int) (i k y : Nat) : upd (fun y => zd (mst a b i k y)) (i + k) (zd (conv a b i (i + k) + a.getD i 0 * b.getD k 0)) y = zd (mst a b i (k + 1) y) :=
  upd_zd (G := fun y => mst a b i k y) (H := fun y => mst a b i (k + 1) y) (by
    unfold mst
    rw [if_pos (by omega), Nat.add_sub_cancel_left]) (fun y hy => by
    unfold mst
    congr 1
    by_cases h : i ≤ y ∧ y < i + k
    · rw [if_pos h, if_pos (by omega)]
    · rw [if_neg h, if_neg (by omega)]) y
theorem pMul_meets (v w : Value) (p q : Row) (k l : Nat) (hp : Fit k p) (hq : Fit l q) (hk : k + l + 1 ≤ 137438953472) (lp : p.length ≤ 1073741824) (lq : q.length ≤ 1073741824) :
    Meets Try.prog 17 [v, w] [(v, V p), (w, V q)] (fun r os fs => os = [] ∧ fs = [(r, vd (pmul (vv p) (vv q)))]) := by
  have h1 := pNorm_meets v p (hp.mono (by omega)) (by omega)
  have h2 := pNorm_meets w q (hq.mono (by omega)) (by omega)
  have sa := hp.szR.nrm
  have sb := hq.szR.nrm
  have la : (nrm (vv p)).length ≤ 1073741824 := Nat.le_trans (nrm_length_le _) (by rw [vv_len]; exact lp)
  have lb : (nrm (vv q)).length ≤ 1073741824 := Nat.le_trans (nrm_length_le _) (by rw [vv_len]; exact lq)
  have hdef : pmul (vv p) (vv q) = if nrm (vv p) = [] ∨ nrm (vv q) = [] then [] else nrm (lst ((nrm (vv p)).length + (nrm (vv q)).length - 1) fun y => conv (nrm (vv p)) (nrm (vv q)) (nrm (vv p)).length y) := rfl
  generalize hPM : pmul (vv p) (vv q) = PM at *
  generalize hA : nrm (vv p) = A at *
  generalize hB : nrm (vv q) = B at *
  have hcs : ∀ i y, i ≤ A.length → sz (conv A B i y) (k + l + 1) := fun i y hi => conv_sz sa sb (by omega) y
  have h3 := fun u (hne : PM = nrm (lst (A.length + B.length - 1) fun y => conv A B A.length y)) => pNormT u (lst (A.length + B.length - 1) fun y => conv A B A.length y) ((szR.lst fun y _ => hcs _ y (Nat.le_refl _)).mono hk) (by rw [lst_len]; omega)
  refine meets_of_vc Try.func17 (by kernel_rfl) rfl (by kernel_rfl) (Nat.le_of_ble_eq_true rfl) ?_
  refine call_fn h1 (Seals.refl _ _) (by repeat (first | exact Sub.nil _ | refine Sub.cons (by repeat (first | exact List.Mem.head _ | apply List.Mem.tail)) ?_)) ?_
  rintro x1 _ _ ⟨rfl, rfl⟩
  refine call_fn h2 (Seals.refl _ _) (by repeat (first | exact Sub.nil _ | refine Sub.cons (by repeat (first | exact List.Mem.head _ | apply List.Mem.tail)) ?_)) ?_
  rintro x2 _ _ ⟨rfl, rfl⟩
  refine len_vd (by repeat (first | exact List.Mem.head _ | apply List.Mem.tail)) ?_
  refine cmp_split _ rfl (fun hz => ?_) (fun hz => ?_)
  · have : A = [] := List.length_eq_zero_iff.1 (by omega)
    rw [if_pos (.inl this)] at hdef
    exact fin ⟨rfl, rfl⟩ (by rw [hdef]; exact Seals.cons (Knw.nil 2 _) (Seals.nil _ _))
  refine len_vd (by repeat (first | exact List.Mem.head _ | apply List.Mem.tail)) ?_
  refine cmp_split _ rfl (fun hy => ?_) (fun hy => ?_)
  · have : B = [] := List.length_eq_zero_iff.1 (by omega)
    rw [if_pos (.inr this)] at hdef
    exact fin ⟨rfl, rfl⟩ (by rw [hdef]; exact Seals.cons (Knw.nil 2 _) (Seals.nil _ _))
  have hne : ¬ (A = [] ∨ B = []) := by
    rintro (h | h)
    · rw [h] at hz; simp at hz
    · rw [h] at hy; simp at hy
  rw [if_neg hne] at hdef
  refine len_vd (by repeat (first | exact List.Mem.head _ | apply List.Mem.tail)) ?_
  refine len_vd (by repeat (first | exact List.Mem.head _ | apply List.Mem.tail)) ?_
  refine ar rfl (by first | exact ⟨by omega, by omega⟩ | (simp only [inK]; omega)) ?_
  refine ar rfl (by first | exact ⟨by omega, by omega⟩ | (simp only [inK]; omega)) ?_
  refine make_rule (t := 28) (d := I false []) (A.length + B.length - 1) (by omega) (by omega) (by omega) (by omega) fun u hu => ?_
  refine len_vd (by repeat (first | exact List.Mem.head _ | apply List.Mem.tail)) ?_
  refine loop_rule (X := Nat) (fun i => ([(5, x1), (6, x2), (7, u), (31, x1), (32, .int .i64 (A.length : Nat)), (33, .int .i64 (i : Nat))], [own1 u 2 (A.length + B.length - 1) (fun y => zd (conv A B i y))], [(x1, vd A), (x2, vd B)])) (fun i => i ≤ A.length) (fun i => A.length - i) rfl ?_ ?_
  · exact again 0 (Nat.zero_le _) trivial (by repeat (first | exact trivial | refine ⟨rfl, ?_⟩ | refine ⟨i64_eq (by first | omega | (simp only; omega)), ?_⟩ | refine ⟨u64_eq (by first | omega | (simp only; omega)), ?_⟩)) (Seals.trans (Seals.own_cong (os := [_]) 0 (fun y => zd (conv A B 0 y)) rfl rfl fun y _ => zero_zd) (Seals.sub (by repeat (first | exact Sub.nil _ | refine Sub.cons (by repeat (first | exact List.Mem.head _ | apply List.Mem.tail)) ?_))))
  · rintro i hi
    refine cmp_split _ rfl (fun hlt => ?_) (fun hlt => ?_)
    · have hin : i < A.length := by omega
      have hai := sa.get i
      refine index_vd (by repeat (first | exact List.Mem.head _ | apply List.Mem.tail)) i rfl hin fun b1 => ?_
      refine load_fact (d := zd (A.getD i 0)) (by repeat (first | exact List.Mem.head _ | apply List.Mem.tail)) (load_I _ _) fun y1 => ?_
      refine alloc_rule (d := I false []) fun q1 hq1 => ?_
      refine store_box (d := zd (A.getD i 0)) 0 rfl hq1 rfl (by kernel_rfl) ?_ ?_; exact Reads.fact (by repeat (first | exact List.Mem.head _ | apply List.Mem.tail))
      refine len_vd (by repeat (first | exact List.Mem.head _ | apply List.Mem.tail)) ?_
      refine loop_rule (X := Nat) (fun j => ([(5, x1), (6, x2), (7, u), (31, x1), (32, .int .i64 (A.length : Nat)), (33, .int .i64 (i : Nat)), (8, .int .i64 (i : Nat)), (9, q1), (38, x2), (39, .int .i64 (B.length : Nat)), (40, .int .i64 (j : Nat))],
        [own1 q1 2 1 (fun _ => zd (A.getD i 0)), own1 u 2 (A.length + B.length - 1) (fun y => zd (mst A B i j y))], [(x1, vd A), (x2, vd B)])) (fun j => j ≤ B.length) (fun j => B.length - j) rfl ?_ ?_
      · exact again 0 (Nat.zero_le _) trivial (by repeat (first | exact trivial | refine ⟨rfl, ?_⟩ | refine ⟨i64_eq (by first | omega | (simp only; omega)), ?_⟩ | refine ⟨u64_eq (by first | omega | (simp only; omega)), ?_⟩)) (Seals.trans (Seals.box0 rfl) (Seals.trans (Seals.own_cong (os := [_, _]) 1 (fun y => zd (mst A B i 0 y)) rfl rfl fun y _ => by rw [mst_0]) (Seals.sub (by repeat (first | exact Sub.nil _ | refine Sub.cons (by repeat (first | exact List.Mem.head _ | apply List.Mem.tail)) ?_)))))
      · rintro j hj
        refine cmp_split _ rfl (fun hlj => ?_) (fun hlj => ?_)
        · have hjn : j < B.length := by omega
          have hbj := sb.get j
          have hcj := hcs i (i + j) hi
          refine index_vd (by repeat (first | exact List.Mem.head _ | apply List.Mem.tail)) j rfl hjn fun b2 => ?_
          refine load_fact (d := zd (B.getD j 0)) (by repeat (first | exact List.Mem.head _ | apply List.Mem.tail)) (load_I _ _) fun y2 => ?_
          refine alloc_rule (d := I false []) fun q2 hq2 => ?_
          refine store_box (d := zd (B.getD j 0)) 0 rfl hq2 rfl (by kernel_rfl) ?_ ?_; exact Reads.fact (by repeat (first | exact List.Mem.head _ | apply List.Mem.tail))
          refine draw_rule [0, 1, 2, 3, 4, 5, 6, 7, 8, 9, 10, 11, 12, 13, 14, 15] [0, 1, 2, 3, 4, 5, 6, 7, 8, 9, 10, 11, 12, 13, 14, 15] (by kernel_rfl) (by kernel_rfl) ?_
          refine ar rfl (by first | exact ⟨by omega, by omega⟩ | (simp only [inK]; omega)) ?_
          refine ar rfl (by first | exact ⟨by omega, by omega⟩ | (simp only [inK]; omega)) ?_
          refine index_elem 2 rfl hu (i + j) (by omega) (by omega) ?_
          refine load_elem' (d := zd (conv A B i (i + j))) 2 rfl (i + j) (by omega) (by rw [mst_at]) (load_I _ _) fun y3 => ?_
          refine load_box (d := zd (A.getD i 0)) 1 rfl hq1 rfl (load_I _ _) fun y4 => ?_
          refine load_box (d := zd (B.getD j 0)) 0 rfl hq2 rfl (load_I _ _) fun y5 => ?_
          refine call_fn (zMulZ y4 y5 _ _ _ _ hai hbj (by omega) (by omega)) (Seals.refl _ _) (by repeat (first | exact Sub.nil _ | refine Sub.cons (by repeat (first | exact List.Mem.head _ | apply List.Mem.tail)) ?_)) ?_
          rintro y6 _ _ ⟨rfl, rfl⟩
          refine call_fn (zAddZ y3 y6 _ _ _ _ hcj (hai.mul hbj) (by omega) (by omega)) (Seals.refl _ _) (by repeat (first | exact Sub.nil _ | refine Sub.cons (by repeat (first | exact List.Mem.head _ | apply List.Mem.tail)) ?_)) ?_
          rintro y7 _ _ ⟨rfl, rfl⟩
          refine index_elem 2 rfl hu (i + j) (by omega) (by omega) ?_
          refine StoreK.post (store_elem (d := zd (conv A B i (i + j) + A.getD i 0 * B.getD j 0)) 2 rfl (i + j) (by omega) rfl (by kernel_rfl) (Reads.fact (by repeat (first | exact List.Mem.head _ | apply List.Mem.tail))) ⟨_, _, Seals.own_cong (os := [_, _, _]) 2 (fun y => zd (mst A B i (j + 1) y)) rfl rfl (fun y _ => mst_s A B i j y), ?_⟩)
          refine ar rfl (by first | exact ⟨by omega, by omega⟩ | (simp only [inK]; omega)) ?_
          exact again (j + 1) (by omega) (by simp only; omega) (by repeat (first | exact trivial | refine ⟨rfl, ?_⟩ | refine ⟨i64_eq (by first | omega | (simp only; omega)), ?_⟩ | refine ⟨u64_eq (by first | omega | (simp only; omega)), ?_⟩)) (Seals.trans (Seals.drop 0 _ _) (Seals.sub (by repeat (first | exact Sub.nil _ | refine Sub.cons (by repeat (first | exact List.Mem.head _ | apply List.Mem.tail)) ?_))))
        · have hjB : j = B.length := by omega
          subst hjB
          refine ar rfl (by first | exact ⟨by omega, by omega⟩ | (simp only [inK]; omega)) ?_
          exact again (i + 1) (by omega) (by simp only; omega) (by repeat (first | exact trivial | refine ⟨rfl, ?_⟩ | refine ⟨i64_eq (by first | omega | (simp only; omega)), ?_⟩ | refine ⟨u64_eq (by first | omega | (simp only; omega)), ?_⟩)) (Seals.trans (Seals.drop 0 _ _) (Seals.trans (Seals.own_cong (os := [_]) 0 (fun y => zd (conv A B (i + 1) y)) rfl rfl fun y _ => by rw [mst_n]) (Seals.sub (by repeat (first | exact Sub.nil _ | refine Sub.cons (by repeat (first | exact List.Mem.head _ | apply List.Mem.tail)) ?_)))))
    · have hip : i = A.length := by omega
      subst hip
      have h3' := h3 u hdef
      rw [← hdef] at h3'
      refine call_fn h3' (Seals.told (g := fun y => conv A B A.length y) hu fun y hy => rfl) (by repeat (first | exact Sub.nil _ | refine Sub.cons (by repeat (first | exact List.Mem.head _ | apply List.Mem.tail)) ?_)) ?_
      rintro r _ _ ⟨rfl, rfl⟩
      exact fin ⟨rfl, rfl⟩ (Seals.sub (by repeat (first | exact Sub.nil _ | refine Sub.cons (by repeat (first | exact List.Mem.head _ | apply List.Mem.tail)) ?_)))
theorem pMulT (v w : Value) (p q : List Int) (k l : Nat) (hp : szR k p) (hq : szR l q) (hk : k + l + 1 ≤ 137438953472) (lp : p.length ≤ 1073741824) (lq : q.length ≤ 1073741824) :
    Meets Try.prog 17 [v, w] [(v, vd p), (w, vd q)] (fun r os fs => os = [] ∧ fs = [(r, vd (pmul p q))]) := by
  have h := pMul_meets v w (p.map cn) (q.map cn) k l hp.fit hq.fit hk (by rw [List.length_map]; exact lp) (by rw [List.length_map]; exact lq)
  rw [vv_cn, vv_cn] at h
  exact h
theorem ev_sz {l : List Int} {x : Int} {k a : Nat} (h : szR k l) (hx : sz x a) : sz (pev l x) (k + l.length * (a + 1)) := by
  induction l with
  | nil => exact sz_zero _
  | cons c l ih =>
    have h1 := ih fun y hy => h y (.tail _ hy)
    have h2 := hx.mul h1
    have h3 : sz c (a + (k + l.length * (a + 1))) := (h c (.head _)).mono (by omega)
    have h4 := sz_sub h3 h2.neg
    rw [Int.sub_neg] at h4
    refine h4.mono ?_
    rw [List.length_cons, Nat.succ_mul]; omega
theorem ev_drop {l : List Int} {i : Nat} (h : i < l.length) (x : Int) : pev (l.drop i) x = l.getD i 0 + x * pev (l.drop (i + 1)) x := by
  rw [List.drop_eq_getElem_cons h]
  simp [pev, List.getD_eq_getElem?_getD, h]
theorem szR.drop {k : Nat} {l : List Int} (h : szR k l) (i : Nat) : szR k (l.drop i) := fun x hx => h x (List.mem_of_mem_drop hx)
theorem zMulZJ (v w : Value) (x : Int) (y : Bool × List Nat) (a : Nat) (hx : sz x a) (ha : a ≤ 137438953472) (hy : Lim y.2) (ly : y.2.length ≤ 137438953472) :
    Meets Try.prog 52 [v, w] [(v, zd x), (w, J y)] (fun r os fs => os = [] ∧ fs = [(r, zd (x * jv y))]) := by
  have h := zMulJ v w (cn x) y (Lim_lims _) (Nat.le_trans hx.len ha) hy ly
  rw [jv_cn] at h
  exact h
theorem pValueJ (v w : Value) (p : Row) (xj : Bool × List Nat) (k a : Nat) (hp : Fit k p) (hxl : Lim xj.2) (hxa : xj.2.length ≤ a) (hk : k + (p.length + 1) * (a + 1) ≤ 137438953472) (lp : p.length ≤ 1073741824) :
    Meets Try.prog 25 [v, w] [(v, V p), (w, J xj)] (fun r os fs => os = [] ∧ fs = [(r, zd (pev (vv p) (jv xj)))]) := by
  have hx : sz (jv xj) a := sz_jv hxl hxa
  obtain ⟨x, hxj⟩ : ∃ x, jv xj = x := ⟨_, rfl⟩
  rw [hxj] at hx ⊢
  have hm1 : (p.length + 1) * (a + 1) = p.length * (a + 1) + (a + 1) := Nat.succ_mul _ _
  have h1 := pNorm_meets v p (hp.mono (by omega)) (by omega)
  have sa := hp.szR.nrm
  have la : (nrm (vv p)).length ≤ p.length := Nat.le_trans (nrm_length_le _) (by rw [vv_len]; exact Nat.le_refl _)
  rw [← ev_nrm (vv p)]
  generalize hA : nrm (vv p) = A at *
  have hs : ∀ i, sz (pev (A.drop i) x) (k + p.length * (a + 1)) := fun i => (ev_sz (sa.drop i) hx).mono (by
    have : (A.drop i).length * (a + 1) ≤ p.length * (a + 1) := Nat.mul_le_mul_right _ (by rw [List.length_drop]; omega)
    omega)
  have hlast : pev (A.drop A.length) x = 0 := by rw [List.drop_length]; rfl
  have hstep : ∀ i, i < A.length → pev (A.drop (A.length - i)) x * x + A.getD (A.length - 1 - i) 0 = pev (A.drop (A.length - (i + 1))) x := fun i hi => by
    rw [ev_drop (i := A.length - (i + 1)) (by omega), show A.length - (i + 1) + 1 = A.length - i by omega, show A.length - (i + 1) = A.length - 1 - i by omega, Int.mul_comm]; omega
  have hfin : pev (A.drop (A.length - A.length)) x = pev A x := by rw [Nat.sub_self, List.drop_zero]
  generalize hV : (fun i => pev (A.drop (A.length - i)) x) = Vf
  have hs' : ∀ i, sz (Vf i) (k + p.length * (a + 1)) := fun i => by rw [← hV]; exact hs _
  have hstep' : ∀ i, i < A.length → Vf i * x + A.getD (A.length - 1 - i) 0 = Vf (i + 1) := fun i hi => by rw [← hV]; exact hstep i hi
  have h0' : Vf 0 = 0 := by rw [← hV]; exact hlast
  have hfin' : Vf A.length = pev A x := by rw [← hV]; exact hfin
  refine meets_of_vc Try.func25 (by kernel_rfl) rfl (by kernel_rfl) (Nat.le_of_ble_eq_true rfl) ?_
  refine box_fact (Reads.fact (d := J xj) (by repeat (first | exact List.Mem.head _ | apply List.Mem.tail))) fun px => ?_
  refine alloc_rule (d := I false []) fun o ho => ?_
  refine build0 (da := .one (.bool false)) (db := U (lims 0)) (fun S w => ⟨[.bool false], [.slice none 0 0], rfl, rd_false S w, by rw [lims_zero]; exact rd_nil S w 1 _⟩) fun z => ?_
  refine alloc_rule (d := I false []) fun s hs1 => ?_
  refine store_box (d := zd 0) 0 rfl hs1 rfl (by kernel_rfl) ?_ ?_; exact Reads.fact (by repeat (first | exact List.Mem.head _ | apply List.Mem.tail))
  refine call_fn h1 (Seals.refl _ _) (by repeat (first | exact Sub.nil _ | refine Sub.cons (by repeat (first | exact List.Mem.head _ | apply List.Mem.tail)) ?_)) ?_
  rintro x1 _ _ ⟨rfl, rfl⟩
  refine len_vd (by repeat (first | exact List.Mem.head _ | apply List.Mem.tail)) ?_
  refine loop_rule (X := Nat) (fun i => ([(3, px), (4, o), (5, s), (6, x1), (12, .int .i64 (A.length : Nat)), (13, .int .i64 (i : Nat))], [own1 s 2 1 (fun _ => zd (Vf i)), own1 o 2 1 (fun _ => I false [])], [(x1, vd A), (px, .ptr (J xj))])) (fun i => i ≤ A.length) (fun i => A.length - i) rfl ?_ ?_
  · exact again 0 (Nat.zero_le _) trivial (by repeat (first | exact trivial | refine ⟨rfl, ?_⟩ | refine ⟨i64_eq (by first | omega | (simp only; omega)), ?_⟩ | refine ⟨u64_eq (by first | omega | (simp only; omega)), ?_⟩)) (Seals.trans (Seals.box0 (by rw [h0']; rfl)) (Seals.sub (by repeat (first | exact Sub.nil _ | refine Sub.cons (by repeat (first | exact List.Mem.head _ | apply List.Mem.tail)) ?_))))
  · rintro i hi
    refine cmp_split _ rfl (fun hlt => ?_) (fun hlt => ?_)
    · have hin : i < A.length := by omega
      have hsi := hs' i
      have hsi1 := hstep' i hin
      have hai := sa.get (A.length - 1 - i)
      refine draw_rule [0, 1, 3, 4, 5, 6, 7, 8, 9, 10, 2, 11, 12] [0, 1, 2, 3, 4, 5, 6, 7, 8, 9, 10, 11, 12] (by kernel_rfl) (by kernel_rfl) ?_
      refine load_box (d := zd (Vf i)) 0 rfl hs1 rfl (load_I _ _) fun y1 => ?_
      refine load_fact (d := J xj) (by repeat (first | exact List.Mem.head _ | apply List.Mem.tail)) (load_J _) fun y2 => ?_
      refine len_vd (by repeat (first | exact List.Mem.head _ | apply List.Mem.tail)) ?_
      refine ar rfl (by first | exact ⟨by omega, by omega⟩ | (simp only [inK]; omega)) ?_
      refine ar rfl (by first | exact ⟨by omega, by omega⟩ | (simp only [inK]; omega)) ?_
      refine index_vd (by repeat (first | exact List.Mem.head _ | apply List.Mem.tail)) (A.length - 1 - i) (by omega) (by omega) fun b1 => ?_
      refine load_fact (d := zd (A.getD (A.length - 1 - i) 0)) (by repeat (first | exact List.Mem.head _ | apply List.Mem.tail)) (load_I _ _) fun y4 => ?_
      have hmul := zMulZJ y1 y2 _ xj _ hsi (by omega) hxl (by omega)
      rw [hxj] at hmul
      refine call_fn hmul (Seals.refl _ _) (by repeat (first | exact Sub.nil _ | refine Sub.cons (by repeat (first | exact List.Mem.head _ | apply List.Mem.tail)) ?_)) ?_
      rintro y3 _ _ ⟨rfl, rfl⟩
      have hadd := zAddZ y3 y4 _ _ _ _ (hsi.mul hx) hai (by omega) (by omega)
      rw [hsi1] at hadd
      refine call_fn hadd (Seals.refl _ _) (by repeat (first | exact Sub.nil _ | refine Sub.cons (by repeat (first | exact List.Mem.head _ | apply List.Mem.tail)) ?_)) ?_
      rintro y5 _ _ ⟨rfl, rfl⟩
      refine store_box (d := zd (Vf (i + 1))) 0 rfl hs1 rfl (by kernel_rfl) ?_ ?_; exact Reads.fact (by repeat (first | exact List.Mem.head _ | apply List.Mem.tail))
      refine ar rfl (by first | exact ⟨by omega, by omega⟩ | (simp only [inK]; omega)) ?_
      exact again (i + 1) (by omega) (by simp only; omega) (by repeat (first | exact trivial | refine ⟨rfl, ?_⟩ | refine ⟨i64_eq (by first | omega | (simp only; omega)), ?_⟩ | refine ⟨u64_eq (by first | omega | (simp only; omega)), ?_⟩)) (Seals.trans (Seals.box0 rfl) (Seals.sub (by repeat (first | exact Sub.nil _ | refine Sub.cons (by repeat (first | exact List.Mem.head _ | apply List.Mem.tail)) ?_))))
    · have hip : i = A.length := by omega
      subst hip
      have hsn := hs' A.length
      rw [hfin'] at hsn
      rw [hfin']
      refine load_box (d := zd (pev A x)) 0 rfl hs1 rfl (load_I _ _) fun y1 => ?_
      refine call_fn (zNormZ y1 _ _ hsn (by omega)) (Seals.refl _ _) (by repeat (first | exact Sub.nil _ | refine Sub.cons (by repeat (first | exact List.Mem.head _ | apply List.Mem.tail)) ?_)) ?_
      rintro y2 _ _ ⟨rfl, rfl⟩
      refine store_box (d := zd (pev A x)) 1 rfl ho rfl (by kernel_rfl) ?_ ?_; exact Reads.fact (by repeat (first | exact List.Mem.head _ | apply List.Mem.tail))
      refine load_box (d := zd (pev A x)) 1 rfl ho rfl (load_I _ _) fun r => ?_
      exact fin ⟨rfl, rfl⟩ (Seals.trans (Seals.drop 0 _ _) (Seals.trans (Seals.drop 0 _ _) (Seals.sub (by repeat (first | exact Sub.nil _ | refine Sub.cons (by repeat (first | exact List.Mem.head _ | apply List.Mem.tail)) ?_)))))
end Go.Proofs.Ytfkeohlpcjpkbaa

namespace Go.Proofs.Ytfkeohlpcjpkbaa
def dg (l : List Int) : Nat := (nrm l).length
def ld (l : List Int) : Int := l.getD (dg l - 1) 0
theorem co_ext {l m : List Int} (h : ∀ x, pev l x = pev m x) (i : Nat) : l.getD i 0 = m.getD i 0 := by rw [← co_nrm l, ev_ext h, co_nrm]
theorem dg_ext {l m : List Int} (h : ∀ x, pev l x = pev m x) : dg l = dg m := by unfold dg; rw [ev_ext h]
theorem ld_ext {l m : List Int} (h : ∀ x, pev l x = pev m x) : ld l = ld m := by unfold ld; rw [dg_ext h, co_ext h]
theorem dg_nm {l : List Int} (h : Nm l) : dg l = l.length := by unfold dg; rw [h]
theorem dg_le {l : List Int} {n : Nat} : dg l ≤ n ↔ ∀ i, n ≤ i → l.getD i 0 = 0 := by
  constructor
  · intro h i hi
    rw [← co_nrm]
    exact getD_none (Nat.le_trans h hi)
  · intro h
    refine Nat.le_of_not_lt fun hn => ?_
    have := nrm_last l (show 0 < (nrm l).length by unfold dg at hn; omega)
    rw [co_nrm] at this
    exact this (h _ (by unfold dg at hn; omega))
theorem dg_le_len (l : List Int) : dg l ≤ l.length := nrm_length_le l
theorem ld_ne {l : List Int} (h : 0 < dg l) : ld l ≠ 0 := by
  have := nrm_last l h
  rwa [co_nrm] at this
theorem dg_zero {l : List Int} : dg l = 0 ↔ ∀ x, pev l x = 0 := by
  constructor
  · intro h x
    rw [← ev_nrm, List.length_eq_zero_iff.1 h]; rfl
  · intro h
    have := dg_ext (l := l) (m := []) fun x => by rw [h]; rfl
    rw [this]; rfl
theorem dg_pos {l : List Int} (h : ¬ ∀ x, pev l x = 0) : 0 < dg l := Nat.pos_of_ne_zero fun e => h (dg_zero.1 e)
theorem co_psub (l m : List Int) (i : Nat) : (psub l m).getD i 0 = l.getD i 0 - m.getD i 0 := by
  rw [psub, co_nrm, lst_get']
  split
  · rfl
  · rw [getD_none (by omega), getD_none (by omega)]; rfl
theorem co_map (c : Int) (l : List Int) (i : Nat) : (l.map fun y => c * y).getD i 0 = c * l.getD i 0 := by
  simp only [List.getD_eq_getElem?_getD, List.getElem?_map]
  cases l[i]? <;> simp
theorem co_prai (c : Int) (s : Nat) (l : List Int) (i : Nat) : (prai c s l).getD i 0 = if i < s then 0 else c * l.getD (i - s) 0 := by
  rw [prai, co_nrm, up_get]
  split
  · rfl
  · rw [co_map]
/-- The product's degree and lead. -/
theorem pmul_dg {a b : List Int} (ha : 0 < dg a) (hb : 0 < dg b) : dg (pmul a b) + 1 = dg a + dg b ∧ ld (pmul a b) = ld a * ld b := by
  have ea : ld a = (nrm a).getD ((nrm a).length - 1) 0 := by rw [co_nrm]; rfl
  have eb : ld b = (nrm b).getD ((nrm b).length - 1) 0 := by rw [co_nrm]; rfl
  have h1 : ¬ (nrm a = [] ∨ nrm b = []) := by
    unfold dg at ha hb
    rintro (h | h)
    · rw [h] at ha; simp at ha
    · rw [h] at hb; simp at hb
  have hn : (lst ((nrm a).length + (nrm b).length - 1) fun y => conv (nrm a) (nrm b) (nrm a).length y).getD ((nrm a).length + (nrm b).length - 1 - 1) 0 = ld a * ld b := by
    unfold dg at ha hb
    rw [lst_get (by omega), conv, isum_one (r := (nrm a).length - 1) (by omega) fun k hk hne => by
      split
      · rw [getD_none (l := nrm b) (by omega), Int.mul_zero]
      · rfl]
    rw [if_pos (by omega), ea, eb]
    congr 2; omega
  have hne : ld a * ld b ≠ 0 := Int.mul_ne_zero (ld_ne ha) (ld_ne hb)
  have e : pmul a b = lst ((nrm a).length + (nrm b).length - 1) fun y => conv (nrm a) (nrm b) (nrm a).length y := by
    unfold pmul
    simp only
    rw [if_neg h1]
    refine nrm_of_last (.inr ?_)
    rw [lst_len, hn]; exact hne
  have hd : dg (pmul a b) = (nrm a).length + (nrm b).length - 1 := by
    rw [dg_nm (pmul_nm a b), e, lst_len]
  refine ⟨by rw [hd]; unfold dg at ha hb ⊢; omega, ?_⟩
  unfold ld
  rw [hd, e, hn]
  rfl
theorem mul_dg {a b c : List Int} (h : ∀ x, pev c x = pev a x * pev b x) (ha : 0 < dg a) (hb : 0 < dg b) : dg c + 1 = dg a + dg b ∧ ld c = ld a * ld b := by
  have e : ∀ x, pev c x = pev (pmul a b) x := fun x => by rw [h, ev_pmul]
  rw [dg_ext e, ld_ext e]
  exact pmul_dg ha hb
theorem mul_zero' {a b : List Int} (h : ∀ x, pev a x * pev b x = 0) : dg a = 0 ∨ dg b = 0 := by
  by_cases ha : 0 < dg a
  · by_cases hb : 0 < dg b
    · exfalso
      have h1 := (pmul_dg ha hb).1
      have h2 : dg (pmul a b) = 0 := dg_zero.2 fun x => by rw [ev_pmul, h]
      omega
    · right; omega
  · left; omega
theorem cancel {a u v : List Int} (ha : 0 < dg a) (h : ∀ x, pev a x * pev u x = pev a x * pev v x) (x : Int) : pev u x = pev v x := by
  have h1 : ∀ x, pev a x * pev (psub u v) x = 0 := fun x => by rw [ev_psub, Int.mul_sub, h]; omega
  rcases mul_zero' h1 with h2 | h2
  · omega
  · have := dg_zero.1 h2 x
    rw [ev_psub] at this; omega
/-- a is a divisor of b. -/
def Dv (a b : List Int) : Prop := ∃ u, ∀ x, pev b x = pev a x * pev u x
theorem Dv.refl (a : List Int) : Dv a a := ⟨[1], fun x => by simp [pev]⟩
theorem Dv.trans {a b c : List Int} (h : Dv a b) (k : Dv b c) : Dv a c := by
  obtain ⟨u, hu⟩ := h; obtain ⟨v, hv⟩ := k
  exact ⟨pmul u v, fun x => by rw [hv, hu, ev_pmul]; grind⟩
theorem Dv.zero (a : List Int) {b : List Int} (h : ∀ x, pev b x = 0) : Dv a b := ⟨[], fun x => by rw [h]; simp [pev]⟩
theorem Dv.mul_right {a b c d : List Int} (h : Dv a b) (e : ∀ x, pev d x = pev b x * pev c x) : Dv a d := by
  obtain ⟨u, hu⟩ := h
  exact ⟨pmul u c, fun x => by rw [e, hu, ev_pmul]; grind⟩
theorem Dv.add {a b c d : List Int} (h : Dv a b) (k : Dv a c) (e : ∀ x, pev d x = pev b x + pev c x) : Dv a d := by
  obtain ⟨u, hu⟩ := h; obtain ⟨v, hv⟩ := k
  exact ⟨padd u v, fun x => by rw [e, hu, hv, ev_padd]; grind⟩
theorem Dv.sub {a b c d : List Int} (h : Dv a b) (k : Dv a c) (e : ∀ x, pev d x = pev b x - pev c x) : Dv a d := by
  obtain ⟨u, hu⟩ := h; obtain ⟨v, hv⟩ := k
  exact ⟨psub u v, fun x => by rw [e, hu, hv, ev_psub]; grind⟩
theorem Dv.ext {a b c d : List Int} (h : Dv a b) (h1 : ∀ x, pev a x = pev c x) (h2 : ∀ x, pev b x = pev d x) : Dv c d := by
  obtain ⟨u, hu⟩ := h
  exact ⟨u, fun x => by rw [← h2, hu, h1]⟩
theorem Dv.deg {a b : List Int} (h : Dv a b) (hb : 0 < dg b) : 0 < dg a ∧ dg a ≤ dg b := by
  obtain ⟨u, hu⟩ := h
  have ha : 0 < dg a := dg_pos fun h => by
    have := (dg_zero (l := b)).2 fun x => by rw [hu, h]; simp
    omega
  have h2 : 0 < dg u := dg_pos fun h => by
    have := (dg_zero (l := b)).2 fun x => by rw [hu, h]; simp
    omega
  have := (mul_dg hu ha h2).1
  exact ⟨ha, by omega⟩
-- Contents.
def cont (l : List Int) : Nat := l.foldr (fun c g => Nat.gcd c.natAbs g) 0
end Go.Proofs.Ytfkeohlpcjpkbaa

namespace Go.Proofs.Ytfkeohlpcjpkbaa
/-- A greatest common divisor, its lead not below 0. -/
def Gc (g p q : List Int) : Prop := Dv g p ∧ Dv g q ∧ (∀ h, Dv h p → Dv h q → Dv h g) ∧ 0 ≤ ld g
theorem Gc.ext {g g' p p' q q' : List Int} (h : Gc g p q) (e : ∀ x, pev g x = pev g' x) (e1 : ∀ x, pev p x = pev p' x) (e2 : ∀ x, pev q x = pev q' x) : Gc g' p' q' :=
  ⟨h.1.ext e e1, h.2.1.ext e e2, fun d h1 h2 => (h.2.2.1 d (h1.ext (fun _ => rfl) fun x => (e1 x).symm) (h2.ext (fun _ => rfl) fun x => (e2 x).symm)).ext (fun _ => rfl) e, by rw [← ld_ext e]; exact h.2.2.2⟩
/-- The content, with the sign of the lead. -/
def scont (l : List Int) : Int := if ld l < 0 then - (cont l : Int) else cont l
def pprim (l : List Int) : List Int := nrm ((nrm l).map fun y => y / scont l)
end Go.Proofs.Ytfkeohlpcjpkbaa

namespace Go.Proofs.Ytfkeohlpcjpkbaa
open Go.RowKit
theorem szR.take {k : Nat} {l : List Int} (h : szR k l) (i : Nat) : szR k (l.take i) := fun x hx => h x (List.mem_of_mem_take hx)
end Go.Proofs.Ytfkeohlpcjpkbaa

namespace Go.Proofs.Ytfkeohlpcjpkbaa
open Go.RowKit
theorem lst_map (A : List Int) (f : Int → Int) : lst A.length (fun i => f (A.getD i 0)) = A.map f := by
  refine List.ext_getElem? fun i => ?_
  by_cases h : i < A.length
  · simp [lst, h]
  · simp [lst, h]
end Go.Proofs.Ytfkeohlpcjpkbaa

namespace Go.Proofs.Ytfkeohlpcjpkbaa
open Go.RowKit
theorem ld_nm {l : List Int} (h : Nm l) : ld l = l.getD (l.length - 1) 0 := by unfold ld; rw [dg_nm h]
theorem pLeadN (v : Value) (l : List Int) (hl : Nm l) (h0 : 0 < l.length) :
    Meets Try.prog 77 [v] [(v, vd l)] (fun r os fs => os = [] ∧ fs = [(r, zd (ld l))]) := by
  rw [ld_nm hl]
  exact pLeadT v l (List.length_pos_iff.1 h0)
/-- What Rest tells: t and r with L^d p = q t + r, r of a lesser degree. -/
structure RestSpec (p q t r : List Int) : Prop where
  tn : Nm t
  rn : Nm r
  low : dg r < dg q
  eq : ∀ x, ld q ^ (dg p + 1 - dg q) * pev p x = pev q x * pev t x + pev r x
end Go.Proofs.Ytfkeohlpcjpkbaa

namespace Go.Proofs.Ytfkeohlpcjpkbaa
open Go.RowKit
end Go.Proofs.Ytfkeohlpcjpkbaa

namespace Go.Proofs.Ytfkeohlpcjpkbaa
end Go.Proofs.Ytfkeohlpcjpkbaa

namespace Go.Proofs.Ytfkeohlpcjpkbaa
open Go.RowKit
end Go.Proofs.Ytfkeohlpcjpkbaa

namespace Go.Proofs.Ytfkeohlpcjpkbaa
open Go.RowKit
/-- What is left, as one step of a division takes off. -/
theorem div_dg {R D : List Int} {c : Int} (hD : 0 < dg D) (hR : dg D ≤ dg R) (hc : c * ld D = ld R) : dg (psub R (prai c (dg R - dg D) D)) < dg R := by
  have : dg (psub R (prai c (dg R - dg D) D)) ≤ dg R - 1 := dg_le.2 fun i hi => by
    rw [co_psub, co_prai, if_neg (by omega)]
    by_cases h : i = dg R - 1
    · rw [h, show dg R - 1 - (dg R - dg D) = dg D - 1 by omega]
      show ld R - c * ld D = 0
      omega
    · rw [dg_le.1 (Nat.le_refl (dg R)) i (by omega), dg_le.1 (Nat.le_refl (dg D)) (i - (dg R - dg D)) (by omega)]; simp
  omega
/-- t and the errno that Divide tells. -/
structure DivSpec (p q t : List Int) (e : Int) : Prop where
  tn : Nm t
  zero : dg q = 0 → e = 2 ∧ t = []
  ok : 0 < dg q → Dv q p → e = 0 ∧ ∀ x, pev p x = pev q x * pev t x
  no : 0 < dg q → ¬ Dv q p → e = 11 ∧ t = []
def put (f : Nat → Int) (s : Nat) (c : Int) : Nat → Int := fun y => if y = s then c else f y
theorem ev_put {N s : Nat} {f : Nat → Int} (hs : s < N) (h0 : f s = 0) (c x : Int) : pev (lst N (put f s c)) x = pev (lst N f) x + c * x ^ s := by
  have e : ∀ y, put f s c y = f y + (if s ≤ y then c * [1].getD (y - s) 0 else 0) := fun y => by
    unfold put
    by_cases h : y = s
    · subst h
      rw [if_pos rfl, if_pos (Nat.le_refl _), Nat.sub_self, h0]; simp
    · rw [if_neg h]
      split
      · rw [getD_none (l := [1]) (by simp; omega)]; simp
      · simp
  have e2 : lst N (put f s c) = lst N fun y => f y + (if s ≤ y then c * [1].getD (y - s) 0 else 0) := lst_congr fun y _ => e y
  rw [e2, ev_lst_add, ev_shifted [1] s N (by simp; omega)]
  simp [pev]
theorem div_step {P D R : List Int} {f : Nat → Int} {N : Nat} {c : Int} (hs : R.length - D.length < N) (h0 : f (R.length - D.length) = 0) (e : ∀ x, pev P x = pev D x * pev (lst N f) x + pev R x) :
    ∀ x, pev P x = pev D x * pev (lst N (put f (R.length - D.length) c)) x + pev (psub R (prai c (R.length - D.length) D)) x := fun x => by
  rw [ev_put hs h0, ev_psub, ev_prai, e]; grind
theorem div_no {P D R T : List Int} (e : ∀ x, pev P x = pev D x * pev T x + pev R x) (h : Dv D P) : Dv D R :=
  h.sub (c := pmul D T) ⟨T, fun x => ev_pmul _ _ _⟩ fun x => by rw [e, ev_pmul]; omega
theorem ld_dvd {D R : List Int} (h : Dv D R) (hR : 0 < dg R) : ld D ∣ ld R := by
  obtain ⟨u, hu⟩ := h
  have hd := (show Dv D R from ⟨u, hu⟩).deg hR
  have hu0 : 0 < dg u := dg_pos fun e => by
    have := (dg_zero (l := R)).2 fun x => by rw [hu, e]; simp
    omega
  exact ⟨ld u, (mul_dg hu hd.1 hu0).2⟩
theorem pDivideO_meets (v w : Value) (p q : Row) (k l : Nat) (hp : Fit k p) (hq : Fit l q) (hk : k + (p.length + 1) * (l + 1) ≤ 137438953472) (lp : p.length ≤ 536870912) (lq : q.length ≤ 536870912) :
    Meets Try.prog 46 [v, w] [(v, V p), (w, V q)] (fun r os fs => ∃ a t e, r = .tuple #[a, .int .i64 e] ∧ DivSpec (vv p) (vv q) t e ∧ isSl a ∧ szR (k + (p.length + 1) * (l + 1)) t ∧ os = [ownL 2 J z0 a (t.map cn)] ∧ fs = []) := by
  have hm1 : (p.length + 1) * (l + 1) = p.length * (l + 1) + (l + 1) := Nat.succ_mul _ _
  have n1 := pNorm_meets v p (hp.mono (by omega)) (by omega)
  have n2 := pNorm_meets w q (hq.mono (by omega)) (by omega)
  have sP := hp.szR.nrm
  have sD := hq.szR.nrm
  have la : (nrm (vv p)).length ≤ p.length := Nat.le_trans (nrm_length_le _) (by rw [vv_len]; exact Nat.le_refl _)
  have lb : (nrm (vv q)).length ≤ q.length := Nat.le_trans (nrm_length_le _) (by rw [vv_len]; exact Nat.le_refl _)
  have hPn : Nm (nrm (vv p)) := nrm_nrm _
  have hDn : Nm (nrm (vv q)) := nrm_nrm _
  have hdq : dg (vv q) = (nrm (vv q)).length := rfl
  have hdv : Dv (vv q) (vv p) → Dv (nrm (vv q)) (nrm (vv p)) := fun h => h.ext (fun x => (ev_nrm _ x).symm) fun x => (ev_nrm _ x).symm
  have hbad : 0 < (nrm (vv q)).length → ¬ Dv (nrm (vv q)) (nrm (vv p)) → DivSpec (vv p) (vv q) [] 11 := fun h0 hn => ⟨rfl, fun h => by omega, fun _ h => (hn (hdv h)).elim, fun _ _ => ⟨rfl, rfl⟩⟩
  have hgood : ∀ T, (0 < (nrm (vv q)).length) → (∀ x, pev (nrm (vv p)) x = pev (nrm (vv q)) x * pev T x) → DivSpec (vv p) (vv q) (nrm T) 0 := fun T h0 hn => ⟨nrm_nrm _, fun h => by omega, fun _ _ => ⟨rfl, fun x => by rw [ev_nrm, ← ev_nrm (vv p), ← ev_nrm (vv q)]; exact hn x⟩, fun _ h => (h ⟨T, fun x => by rw [← ev_nrm (vv p), ← ev_nrm (vv q)]; exact hn x⟩).elim⟩
  have hzero : (nrm (vv q)).length = 0 → DivSpec (vv p) (vv q) [] 2 := fun h0 => ⟨rfl, fun _ => ⟨rfl, rfl⟩, fun h => by omega, fun h => by omega⟩
  generalize hA : nrm (vv p) = A at *
  generalize hB : nrm (vv q) = D at *
  generalize hE : k + (p.length + 1) * (l + 1) = E at *
  refine meets_of_vc Try.func46 (by kernel_rfl) rfl (by kernel_rfl) (Nat.le_of_ble_eq_true rfl) ?_
  refine call_fn n1 (Seals.refl _ _) (by repeat (first | exact Sub.nil _ | refine Sub.cons (by repeat (first | exact List.Mem.head _ | apply List.Mem.tail)) ?_)) ?_
  rintro x1 _ _ ⟨rfl, rfl⟩
  refine call_fn n2 (Seals.refl _ _) (by repeat (first | exact Sub.nil _ | refine Sub.cons (by repeat (first | exact List.Mem.head _ | apply List.Mem.tail)) ?_)) ?_
  rintro x2 _ _ ⟨rfl, rfl⟩
  refine len_vd (by repeat (first | exact List.Mem.head _ | apply List.Mem.tail)) ?_
  refine cmp_split _ rfl (fun hz => ?_) (fun hz => ?_)
  · exact fin ⟨_, [], 2, rfl, hzero (by omega), ⟨_, _, _, rfl⟩, fun x hx => by simp at hx, rfl, rfl⟩ (Seals.trans (Seals.nil _ _) (Seals.own_nil _ _ 2 _))
  have hD0 : 0 < D.length := by omega
  have dD := dg_nm hDn
  have hldD : ld D ≠ 0 := ld_ne (by omega)
  refine len_vd (by repeat (first | exact List.Mem.head _ | apply List.Mem.tail)) ?_
  refine len_vd (by repeat (first | exact List.Mem.head _ | apply List.Mem.tail)) ?_
  refine ar rfl (by first | exact ⟨by omega, by omega⟩ | (simp only [inK]; omega)) ?_
  refine ar rfl (by first | exact ⟨by omega, by omega⟩ | (simp only [inK]; omega)) ?_
  refine max2_rule ?_
  refine make_rule (t := 28) (d := I false []) (A.length + 1 - D.length) (by omega) (by omega) (by omega) (by omega) fun u hu => ?_
  generalize hN : A.length + 1 - D.length = N
  refine loop_rule (X := Value × List Int × (Nat → Int) × Nat) (fun x => ([(6, x.1), (7, x2), (8, u)], [own1 u 2 N (fun y => zd (x.2.2.1 y))], [(x2, vd D), (x.1, vd x.2.1)]))
    (fun x => Nm x.2.1 ∧ x.2.1.length + x.2.2.2 ≤ A.length ∧ szR (k + x.2.2.2 * (l + 1)) x.2.1 ∧ (∀ y, sz (x.2.2.1 y) E) ∧ (∀ y, y + D.length ≤ x.2.1.length → x.2.2.1 y = 0) ∧ ∀ x', pev A x' = pev D x' * pev (lst N x.2.2.1) x' + pev x.2.1 x') (fun x => x.2.1.length) rfl ?_ ?_
  · refine again (x1, A, fun _ => 0, 0) ⟨hPn, by simp only; omega, by simp only [Nat.zero_mul, Nat.add_zero]; exact sP, fun _ => sz_zero _, fun _ _ => rfl, fun x => by simp only [ev_lst_zero]; omega⟩ trivial (by repeat (first | exact trivial | refine ⟨rfl, ?_⟩ | refine ⟨i64_eq (by first | omega | (simp only; omega)), ?_⟩ | refine ⟨u64_eq (by first | omega | (simp only; omega)), ?_⟩)) (Seals.trans (Seals.own_cong (os := [_]) 0 (fun _ => zd 0) rfl rfl fun y _ => zero_zd) (Seals.sub (by repeat (first | exact Sub.nil _ | refine Sub.cons (by repeat (first | exact List.Mem.head _ | apply List.Mem.tail)) ?_))))
  · rintro ⟨vr, R, f, j⟩ ⟨g1, g2, g3, g4, g5, g6⟩
    simp only at g1 g2 g3 g4 g5 g6 ⊢
    have dR := dg_nm g1
    refine len_vd (by repeat (first | exact List.Mem.head _ | apply List.Mem.tail)) ?_
    refine len_vd (by repeat (first | exact List.Mem.head _ | apply List.Mem.tail)) ?_
    refine cmp_split _ rfl (fun hge => ?_) (fun hge => ?_)
    · have hge' : D.length ≤ R.length := by omega
      have hsN : R.length - D.length < N := by omega
      have hj1 : (j + 1) * (l + 1) ≤ (p.length + 1) * (l + 1) := Nat.mul_le_mul_right _ (by omega)
      have hj2 : (j + 1) * (l + 1) = j * (l + 1) + (l + 1) := Nat.succ_mul _ _
      have hlR : sz (ld R) (k + j * (l + 1)) := g3.get _
      have hlD : sz (ld D) l := sD.get _
      have hlc : sz (ld R / ld D) (k + j * (l + 1)) := sz_div hlR
      have hlm : sz (ld R % ld D) l := by
        have h1 := Int.emod_nonneg (ld R) hldD
        have h2 := Int.emod_lt (ld R) hldD
        unfold sz at hlD ⊢
        omega
      have hst := div_step (c := ld R / ld D) hsN (g5 _ (by omega)) g6
      have c5 := fun u' u'' => pRaisedT u' u'' D (ld R / ld D) (R.length - D.length) l _ sD hlc (by omega) (by omega) (by omega)
      have s5 : szR (k + j * (l + 1) + l) (prai (ld R / ld D) (R.length - D.length) D) := by
        have := sD.prai hlc (R.length - D.length)
        rwa [Nat.add_comm] at this
      have c6 := fun u' u'' => pSubT u' u'' R (prai (ld R / ld D) (R.length - D.length) D) _ (g3.mono (Nat.le_add_right _ l)) s5 (by omega) (by omega) (by have := prai_len (ld R / ld D) (R.length - D.length) D; omega)
      have z6 : szR (k + (j + 1) * (l + 1)) (psub R (prai (ld R / ld D) (R.length - D.length) D)) := ((g3.mono (Nat.le_add_right _ l)).psub s5).mono (by omega)
      have hnd : ld R % ld D ≠ 0 → ¬ Dv D A := fun h hd => h (Int.emod_eq_zero_of_dvd (ld_dvd (div_no g6 hd) (by omega)))
      have hdg : ld R % ld D = 0 → (psub R (prai (ld R / ld D) (R.length - D.length) D)).length < R.length := fun h => by
        have := div_dg (R := R) (D := D) (c := ld R / ld D) (by omega) (by omega) (Int.ediv_mul_cancel (Int.dvd_of_emod_eq_zero h))
        rw [dR, dD, dg_nm (psub_nm _ _)] at this
        exact this
      have hrn : Nm (psub R (prai (ld R / ld D) (R.length - D.length) D)) := psub_nm _ _
      have hpf : ∀ y, sz (put f (R.length - D.length) (ld R / ld D) y) E := fun y => by
        unfold put; split
        · exact hlc.mono (by omega)
        · exact g4 y
      have hup : ∀ y, upd (fun y => zd (f y)) (R.length - D.length) (zd (ld R / ld D)) y = zd (put f (R.length - D.length) (ld R / ld D) y) := fun y =>
        upd_zd (G := f) (H := put f (R.length - D.length) (ld R / ld D)) (by unfold put; rw [if_pos rfl]) (fun y hy => by unfold put; rw [if_neg hy]) y
      have hcast : ((R.length - D.length : Nat) : Int) = (R.length : Int) - (D.length : Int) := by omega
      have hput : ∀ y, y < R.length - D.length → put f (R.length - D.length) (ld R / ld D) y = f y := fun y hy => by unfold put; rw [if_neg (by omega)]
      generalize hR' : psub R (prai (ld R / ld D) (R.length - D.length) D) = R' at *
      generalize hf' : put f (R.length - D.length) (ld R / ld D) = f' at *
      refine len_vd (by repeat (first | exact List.Mem.head _ | apply List.Mem.tail)) ?_
      refine len_vd (by repeat (first | exact List.Mem.head _ | apply List.Mem.tail)) ?_
      refine ar rfl (by first | exact ⟨by omega, by omega⟩ | (simp only [inK]; omega)) ?_
      refine call_fn (pLeadN vr R g1 (by omega)) (Seals.refl _ _) (by repeat (first | exact Sub.nil _ | refine Sub.cons (by repeat (first | exact List.Mem.head _ | apply List.Mem.tail)) ?_)) ?_
      rintro y1 _ _ ⟨rfl, rfl⟩
      refine call_fn (pLeadN x2 D hDn hD0) (Seals.refl _ _) (by repeat (first | exact Sub.nil _ | refine Sub.cons (by repeat (first | exact List.Mem.head _ | apply List.Mem.tail)) ?_)) ?_
      rintro y2 _ _ ⟨rfl, rfl⟩
      refine call_fn (zDivModZ y1 y2 _ _ _ _ hlR hlD (by omega) (by omega) hldD) (Seals.refl _ _) (by repeat (first | exact Sub.nil _ | refine Sub.cons (by repeat (first | exact List.Mem.head _ | apply List.Mem.tail)) ?_)) ?_
      rintro _ _ _ ⟨rfl, y3, y4, rfl, rfl⟩
      refine alloc_rule (d := I false []) fun c hc => ?_
      refine alloc_rule (d := I false []) fun m hm => ?_
      refine store_box (d := zd (ld R / ld D)) 1 rfl hc rfl (by kernel_rfl) ?_ ?_; exact Reads.fact (by repeat (first | exact List.Mem.head _ | apply List.Mem.tail))
      refine store_box (d := zd (ld R % ld D)) 0 rfl hm rfl (by kernel_rfl) ?_ ?_; exact Reads.fact (by repeat (first | exact List.Mem.head _ | apply List.Mem.tail))
      refine load_box (d := zd (ld R % ld D)) 0 rfl hm rfl (load_I _ _) fun y5 => ?_
      refine call_fn (zSignZ y5 _ _ hlm (by omega)) (Seals.refl _ _) (by repeat (first | exact Sub.nil _ | refine Sub.cons (by repeat (first | exact List.Mem.head _ | apply List.Mem.tail)) ?_)) ?_
      rintro _ _ _ ⟨rfl, rfl, rfl⟩
      refine cmp_split _ rfl (fun hne => ?_) (fun hne => ?_)
      · have h11 := hbad hD0 (hnd fun h => hne (by rw [h]; rfl))
        exact fin ⟨_, [], 11, rfl, h11, ⟨_, _, _, rfl⟩, fun x hx => by simp at hx, rfl, rfl⟩ (Seals.trans (Seals.drop 0 _ _) (Seals.trans (Seals.drop 0 _ _) (Seals.trans (Seals.drop 0 _ _) (Seals.trans (Seals.nil _ _) (Seals.own_nil _ _ 2 _)))))
      · have h0 : ld R % ld D = 0 := Int.sign_eq_zero_iff_zero.1 (by omega)
        have hlen := hdg h0
        refine load_box (d := zd (ld R / ld D)) 1 rfl hc rfl (load_I _ _) fun y6 => ?_
        refine index_elem 2 rfl hu (R.length - D.length) (by omega) hsN ?_
        refine StoreK.post (store_elem (d := zd (ld R / ld D)) 2 rfl (R.length - D.length) hsN rfl (by kernel_rfl) (Reads.fact (by repeat (first | exact List.Mem.head _ | apply List.Mem.tail))) ⟨_, _, Seals.own_cong (os := [_, _, _]) 2 (fun y => zd (f' y)) rfl rfl (fun y _ => hup y), ?_⟩)
        refine load_box (d := zd (ld R / ld D)) 1 rfl hc rfl (load_I _ _) fun y7 => ?_
        have c5' := c5 x2 y7
        rw [hcast] at c5'
        refine call_fn c5' (Seals.refl _ _) (by repeat (first | exact Sub.nil _ | refine Sub.cons (by repeat (first | exact List.Mem.head _ | apply List.Mem.tail)) ?_)) ?_
        rintro y8 _ _ ⟨rfl, rfl⟩
        refine call_fn (c6 vr y8) (Seals.refl _ _) (by repeat (first | exact Sub.nil _ | refine Sub.cons (by repeat (first | exact List.Mem.head _ | apply List.Mem.tail)) ?_)) ?_
        rintro y9 _ _ ⟨rfl, rfl⟩
        refine again (y9, R', f', j + 1) ⟨hrn, by simp only; omega, z6, hpf, fun y hy => ?_, hst⟩ (by simp only; omega) (by repeat (first | exact trivial | refine ⟨rfl, ?_⟩ | refine ⟨i64_eq (by first | omega | (simp only; omega)), ?_⟩ | refine ⟨u64_eq (by first | omega | (simp only; omega)), ?_⟩)) (Seals.trans (Seals.drop 0 _ _) (Seals.trans (Seals.drop 0 _ _) (Seals.sub (by repeat (first | exact Sub.nil _ | refine Sub.cons (by repeat (first | exact List.Mem.head _ | apply List.Mem.tail)) ?_)))))
        simp only at hy ⊢
        rw [hput y (by omega)]
        exact g5 y (by omega)
    · refine len_vd (by repeat (first | exact List.Mem.head _ | apply List.Mem.tail)) ?_
      refine cmp_split _ rfl (fun hp0 => ?_) (fun hp0 => ?_)
      · have h11 := hbad hD0 fun hd => by
          have := (div_no g6 hd).deg (by omega)
          omega
        exact fin ⟨_, [], 11, rfl, h11, ⟨_, _, _, rfl⟩, fun x hx => by simp at hx, rfl, rfl⟩ (Seals.trans (Seals.drop 0 _ _) (Seals.trans (Seals.nil _ _) (Seals.own_nil _ _ 2 _)))
      · have hR0 : R = [] := List.length_eq_zero_iff.1 (by omega)
        have hok := hgood (lst N f) hD0 fun x => by
          have := g6 x
          rw [hR0] at this
          simp only [pev] at this; omega
        have hsl : szR E (lst N f) := szR.lst fun y _ => g4 y
        have hn := pNormO_meets u ((lst N f).map cn) (hsl.mono hk).fit (by rw [List.length_map, lst_len]; omega)
        rw [vv_cn] at hn
        refine call_fn hn (Seals.told (g := f) hu fun y _ => rfl) (by repeat (first | exact Sub.nil _ | refine Sub.cons (by repeat (first | exact List.Mem.head _ | apply List.Mem.tail)) ?_)) ?_
        rintro r _ _ ⟨hr, rfl, rfl⟩
        exact fin ⟨r, _, 0, rfl, hok, hr, hsl.nrm, rfl, rfl⟩ (Seals.sub (by repeat (first | exact Sub.nil _ | refine Sub.cons (by repeat (first | exact List.Mem.head _ | apply List.Mem.tail)) ?_)))
end Go.Proofs.Ytfkeohlpcjpkbaa

namespace Go.Proofs.Ytfkeohlpcjpkbaa
-- What no other one divides.
-- Derivatives.
def pder (l : List Int) : List Int := nrm (lst (l.length - 1) fun i => ((i + 1 : Nat) : Int) * l.getD (i + 1) 0)
end Go.Proofs.Ytfkeohlpcjpkbaa

namespace Go.Proofs.Ytfkeohlpcjpkbaa
open Go.RowKit
theorem pDivide_meets (v w : Value) (p q : Row) (k l : Nat) (hp : Fit k p) (hq : Fit l q) (hk : k + (p.length + 1) * (l + 1) ≤ 137438953472) (lp : p.length ≤ 536870912) (lq : q.length ≤ 536870912) :
    Meets Try.prog 46 [v, w] [(v, V p), (w, V q)] (fun r os fs => os = [] ∧ ∃ a t e, r = .tuple #[a, .int .i64 e] ∧ DivSpec (vv p) (vv q) t e ∧ szR (k + (p.length + 1) * (l + 1)) t ∧ fs = [(a, vd t)]) :=
  (pDivideO_meets v w p q k l hp hq hk lp lq).closed fun r os fs ⟨a, t, e, h1, h2, h3, h4, h5, h6⟩ => by
    subst h5 h6
    exact ⟨[], [(a, vd t)], ⟨rfl, a, t, e, h1, h2, h4, rfl⟩, Seals.toldL h3⟩
theorem pDivideT (v w : Value) (p q : List Int) (k l : Nat) (hp : szR k p) (hq : szR l q) (hk : k + (p.length + 1) * (l + 1) ≤ 137438953472) (lp : p.length ≤ 536870912) (lq : q.length ≤ 536870912) :
    Meets Try.prog 46 [v, w] [(v, vd p), (w, vd q)] (fun r os fs => os = [] ∧ ∃ a t e, r = .tuple #[a, .int .i64 e] ∧ DivSpec p q t e ∧ szR (k + (p.length + 1) * (l + 1)) t ∧ fs = [(a, vd t)]) := by
  have h := pDivide_meets v w (p.map cn) (q.map cn) k l hp.fit hq.fit (by rw [List.length_map]; exact hk) (by rw [List.length_map]; exact lp) (by rw [List.length_map]; exact lq)
  rw [vv_cn, vv_cn, List.length_map] at h
  exact h
theorem lst_snoc (n : Nat) (f : Nat → Int) : lst (n + 1) f = lst n f ++ [f n] := by
  simp [lst, List.range_succ]
end Go.Proofs.Ytfkeohlpcjpkbaa

namespace Go.Proofs.Ytfkeohlpcjpkbaa
open Go.RowKit
end Go.Proofs.Ytfkeohlpcjpkbaa

namespace Go.Proofs.Ytfkeohlpcjpkbaa
open Go.RowKit
/-- What Simple tells. -/
structure SimSpec (p s : List Int) : Prop where
  sn : Nm s
  zero : dg p = 0 → s = []
  ok : 0 < dg p → ∃ g, Gc g (pprim p) (pder (pprim p)) ∧ ∀ x, pev (pprim p) x = pev g x * pev s x
end Go.Proofs.Ytfkeohlpcjpkbaa

namespace Go.Proofs.Ytfkeohlpcjpkbaa
open Go.RowKit
theorem ev_lst_snoc (n : Nat) (f : Nat → Int) (x : Int) : pev (lst (n + 1) f) x = pev (lst n f) x + x ^ n * f n := by
  rw [lst_snoc, ev_append, lst_len]; simp [pev]
/-- Of the numbers from i on, those above m are already moved. -/
def ShI (n : Nat) (a : Int) (U : Int → Int) (f : Nat → Int) (i m : Nat) : Prop :=
  ∀ x, U x = pev (lst (m - i) fun y => f (i + y)) x + x ^ (m - i) * (f m + (x - a) * pev (lst (n - 1 - m) fun y => f (m + 1 + y)) x)
def ShO (n : Nat) (a : Int) (P : Int → Int) (f : Nat → Int) (i : Nat) : Prop :=
  ∀ x, P x = pev (lst i f) (x - a) + (x - a) ^ i * pev (lst (n - i) fun y => f (i + y)) x
theorem ShI.start {n i : Nat} {a : Int} {f : Nat → Int} (h : i < n) : ShI n a (fun x => pev (lst (n - i) fun y => f (i + y)) x) f i (n - 1) := fun x => by
  have e : n - i = (n - 1 - i) + 1 := by omega
  have e2 : i + (n - 1 - i) = n - 1 := by omega
  simp only
  rw [e, ev_lst_snoc, e2, show n - 1 - (n - 1) = 0 by omega]
  simp [lst, pev]
theorem ShI.step {n i m : Nat} {a : Int} {U : Int → Int} {f : Nat → Int} (h : ShI n a U f i m) (hm : i < m) (hn : m ≤ n - 1) : ShI n a U (put f (m - 1) (f (m - 1) + a * f m)) i (m - 1) := fun x => by
  rw [h x]
  have e : m - i = (m - 1 - i) + 1 := by omega
  have e2 : i + (m - 1 - i) = m - 1 := by omega
  have e3 : n - 1 - (m - 1) = (n - 1 - m) + 1 := by omega
  have c1 : lst (m - 1 - i) (fun y => put f (m - 1) (f (m - 1) + a * f m) (i + y)) = lst (m - 1 - i) fun y => f (i + y) := lst_congr fun y hy => by unfold put; rw [if_neg (by omega)]
  have c2 : lst (n - 1 - m) (fun y => put f (m - 1) (f (m - 1) + a * f m) (m - 1 + 1 + (y + 1))) = lst (n - 1 - m) fun y => f (m + 1 + y) := lst_congr fun y hy => by unfold put; rw [if_neg (by omega)]; congr 1; omega
  have c3 : put f (m - 1) (f (m - 1) + a * f m) (m - 1 + 1 + 0) = f m := by unfold put; rw [if_neg (by omega)]; congr 1; omega
  have c4 : put f (m - 1) (f (m - 1) + a * f m) (m - 1) = f (m - 1) + a * f m := by unfold put; rw [if_pos rfl]
  rw [e, ev_lst_snoc, e2, e3, ev_lst_succ, c1, c2, c3, c4, Int.pow_succ]
  grind
theorem ShO.next {n i : Nat} {a : Int} {P : Int → Int} {f f' : Nat → Int} (h : ShO n a P f i) (hi : i < n) (hs : ShI n a (fun x => pev (lst (n - i) fun y => f (i + y)) x) f' i i) (hf : ∀ y, y < i → f' y = f y) : ShO n a P f' (i + 1) := fun x => by
  have h1 := hs x
  simp only [Nat.sub_self, Int.pow_zero] at h1
  have c1 : lst i f = lst i f' := lst_congr fun y hy => (hf y hy).symm
  rw [h x, h1, c1, ev_lst_snoc, show n - (i + 1) = n - 1 - i by omega, Int.pow_succ]
  simp only [lst, List.range_zero, List.map_nil, pev]
  grind
end Go.Proofs.Ytfkeohlpcjpkbaa

namespace Go.Proofs.Ytfkeohlpcjpkbaa
open Go.RowKit
end Go.Proofs.Ytfkeohlpcjpkbaa

namespace Go.Proofs.Ytfkeohlpcjpkbaa
open Go.RowKit
end Go.Proofs.Ytfkeohlpcjpkbaa

namespace Go.Proofs.Ytfkeohlpcjpkbaa
open Go.RowKit
theorem deg_dg (l : List Int) : deg l = (dg l : Int) - 1 := by
  have h1 := degTo_le l l.length (dg l) (dg_le_len l) fun j h _ => dg_le.1 (Nat.le_refl _) j h
  unfold deg
  rw [h1]
  by_cases h0 : dg l = 0
  · rw [h0]; rfl
  · have h2 := ld_ne (l := l) (by omega)
    unfold ld at h2
    obtain ⟨m, hm⟩ : ∃ m, dg l = m + 1 := ⟨dg l - 1, by omega⟩
    rw [hm] at h2 ⊢
    simp only [degTo, Nat.add_sub_cancel] at h2 ⊢
    rw [if_neg h2]; omega
theorem rNormP_meets (v : Value) (p : Row) (hp : Fit 137438953472 p) (lp : p.length ≤ 536870912) :
    Meets Try.prog 67 [v] [(v, V p)] (fun r os fs => os = [] ∧ fs = [(r, vd (nrm (vv p)))]) := by
  have hd := rDegree_meets v p (hp.mono (by decide))
  rw [deg_dg] at hd
  have hdl : dg (vv p) ≤ p.length := Nat.le_trans (dg_le_len _) (by rw [vv_len]; exact Nat.le_refl _)
  have hfin : lst (dg (vv p)) (fun i => (vv p).getD i 0) = nrm (vv p) := row_eq_of_getD 0 (by rw [lst_len]; rfl) fun j hj => by
    rw [lst_len] at hj
    rw [lst_get hj, co_nrm]
  have hat : ∀ i : Nat, Meets Try.prog 66 [v, .int .i64 (i : Nat)] [(v, V p)] (fun r os fs => os = [] ∧ fs = [(r, zd ((vv p).getD i 0))]) := fun i => by
    have := rAt_meets v p (i : Nat) (hp.mono (by decide))
    rw [if_neg (by omega), Int.toNat_natCast] at this
    exact this
  generalize hn : dg (vv p) = n at *
  generalize hg : (fun i => (vv p).getD i 0) = g at *
  have hat' : ∀ i : Nat, Meets Try.prog 66 [v, .int .i64 (i : Nat)] [(v, V p)] (fun r os fs => os = [] ∧ fs = [(r, zd (g i))]) := fun i => by rw [← hg]; exact hat i
  rw [← hfin]
  refine meets_of_vc Try.func67 (by kernel_rfl) rfl (by kernel_rfl) (Nat.le_of_ble_eq_true rfl) ?_
  refine call_fn hd (Seals.refl _ _) (by repeat (first | exact Sub.nil _ | refine Sub.cons (by repeat (first | exact List.Mem.head _ | apply List.Mem.tail)) ?_)) ?_
  rintro _ _ _ ⟨rfl, rfl, rfl⟩
  refine ar rfl (by first | exact ⟨by omega, by omega⟩ | (simp only [inK]; omega)) ?_
  refine empty_L (size := 2) (e := 39) J z0 (by decide) fun v0 hv0 => ?_
  refine loop_rule (X := Value × Nat) (fun x => ([(0, v), (3, .int .i64 (n : Nat)), (4, x.1), (5, .int .i64 (x.2 : Nat))], [ownL 2 J z0 x.1 ((lst x.2 g).map cn)], [(v, V p)])) (fun x => isSl x.1 ∧ x.2 ≤ n) (fun x => n - x.2) rfl ?_ ?_
  · exact again (v0, 0) ⟨hv0, Nat.zero_le _⟩ trivial (by repeat (first | exact trivial | refine ⟨rfl, ?_⟩ | refine ⟨i64_eq (by first | omega | (simp only; omega)), ?_⟩ | refine ⟨u64_eq (by first | omega | (simp only; omega)), ?_⟩)) (Seals.sub (by repeat (first | exact Sub.nil _ | refine Sub.cons (by repeat (first | exact List.Mem.head _ | apply List.Mem.tail)) ?_)))
  · rintro ⟨vo, i⟩ ⟨hvo, h2⟩
    simp only at hvo h2 ⊢
    refine cmp_split _ rfl (fun hlt => ?_) (fun hlt => ?_)
    · have hll : (lst i g).length = i := lst_len _ _
      refine call_fn (hat' i) (Seals.refl _ _) (by repeat (first | exact Sub.nil _ | refine Sub.cons (by repeat (first | exact List.Mem.head _ | apply List.Mem.tail)) ?_)) ?_
      rintro y1 _ _ ⟨rfl, rfl⟩
      refine lit_L (size := 2) (f := J) (z := z0) (e := 39) (cn (g i)) (by decide) (Reads.fact (by repeat (first | exact List.Mem.head _ | apply List.Mem.tail))) rfl fun y4 => ?_
      refine append_L (size := 2) (e := 39) (f := J) (z := z0) (l := (lst i g).map cn) (m := [cn (g i)]) 0 rfl hvo (Knw.fact (by repeat (first | exact List.Mem.head _ | apply List.Mem.tail))) (by simp only [List.length_map, hll, List.length_cons, List.length_nil]; omega) (by simp only [List.length_map, hll, List.length_cons, List.length_nil]; omega) fun vn hvn => ?_
      refine ar rfl (by first | exact ⟨by omega, by omega⟩ | (simp only [inK]; omega)) ?_
      refine again (vn, i + 1) ⟨hvn, by simp only; omega⟩ (by simp only; omega) (by repeat (first | exact trivial | refine ⟨rfl, ?_⟩ | refine ⟨i64_eq (by first | omega | (simp only; omega)), ?_⟩ | refine ⟨u64_eq (by first | omega | (simp only; omega)), ?_⟩)) ?_
      rw [show (lst i g).map cn ++ [cn (g i)] = (lst (i + 1) g).map cn by rw [lst_snoc, List.map_append]; rfl]
      exact Seals.sub (by repeat (first | exact Sub.nil _ | refine Sub.cons (by repeat (first | exact List.Mem.head _ | apply List.Mem.tail)) ?_))
    · have hii : i = n := by omega
      subst hii
      exact fin ⟨rfl, rfl⟩ (Seals.trans (Seals.toldL hvo) (Seals.sub (by repeat (first | exact Sub.nil _ | refine Sub.cons (by repeat (first | exact List.Mem.head _ | apply List.Mem.tail)) ?_))))
end Go.Proofs.Ytfkeohlpcjpkbaa

namespace Go.Proofs.Ytfkeohlpcjpkbaa
open Go.RowKit
theorem rNormT (v : Value) (l : List Int) (hl : szR 137438953472 l) (ll : l.length ≤ 536870912) :
    Meets Try.prog 67 [v] [(v, vd l)] (fun r os fs => os = [] ∧ fs = [(r, vd (nrm l))]) := by
  have h := rNormP_meets v (l.map cn) hl.fit (by rw [List.length_map]; exact ll)
  rw [vv_cn] at h
  exact h
theorem rTimesJ (v w : Value) (p : Row) (cj : Bool × List Nat) (k : Nat) (hp : Fit k p) (hcl : Lim cj.2) (hca : cj.2.length ≤ k) (hk : k + k ≤ 137438953472) (lp : p.length ≤ 536870912) :
    Meets Try.prog 94 [v, w] [(v, V p), (w, J cj)] (fun r os fs => os = [] ∧ fs = [(r, vd (ptim (jv cj) (vv p)))]) := by
  have hc : sz (jv cj) k := sz_jv hcl hca
  obtain ⟨c, hcj⟩ : ∃ c, jv cj = c := ⟨_, rfl⟩
  rw [hcj] at hc ⊢
  have hfin : lst p.length (fun i => c * (vv p).getD i 0) = (vv p).map fun y => c * y := by
    rw [← vv_len]; exact lst_map (vv p) fun y => c * y
  have hsz : szR (k + k) ((vv p).map fun y => c * y) := hp.szR.map hc
  have hgi : ∀ i, i < p.length → c * jv (p.getD i z0) = (fun i => c * (vv p).getD i 0) i := fun i hi => by simp only; rw [vv_get p i hi]
  have hn := fun u => rNormT u ((vv p).map fun y => c * y) (hsz.mono hk) (by rw [List.length_map, vv_len]; exact lp)
  rw [← hfin] at hn
  have hdef : ptim c (vv p) = nrm (lst p.length fun i => c * (vv p).getD i 0) := by rw [hfin]; rfl
  rw [hdef]
  generalize hg : (fun i => c * (vv p).getD i 0) = g at *
  refine meets_of_vc Try.func94 (by kernel_rfl) rfl (by kernel_rfl) (Nat.le_of_ble_eq_true rfl) ?_
  refine box_fact (Reads.fact (d := J cj) (by repeat (first | exact List.Mem.head _ | apply List.Mem.tail))) fun px => ?_
  refine empty_L (size := 2) (e := 39) J z0 (by decide) fun v0 hv0 => ?_
  refine loop_rule (X := Value × Nat) (fun x => ([(0, v), (3, px), (5, x.1), (6, .int .i64 (x.2 : Nat))], [ownL 2 J z0 x.1 ((lst x.2 g).map cn)], [(v, V p), (px, .ptr (J cj))])) (fun x => isSl x.1 ∧ x.2 ≤ p.length) (fun x => p.length - x.2) rfl ?_ ?_
  · exact again (v0, 0) ⟨hv0, Nat.zero_le _⟩ trivial (by repeat (first | exact trivial | refine ⟨rfl, ?_⟩ | refine ⟨i64_eq (by first | omega | (simp only; omega)), ?_⟩ | refine ⟨u64_eq (by first | omega | (simp only; omega)), ?_⟩)) (Seals.sub (by repeat (first | exact Sub.nil _ | refine Sub.cons (by repeat (first | exact List.Mem.head _ | apply List.Mem.tail)) ?_)))
  · rintro ⟨vo, i⟩ ⟨hvo, h2⟩
    simp only at hvo h2 ⊢
    refine len_fact (by repeat (first | exact List.Mem.head _ | apply List.Mem.tail)) fun _ => ?_
    refine cmp_split _ rfl (fun hlt => ?_) (fun hlt => ?_)
    · have hin : i < p.length := by omega
      have hll : (lst i g).length = i := lst_len _ _
      have hpi := hp.get i
      have hmul := fun u u' => rMulJ u u' cj (p.getD i z0) hcl (by omega) hpi.1 (by omega)
      rw [hcj, hgi i hin] at hmul
      refine draw_rule [0, 1, 2, 3, 4, 5, 6, 7, 8, 9] [0, 1, 2, 3, 4, 5, 6, 7, 8, 9] (by kernel_rfl) (by kernel_rfl) ?_
      refine load_fact (d := J cj) (by repeat (first | exact List.Mem.head _ | apply List.Mem.tail)) (load_J _) fun y1 => ?_
      refine index_fact (by repeat (first | exact List.Mem.head _ | apply List.Mem.tail)) i rfl hin fun b1 => ?_
      refine load_fact (d := J (p.getD i z0)) (by repeat (first | exact List.Mem.head _ | apply List.Mem.tail)) (load_J _) fun y2 => ?_
      refine call_fn (hmul y1 y2) (Seals.refl _ _) (by repeat (first | exact Sub.nil _ | refine Sub.cons (by repeat (first | exact List.Mem.head _ | apply List.Mem.tail)) ?_)) ?_
      rintro y3 _ _ ⟨rfl, rfl⟩
      refine lit_L (size := 2) (f := J) (z := z0) (e := 39) (cn (g i)) (by decide) (Reads.fact (by repeat (first | exact List.Mem.head _ | apply List.Mem.tail))) rfl fun y4 => ?_
      refine append_L (size := 2) (e := 39) (f := J) (z := z0) (l := (lst i g).map cn) (m := [cn (g i)]) 0 rfl hvo (Knw.fact (by repeat (first | exact List.Mem.head _ | apply List.Mem.tail))) (by simp only [List.length_map, hll, List.length_cons, List.length_nil]; omega) (by simp only [List.length_map, hll, List.length_cons, List.length_nil]; omega) fun vn hvn => ?_
      refine ar rfl (by first | exact ⟨by omega, by omega⟩ | (simp only [inK]; omega)) ?_
      refine again (vn, i + 1) ⟨hvn, by simp only; omega⟩ (by simp only; omega) (by repeat (first | exact trivial | refine ⟨rfl, ?_⟩ | refine ⟨i64_eq (by first | omega | (simp only; omega)), ?_⟩ | refine ⟨u64_eq (by first | omega | (simp only; omega)), ?_⟩)) ?_
      rw [show (lst i g).map cn ++ [cn (g i)] = (lst (i + 1) g).map cn by rw [lst_snoc, List.map_append]; rfl]
      exact Seals.sub (by repeat (first | exact Sub.nil _ | refine Sub.cons (by repeat (first | exact List.Mem.head _ | apply List.Mem.tail)) ?_))
    · have hii : i = p.length := by omega
      subst hii
      refine call_fn (hn vo) (Seals.toldL hvo) (by repeat (first | exact Sub.nil _ | refine Sub.cons (by repeat (first | exact List.Mem.head _ | apply List.Mem.tail)) ?_)) ?_
      rintro r _ _ ⟨rfl, rfl⟩
      exact fin ⟨rfl, rfl⟩ (Seals.sub (by repeat (first | exact Sub.nil _ | refine Sub.cons (by repeat (first | exact List.Mem.head _ | apply List.Mem.tail)) ?_)))
theorem rTimes_meets (v w : Value) (p : Row) (c : Int) (k : Nat) (hp : Fit k p) (hc : sz c k) (hk : k + k ≤ 137438953472) (lp : p.length ≤ 536870912) :
    Meets Try.prog 94 [v, w] [(v, V p), (w, zd c)] (fun r os fs => os = [] ∧ fs = [(r, vd (ptim c (vv p)))]) := by
  have h := rTimesJ v w p (cn c) k hp (Lim_lims _) hc.len hk lp
  rw [jv_cn] at h
  exact h
end Go.Proofs.Ytfkeohlpcjpkbaa

namespace Go.Proofs.Ytfkeohlpcjpkbaa
open Go.RowKit
theorem rAtN (v : Value) (p : Row) (hp : Fit 1099511627776 p) (i : Nat) : Meets Try.prog 66 [v, .int .i64 (i : Nat)] [(v, V p)] (fun r os fs => os = [] ∧ fs = [(r, zd ((vv p).getD i 0))]) := by
  have := rAt_meets v p (i : Nat) hp
  rw [if_neg (by omega), Int.toNat_natCast] at this
  exact this
theorem rPAdd_meets (v w : Value) (p q : Row) (k : Nat) (hp : Fit k p) (hq : Fit k q) (hk : k + 1 ≤ 137438953472) (lp : p.length ≤ 536870912) (lq : q.length ≤ 536870912) :
    Meets Try.prog 71 [v, w] [(v, V p), (w, V q)] (fun r os fs => os = [] ∧ fs = [(r, vd (padd (vv p) (vv q)))]) := by
  have a1 := rAtN v p (hp.mono (by omega))
  have a2 := rAtN w q (hq.mono (by omega))
  have hsz : szR (k + 1) (lst (max p.length q.length) fun i => (vv p).getD i 0 + (vv q).getD i 0) := szR.lst fun i _ => by
    have := sz_sub (hp.szR.get i) ((hq.szR.get i).neg)
    rwa [Int.sub_neg] at this
  have hn := fun u => rNormT u (lst (max p.length q.length) fun i => (vv p).getD i 0 + (vv q).getD i 0) (hsz.mono hk) (by rw [lst_len]; omega)
  have hdef : padd (vv p) (vv q) = nrm (lst (max p.length q.length) fun i => (vv p).getD i 0 + (vv q).getD i 0) := by unfold padd; rw [vv_len, vv_len]
  have had := fun u u' i => rAddZ u u' ((vv p).getD i 0) ((vv q).getD i 0) k (hp.szR.get i) (hq.szR.get i) (by omega)
  rw [hdef]
  generalize hg : (fun i => (vv p).getD i 0 + (vv q).getD i 0) = g at *
  have had' : ∀ u u' i, Meets Try.prog 23 [u, u'] [(u, zd ((vv p).getD i 0)), (u', zd ((vv q).getD i 0))] (fun r os fs => os = [] ∧ fs = [(r, zd (g i))]) := fun u u' i => by
    rw [← hg]; exact had u u' i
  generalize hm : max p.length q.length = m at *
  refine meets_of_vc Try.func71 (by kernel_rfl) rfl (by kernel_rfl) (Nat.le_of_ble_eq_true rfl) ?_
  refine empty_L (size := 2) (e := 39) J z0 (by decide) fun v0 hv0 => ?_
  refine loop_rule (X := Value × Nat) (fun x => ([(0, v), (1, w), (5, x.1), (6, .int .i64 (x.2 : Nat))], [ownL 2 J z0 x.1 ((lst x.2 g).map cn)], [(v, V p), (w, V q)])) (fun x => isSl x.1 ∧ x.2 ≤ m) (fun x => m - x.2) rfl ?_ ?_
  · exact again (v0, 0) ⟨hv0, Nat.zero_le _⟩ trivial (by repeat (first | exact trivial | refine ⟨rfl, ?_⟩ | refine ⟨i64_eq (by first | omega | (simp only; omega)), ?_⟩ | refine ⟨u64_eq (by first | omega | (simp only; omega)), ?_⟩)) (Seals.sub (by repeat (first | exact Sub.nil _ | refine Sub.cons (by repeat (first | exact List.Mem.head _ | apply List.Mem.tail)) ?_)))
  · rintro ⟨vo, i⟩ ⟨hvo, h2⟩
    simp only at hvo h2 ⊢
    refine len_fact (by repeat (first | exact List.Mem.head _ | apply List.Mem.tail)) fun _ => ?_
    refine len_fact (by repeat (first | exact List.Mem.head _ | apply List.Mem.tail)) fun _ => ?_
    refine max2_rule ?_
    refine cmp_split _ rfl (fun hlt => ?_) (fun hlt => ?_)
    · have hin : i < m := by omega
      have hll : (lst i g).length = i := lst_len _ _
      refine call_fn (a1 i) (Seals.refl _ _) (by repeat (first | exact Sub.nil _ | refine Sub.cons (by repeat (first | exact List.Mem.head _ | apply List.Mem.tail)) ?_)) ?_
      rintro y1 _ _ ⟨rfl, rfl⟩
      refine call_fn (a2 i) (Seals.refl _ _) (by repeat (first | exact Sub.nil _ | refine Sub.cons (by repeat (first | exact List.Mem.head _ | apply List.Mem.tail)) ?_)) ?_
      rintro y2 _ _ ⟨rfl, rfl⟩
      refine call_fn (had' y1 y2 i) (Seals.refl _ _) (by repeat (first | exact Sub.nil _ | refine Sub.cons (by repeat (first | exact List.Mem.head _ | apply List.Mem.tail)) ?_)) ?_
      rintro y3 _ _ ⟨rfl, rfl⟩
      refine lit_L (size := 2) (f := J) (z := z0) (e := 39) (cn (g i)) (by decide) (Reads.fact (by repeat (first | exact List.Mem.head _ | apply List.Mem.tail))) rfl fun y4 => ?_
      refine append_L (size := 2) (e := 39) (f := J) (z := z0) (l := (lst i g).map cn) (m := [cn (g i)]) 0 rfl hvo (Knw.fact (by repeat (first | exact List.Mem.head _ | apply List.Mem.tail))) (by simp only [List.length_map, hll, List.length_cons, List.length_nil]; omega) (by simp only [List.length_map, hll, List.length_cons, List.length_nil]; omega) fun vn hvn => ?_
      refine ar rfl (by first | exact ⟨by omega, by omega⟩ | (simp only [inK]; omega)) ?_
      refine again (vn, i + 1) ⟨hvn, by simp only; omega⟩ (by simp only; omega) (by repeat (first | exact trivial | refine ⟨rfl, ?_⟩ | refine ⟨i64_eq (by first | omega | (simp only; omega)), ?_⟩ | refine ⟨u64_eq (by first | omega | (simp only; omega)), ?_⟩)) ?_
      rw [show (lst i g).map cn ++ [cn (g i)] = (lst (i + 1) g).map cn by rw [lst_snoc, List.map_append]; rfl]
      exact Seals.sub (by repeat (first | exact Sub.nil _ | refine Sub.cons (by repeat (first | exact List.Mem.head _ | apply List.Mem.tail)) ?_))
    · have hii : i = m := by omega
      subst hii
      refine call_fn (hn vo) (Seals.toldL hvo) (by repeat (first | exact Sub.nil _ | refine Sub.cons (by repeat (first | exact List.Mem.head _ | apply List.Mem.tail)) ?_)) ?_
      rintro r _ _ ⟨rfl, rfl⟩
      exact fin ⟨rfl, rfl⟩ (Seals.sub (by repeat (first | exact Sub.nil _ | refine Sub.cons (by repeat (first | exact List.Mem.head _ | apply List.Mem.tail)) ?_)))
theorem padd_ptim (l m : List Int) : padd l (ptim (-1) m) = psub l m := padd_neg l m
theorem rPSub_meets (v w : Value) (p q : Row) (k : Nat) (hp : Fit k p) (hq : Fit k q) (h1k : 1 ≤ k) (hk : k + k ≤ 137438953472) (lp : p.length ≤ 536870912) (lq : q.length ≤ 536870912) :
    Meets Try.prog 70 [v, w] [(v, V p), (w, V q)] (fun r os fs => os = [] ∧ fs = [(r, vd (psub (vv p) (vv q)))]) := by
  have hr := fun u => rTimes_meets w u q (-1) k hq ((sz_one _ (by decide)).mono h1k) hk lq
  have sn : szR k (ptim (-1) (vv q)) := hq.szR.neg
  have ln : (ptim (-1) (vv q)).length ≤ q.length := by
    have := prai_len (-1) 0 (vv q)
    rw [vv_len] at this
    rw [prai_zero] at this; omega
  have hs := fun u => rPAdd_meets v u p ((ptim (-1) (vv q)).map cn) k hp sn.fit (by omega) lp (by rw [List.length_map]; omega)
  simp only [vv_cn, padd_ptim] at hs
  refine meets_of_vc Try.func70 (by kernel_rfl) rfl (by kernel_rfl) (Nat.le_of_ble_eq_true rfl) ?_
  refine call_fn (rOf_meets (-1) (by decide) (by decide)) (Seals.refl _ _) (by repeat (first | exact Sub.nil _ | refine Sub.cons (by repeat (first | exact List.Mem.head _ | apply List.Mem.tail)) ?_)) ?_
  rintro x1 _ _ ⟨rfl, rfl⟩
  refine call_fn (hr x1) (Seals.refl _ _) (by repeat (first | exact Sub.nil _ | refine Sub.cons (by repeat (first | exact List.Mem.head _ | apply List.Mem.tail)) ?_)) ?_
  rintro x2 _ _ ⟨rfl, rfl⟩
  refine call_fn (hs x2) (Seals.refl _ _) (by repeat (first | exact Sub.nil _ | refine Sub.cons (by repeat (first | exact List.Mem.head _ | apply List.Mem.tail)) ?_)) ?_
  rintro r _ _ ⟨rfl, rfl⟩
  exact fin ⟨rfl, rfl⟩ (Seals.sub (by repeat (first | exact Sub.nil _ | refine Sub.cons (by repeat (first | exact List.Mem.head _ | apply List.Mem.tail)) ?_)))
end Go.Proofs.Ytfkeohlpcjpkbaa

namespace Go.Proofs.Ytfkeohlpcjpkbaa
open Go.RowKit
instance : TSl Try.prog 23 27 1 := ⟨Try.underlying23, by kernel_rfl⟩
instance : TOne Try.prog 23 := ⟨⟨_, Try.underlying23, trivial⟩, by kernel_rfl⟩
instance tmS : TMap Try.prog 68 71 39 :=
  ⟨Try.underlying68, Maps.Keyed.of_law (deep_law_laid (m := 3) (by kernel_rfl) (by decide) (Nat.le_of_ble_eq_true (by kernel_rfl)) (by kernel_rfl) (by kernel_rfl))⟩
instance tsS : TSpot Try.prog 71 :=
  ⟨⟨_, _, Try.underlying71, rfl, rfl, by kernel_rfl, by kernel_rfl, Try.underlying3, Try.underlying3, by kernel_rfl, by kernel_rfl, by kernel_rfl⟩, by kernel_rfl, ⟨Try.prog.types.size - 1, by kernel_rfl⟩⟩
theorem info_spot : (Try.prog.info? 71).map (fun i => (i.zero, i.size, i.bytes)) = some (some (.agg #[.int .i64 0, .int .i64 0]), 2, 16) := by kernel_rfl
instance : TStr2 Try.prog 71 (.int .i64 0) (.int .i64 0) := ⟨⟨_, _, _, Try.underlying71, rfl, rfl, rfl, by kernel_rfl, by kernel_rfl⟩, by
  obtain ⟨i, h1, _, _, h4⟩ := info_of info_spot
  exact ⟨i, h1, h4⟩⟩
instance : TAgg Try.prog 71 2 := ⟨⟨_, Try.underlying71⟩, by kernel_rfl⟩
instance : TFld Try.prog 71 0 0 := ⟨_, _, Try.underlying71, rfl, rfl, 0, by kernel_rfl⟩
instance : TFld Try.prog 71 1 1 := ⟨_, _, Try.underlying71, rfl, rfl, 0, by kernel_rfl⟩
instance tzS : TZero Try.prog 71 (spotD 0 0) := tzero info_spot fun _ _ => ⟨[_], [_], rfl, ⟨rfl, rfl⟩, ⟨rfl, rfl⟩⟩
instance tvI : TZeroV Try.prog 39 (J z0) := ⟨by
  obtain ⟨i, h1, _, _, h4⟩ := info_of info_int
  exact ⟨i, _, h1, h4, fun S w => ⟨_, ⟨[.bool false], [.slice none 0 0], rfl, rd_false S w, rd_nil S w 1 _⟩, rfl⟩⟩⟩
-- The coefficients that are not 0, in order.
abbrev Ent3 := Nat × Nat × (Bool × List Nat)
def tr (i : Nat) (r : Row) : Nat → List Ent3
  | 0 => []
  | n + 1 => tr i r n ++ if jv (r.getD n z0) = 0 then [] else [(i, n, r.getD n z0)]
def tg (g : List Row) : Nat → List Ent3
  | 0 => []
  | n + 1 => tg g n ++ tr n (g.getD n []) (g.getD n []).length
theorem tr_mem {i : Nat} {r : Row} {n : Nat} {t : Ent3} (h : t ∈ tr i r n) : t.1 = i ∧ t.2.1 < n ∧ t.2.2 = r.getD t.2.1 z0 ∧ jv t.2.2 ≠ 0 := by
  induction n with
  | zero => simp [tr] at h
  | succ n ih =>
    simp only [tr, List.mem_append] at h
    rcases h with h | h
    · obtain ⟨h1, h2, h3⟩ := ih h; exact ⟨h1, by omega, h3⟩
    · split at h
      · simp at h
      · rename_i hz
        simp only [List.mem_singleton] at h
        subst h
        exact ⟨rfl, Nat.lt_succ_self _, rfl, hz⟩
theorem tg_mem {g : List Row} {n : Nat} {t : Ent3} (h : t ∈ tg g n) : t.1 < n ∧ t.2.1 < (g.getD t.1 []).length ∧ t.2.2 = (g.getD t.1 []).getD t.2.1 z0 ∧ jv t.2.2 ≠ 0 := by
  induction n with
  | zero => simp [tg] at h
  | succ n ih =>
    simp only [tg, List.mem_append] at h
    rcases h with h | h
    · obtain ⟨h1, h2⟩ := ih h; exact ⟨by omega, h2⟩
    · obtain ⟨h1, h2, h3, h4⟩ := tr_mem h
      subst h1
      exact ⟨Nat.lt_succ_self _, h2, h3, h4⟩
theorem tr_nd (i : Nat) (r : Row) (n : Nat) : Nd (tr i r n) := by
  induction n with
  | zero => exact List.Pairwise.nil
  | succ n ih =>
    refine List.pairwise_append.2 ⟨ih, ?_, fun s hs t ht => ?_⟩
    · split
      · exact List.Pairwise.nil
      · exact List.pairwise_singleton _ _
    · split at ht
      · simp at ht
      · simp only [List.mem_singleton] at ht
        subst ht
        have := (tr_mem hs).2.1
        simp only
        omega
theorem tg_nd (g : List Row) (n : Nat) : Nd (tg g n) := by
  induction n with
  | zero => exact List.Pairwise.nil
  | succ n ih =>
    refine List.pairwise_append.2 ⟨ih, tr_nd _ _ _, fun s hs t ht => ?_⟩
    have h1 := (tg_mem hs).1
    have h2 := (tr_mem ht).1
    omega
theorem tr_len (i : Nat) (r : Row) (n : Nat) : (tr i r n).length ≤ n := by
  induction n with
  | zero => exact Nat.le_refl _
  | succ n ih =>
    simp only [tr, List.length_append]
    split <;> simp only [List.length_nil, List.length_cons] <;> omega
theorem tg_len {g : List Row} {c : Nat} (hc : ∀ r, r ∈ g → r.length ≤ c) (n : Nat) : (tg g n).length ≤ n * c := by
  induction n with
  | zero => exact Nat.zero_le _
  | succ n ih =>
    have h1 := tr_len n (g.getD n []) (g.getD n []).length
    have h2 : (g.getD n []).length ≤ c := by
      by_cases hn : n < g.length
      · exact hc _ (by rw [List.getD_eq_getElem?_getD, List.getElem?_eq_getElem hn]; exact List.getElem_mem hn)
      · rw [List.getD_eq_getElem?_getD, List.getElem?_eq_none (by omega)]; exact Nat.zero_le _
    simp only [tg, List.length_append, Nat.succ_mul]
    omega
theorem mput_new {L : List Ent3} {i j : Nat} (h : ∀ t, t ∈ L → ¬ (t.1 = i ∧ t.2.1 = j)) (a : Bool × List Nat) : mput L i j a = L ++ [(i, j, a)] := by
  unfold mput
  rw [List.findIdx?_eq_none_iff.2 fun t ht => by
    have := h t ht
    cases hb : (t.1 == i && t.2.1 == j)
    · rfl
    · simp only [Bool.and_eq_true, beq_iff_eq] at hb; exact absurd hb this]
theorem gterms_meets (v : Value) (g : List Row) (hk : ∀ r, r ∈ g → r.length ≤ 1048576 ∧ Fit 137438953472 r) (lg : g.length ≤ 1048576) :
    Meets Try.prog 50 [v] [(v, W g)] (fun r os fs => os = [] ∧ (∃ b, r = .map (some b)) ∧ fs = [(r, MD J z0 (tg g g.length))]) := by
  refine meets_of_vc Try.func50 (by kernel_rfl) rfl (by kernel_rfl) (Nat.le_of_ble_eq_true rfl) ?_
  refine make_L J z0 fun m hm => ?_
  refine len_fact (by repeat (first | exact List.Mem.head _ | apply List.Mem.tail)) fun _ => ?_
  refine loop_rule (X := Nat) (fun i => ([(3, m), (9, v), (10, .int .i64 (g.length : Nat)), (11, .int .i64 (i : Nat))], [ownMD J z0 m (tg g i)], [(v, W g)])) (fun i => i ≤ g.length) (fun i => g.length - i) rfl ?_ ?_
  · exact again 0 (Nat.zero_le _) trivial (by repeat (first | exact trivial | refine ⟨rfl, ?_⟩ | refine ⟨i64_eq (by first | omega | (simp only; omega)), ?_⟩ | refine ⟨u64_eq (by first | omega | (simp only; omega)), ?_⟩)) (Seals.sub (by repeat (first | exact Sub.nil _ | refine Sub.cons (by repeat (first | exact List.Mem.head _ | apply List.Mem.tail)) ?_)))
  · rintro i hi
    refine cmp_split _ rfl (fun hlt => ?_) (fun hlt => ?_)
    · have hin : i < g.length := by omega
      have hrm : g.getD i [] ∈ g := by rw [List.getD_eq_getElem?_getD, List.getElem?_eq_getElem hin]; exact List.getElem_mem hin
      obtain ⟨hrl, hrf⟩ := hk _ hrm
      have hlen := tg_len (fun r hr => (hk r hr).1) i
      have hmul : i * 1048576 ≤ 1048576 * 1048576 := Nat.mul_le_mul_right _ (by omega)
      have hmem := fun t => tg_mem (g := g) (n := i) (t := t)
      have hnd := tg_nd g i
      have hstep : tg g (i + 1) = tg g i ++ tr i (g.getD i []) (g.getD i []).length := rfl
      refine index_fact (by repeat (first | exact List.Mem.head _ | apply List.Mem.tail)) i rfl hin fun b1 => ?_
      refine load_fact (d := V (g.getD i [])) (by repeat (first | exact List.Mem.head _ | apply List.Mem.tail)) (show TOne Try.prog 27 from inferInstance) fun u => ?_
      generalize g.getD i [] = r at *
      generalize hT : tg g i = T at *
      refine len_fact (by repeat (first | exact List.Mem.head _ | apply List.Mem.tail)) fun _ => ?_
      refine loop_rule (X := Nat) (fun j => ([(3, m), (4, .int .i64 (i : Nat)), (9, v), (10, .int .i64 (g.length : Nat)), (11, .int .i64 (i : Nat)), (16, u), (17, .int .i64 (r.length : Nat)), (18, .int .i64 (j : Nat))], [ownMD J z0 m (T ++ tr i r j)], [(u, V r), (v, W g)])) (fun j => j ≤ r.length) (fun j => r.length - j) rfl ?_ ?_
      · refine again 0 (Nat.zero_le _) trivial (by repeat (first | exact trivial | refine ⟨rfl, ?_⟩ | refine ⟨i64_eq (by first | omega | (simp only; omega)), ?_⟩ | refine ⟨u64_eq (by first | omega | (simp only; omega)), ?_⟩)) ?_
        rw [show T ++ tr i r 0 = T from List.append_nil _]
        exact Seals.sub (by repeat (first | exact Sub.nil _ | refine Sub.cons (by repeat (first | exact List.Mem.head _ | apply List.Mem.tail)) ?_))
      · rintro j hj
        refine cmp_split _ rfl (fun hlt2 => ?_) (fun hlt2 => ?_)
        · have hjr : j < r.length := by omega
          have hx := hrf.get j
          have hs := fun u => zsign_meets u (r.getD j z0).1 (r.getD j z0).2 hx.1 hx.2
          have hstep2 : tr i r (j + 1) = tr i r j ++ if jv (r.getD j z0) = 0 then [] else [(i, j, r.getD j z0)] := rfl
          have htm := fun t => tr_mem (i := i) (r := r) (n := j) (t := t)
          have htl := tr_len i r j
          have hnd2 : Nd (T ++ tr i r j) := List.pairwise_append.2 ⟨hnd, tr_nd _ _ _, fun s hs t ht => by
            have h1 := (hmem s hs).1
            have h2 := (htm t ht).1
            omega⟩
          have hin64 : In64 (T ++ tr i r j) := fun t ht => by
            rcases List.mem_append.1 ht with ht | ht
            · obtain ⟨h1, h2, _⟩ := hmem t ht
              have : (g.getD t.1 []).length ≤ 1048576 := (hk _ (by rw [List.getD_eq_getElem?_getD, List.getElem?_eq_getElem (by omega)]; exact List.getElem_mem _)).1
              omega
            · obtain ⟨h1, h2, _⟩ := htm t ht
              omega
          have hnew := mput_new (L := T ++ tr i r j) (i := i) (j := j) (fun t ht e => by
            rcases List.mem_append.1 ht with ht | ht
            · have := (hmem t ht).1; omega
            · have := (htm t ht).2.1; omega) (r.getD j z0)
          refine index_fact (by repeat (first | exact List.Mem.head _ | apply List.Mem.tail)) j rfl hjr fun b2 => ?_
          refine load_fact (d := J (r.getD j z0)) (by repeat (first | exact List.Mem.head _ | apply List.Mem.tail)) (load_J _) fun y1 => ?_
          refine alloc_rule (d := I false []) fun q hq => ?_
          refine store_box (d := J (r.getD j z0)) 0 rfl hq rfl (by kernel_rfl) ?_ ?_; exact Reads.fact (by repeat (first | exact List.Mem.head _ | apply List.Mem.tail))
          refine load_box (d := J (r.getD j z0)) 0 rfl hq rfl (load_J _) fun y2 => ?_
          refine call_fn (hs y2) (Seals.refl _ _) (by repeat (first | exact Sub.nil _ | refine Sub.cons (by repeat (first | exact List.Mem.head _ | apply List.Mem.tail)) ?_)) ?_
          rintro _ _ _ ⟨rfl, rfl, rfl⟩
          by_cases h0 : jv (r.getD j z0) = 0
          · refine cmp_false rfl (fun hne => hne (by show (jv (r.getD j z0)).sign = 0; rw [h0]; rfl)) ?_
            refine ar rfl (by first | exact ⟨by omega, by omega⟩ | (simp only [inK]; omega)) ?_
            refine again (j + 1) (by omega) (by simp only; omega) (by repeat (first | exact trivial | refine ⟨rfl, ?_⟩ | refine ⟨i64_eq (by first | omega | (simp only; omega)), ?_⟩ | refine ⟨u64_eq (by first | omega | (simp only; omega)), ?_⟩)) ?_
            rw [hstep2, if_pos h0, List.append_nil]
            exact Seals.trans (Seals.drop 0 _ _) (Seals.sub (by repeat (first | exact Sub.nil _ | refine Sub.cons (by repeat (first | exact List.Mem.head _ | apply List.Mem.tail)) ?_)))
          · refine cmp_true rfl (fun e => h0 (Int.sign_eq_zero_iff_zero.1 e)) ?_
            refine build_spot ?_
            refine load_box (d := J (r.getD j z0)) 0 rfl hq rfl (load_J _) fun y3 => ?_
            refine put_L (r.getD j z0) 1 rfl hm hin64 hnd2 (by omega) (by omega) (by simp only [List.length_append]; unfold maxLen; omega) (Knw.fact (by repeat (first | exact List.Mem.head _ | apply List.Mem.tail))) ?_
            rw [hnew]
            refine ar rfl (by first | exact ⟨by omega, by omega⟩ | (simp only [inK]; omega)) ?_
            refine again (j + 1) (by omega) (by simp only; omega) (by repeat (first | exact trivial | refine ⟨rfl, ?_⟩ | refine ⟨i64_eq (by first | omega | (simp only; omega)), ?_⟩ | refine ⟨u64_eq (by first | omega | (simp only; omega)), ?_⟩)) ?_
            rw [hstep2, if_neg h0, ← List.append_assoc]
            exact Seals.trans (Seals.drop 0 _ _) (Seals.sub (by repeat (first | exact Sub.nil _ | refine Sub.cons (by repeat (first | exact List.Mem.head _ | apply List.Mem.tail)) ?_)))
        · have hjr : j = r.length := by omega
          subst hjr
          refine ar rfl (by first | exact ⟨by omega, by omega⟩ | (simp only [inK]; omega)) ?_
          refine again (i + 1) (by omega) (by simp only; omega) (by repeat (first | exact trivial | refine ⟨rfl, ?_⟩ | refine ⟨i64_eq (by first | omega | (simp only; omega)), ?_⟩ | refine ⟨u64_eq (by first | omega | (simp only; omega)), ?_⟩)) ?_
          rw [hstep]
          exact Seals.sub (by repeat (first | exact Sub.nil _ | refine Sub.cons (by repeat (first | exact List.Mem.head _ | apply List.Mem.tail)) ?_))
    · have hip : i = g.length := by omega
      subst hip
      exact fin ⟨rfl, hm, rfl⟩ (Seals.trans (Seals.mapL 0 rfl hm) (Seals.sub (by repeat (first | exact Sub.nil _ | refine Sub.cons (by repeat (first | exact List.Mem.head _ | apply List.Mem.tail)) ?_))))
end Go.Proofs.Ytfkeohlpcjpkbaa

namespace Go.Proofs.Ytfkeohlpcjpkbaa
open Go.RowKit
/-- A grid without its last rows that are empty. -/
def gtr : List (List Int) → List (List Int)
  | [] => []
  | r :: g => match gtr g with
    | [] => if r = [] then [] else [r]
    | s :: t => r :: s :: t
theorem gtr_snoc_nil (l : List (List Int)) : gtr (l ++ [[]]) = gtr l := by
  induction l with
  | nil => rfl
  | cons r l ih => simp only [List.cons_append, gtr, ih]
theorem gtr_snoc_ne {r : List Int} (h : r ≠ []) (l : List (List Int)) : gtr (l ++ [r]) = l ++ [r] := by
  induction l with
  | nil => simp [gtr, h]
  | cons s l ih =>
    simp only [List.cons_append, gtr, ih]
    cases l <;> rfl
def rowL (L : List Ent3) (i n : Nat) : Row := (List.range n).map fun j => lk z0 L i j
def laidN (L : List Ent3) (c n : Nat) : List (List Int) := (List.range n).map fun i => nrm (vv (rowL L i c))
theorem rowL_len (L : List Ent3) (i n : Nat) : (rowL L i n).length = n := by simp [rowL]
theorem rowL_get (L : List Ent3) {i n j : Nat} (h : j < n) : (rowL L i n).getD j z0 = lk z0 L i j := by simp [rowL, List.getD_eq_getElem?_getD, h]
theorem laidN_len (L : List Ent3) (c n : Nat) : (laidN L c n).length = n := by simp [laidN]
theorem laidN_succ (L : List Ent3) (c n : Nat) : laidN L c (n + 1) = laidN L c n ++ [nrm (vv (rowL L n c))] := by simp [laidN, List.range_succ]
theorem lk_mem {L : List Ent3} {i j : Nat} : lk z0 L i j = z0 ∨ ∃ t, t ∈ L ∧ t.1 = i ∧ t.2.1 = j ∧ lk z0 L i j = t.2.2 := by
  unfold lk
  cases hf : L.find? fun t => t.1 == i && t.2.1 == j with
  | none => exact .inl rfl
  | some t =>
    have h1 := List.find?_some hf
    simp only [Bool.and_eq_true, beq_iff_eq] at h1
    exact .inr ⟨t, List.mem_of_find?_eq_some hf, h1.1, h1.2, rfl⟩
theorem lay_s (F : Nat → Bool × List Nat) (j y : Nat) : upd (fun y => J (if y < j then F y else z0)) j (J (F j)) y = J (if y < j + 1 then F y else z0) := by
  unfold upd
  by_cases h : y = j
  · subst h; rw [if_pos rfl, if_pos (by omega)]
  · rw [if_neg h]
    show J (if y < j then F y else z0) = J (if y < j + 1 then F y else z0)
    by_cases h2 : y < j
    · rw [if_pos h2, if_pos (by omega)]
    · rw [if_neg h2, if_neg (by omega)]
theorem glaid_meets (v : Value) (L : List Ent3) (n c : Nat) (hL : In64 L) (hnd : Nd L) (hf : ∀ t, t ∈ L → Lim t.2.2.2 ∧ t.2.2.2.length ≤ 137438953472) (hn : n ≤ 1048576) (hc : c ≤ 1048576) :
    Meets Try.prog 53 [v, .int .i64 ((n : Nat) - 1 : Int), .int .i64 ((c : Nat) - 1 : Int)] [(v, MD J z0 L)] (fun r os fs => os = [] ∧ fs = [(r, wd (gtr (laidN L c n)))]) := by
  refine meets_of_vc Try.func53 (by kernel_rfl) rfl (by kernel_rfl) (Nat.le_of_ble_eq_true rfl) ?_
  refine ar rfl (by first | exact ⟨by omega, by omega⟩ | (simp only [inK]; omega)) ?_
  refine loop_rule (X := Nat × Value) (fun x => ([(0, v), (1, .int .i64 ((n : Nat) - 1 : Int)), (2, .int .i64 ((c : Nat) - 1 : Int)), (7, x.2), (12, .int .i64 (n : Nat)), (13, .int .i64 (x.1 : Nat))], [ownL 1 V [] x.2 ((laidN L c x.1).map (·.map cn))], [(v, MD J z0 L)]))
    (fun x => x.1 ≤ n ∧ isSl x.2) (fun x => n - x.1) rfl ?_ ?_
  · exact again (0, .slice none 0 0) ⟨Nat.zero_le _, isSl_nil⟩ trivial (by repeat (first | exact trivial | refine ⟨rfl, ?_⟩ | refine ⟨i64_eq (by first | omega | (simp only; omega)), ?_⟩ | refine ⟨u64_eq (by first | omega | (simp only; omega)), ?_⟩)) (Seals.trans (Seals.own_nil _ _ 1 (fun i => V (([] : List Row).getD i []))) (Seals.sub (by repeat (first | exact Sub.nil _ | refine Sub.cons (by repeat (first | exact List.Mem.head _ | apply List.Mem.tail)) ?_))))
  · rintro ⟨i, vo⟩ ⟨h1, hvo⟩
    simp only at h1 hvo ⊢
    refine cmp_split _ rfl (fun hlt => ?_) (fun hlt => ?_)
    · have hin : i < n := by omega
      have hlen := laidN_len L c i
      have hrow : Fit 137438953472 (rowL L i c) := fun x hx => by
        obtain ⟨j, hj, rfl⟩ := List.mem_map.1 hx
        rcases lk_mem (L := L) (i := i) (j := j) with h | ⟨t, ht, _, _, h⟩
        · rw [h]; exact ⟨Lim.nil, Nat.zero_le _⟩
        · rw [h]; exact hf t ht
      refine ar rfl (by first | exact ⟨by omega, by omega⟩ | (simp only [inK]; omega)) ?_
      refine make_rule (t := 28) (d := I false []) c (by omega) (by omega) (by omega) (by omega) fun u hu => ?_
      refine ar rfl (by first | exact ⟨by omega, by omega⟩ | (simp only [inK]; omega)) ?_
      refine loop_rule (X := Nat) (fun j => ([(0, v), (1, .int .i64 ((n : Nat) - 1 : Int)), (2, .int .i64 ((c : Nat) - 1 : Int)), (7, vo), (8, .int .i64 (i : Nat)), (9, u), (12, .int .i64 (n : Nat)), (13, .int .i64 (i : Nat)), (20, .int .i64 (c : Nat)), (21, .int .i64 (j : Nat))],
        [own1 u 2 c (fun y => J (if y < j then lk z0 L i y else z0)), ownL 1 V [] vo ((laidN L c i).map (·.map cn))], [(v, MD J z0 L)])) (fun j => j ≤ c) (fun j => c - j) rfl ?_ ?_
      · exact again 0 (Nat.zero_le _) trivial (by repeat (first | exact trivial | refine ⟨rfl, ?_⟩ | refine ⟨i64_eq (by first | omega | (simp only; omega)), ?_⟩ | refine ⟨u64_eq (by first | omega | (simp only; omega)), ?_⟩)) (Seals.trans (Seals.own_cong (os := [_, _]) 0 (fun y => J (if y < 0 then lk z0 L i y else z0)) rfl rfl fun y _ => by rw [if_neg (Nat.not_lt_zero _)]; rfl) (Seals.sub (by repeat (first | exact Sub.nil _ | refine Sub.cons (by repeat (first | exact List.Mem.head _ | apply List.Mem.tail)) ?_))))
      · rintro j hj
        refine cmp_split _ rfl (fun hlt2 => ?_) (fun hlt2 => ?_)
        · have hjc : j < c := by omega
          refine build_spot ?_
          refine get_L (by repeat (first | exact List.Mem.head _ | apply List.Mem.tail)) hL hnd (by omega) (by omega) fun y1 => ?_
          refine index_elem 0 rfl hu j rfl hjc ?_
          refine StoreK.post (store_elem (d := J (lk z0 L i j)) 0 rfl j hjc rfl (by kernel_rfl) (Reads.fact (by repeat (first | exact List.Mem.head _ | apply List.Mem.tail))) ⟨_, _, Seals.own_cong (os := [_, _]) 0 (fun y => J (if y < j + 1 then lk z0 L i y else z0)) rfl rfl (fun y _ => lay_s (fun y => lk z0 L i y) j y), ?_⟩)
          refine ar rfl (by first | exact ⟨by omega, by omega⟩ | (simp only [inK]; omega)) ?_
          exact again (j + 1) (by omega) (by simp only; omega) (by repeat (first | exact trivial | refine ⟨rfl, ?_⟩ | refine ⟨i64_eq (by first | omega | (simp only; omega)), ?_⟩ | refine ⟨u64_eq (by first | omega | (simp only; omega)), ?_⟩)) (Seals.sub (by repeat (first | exact Sub.nil _ | refine Sub.cons (by repeat (first | exact List.Mem.head _ | apply List.Mem.tail)) ?_)))
        · have hjc : j = c := by omega
          subst hjc
          refine call_fn (pNorm_meets u (rowL L i j) hrow (by rw [rowL_len]; omega)) (Seals.trans (Seals.own_cong (os := [_, _]) 0 (n' := (rowL L i j).length) (fun y => J ((rowL L i j).getD y z0)) rfl (rowL_len L i j).symm fun y hy => by rw [if_pos hy, rowL_get L hy]) (Seals.L (os := [ownL 2 J z0 u (rowL L i j), _]) 0 rfl hu)) (by repeat (first | exact Sub.nil _ | refine Sub.cons (by repeat (first | exact List.Mem.head _ | apply List.Mem.tail)) ?_)) ?_
          rintro x2 _ _ ⟨rfl, rfl⟩
          refine lit_L (size := 1) V [] ((nrm (vv (rowL L i j))).map cn) (by decide) (Reads.fact (d := V ((nrm (vv (rowL L i j))).map cn)) (by repeat (first | exact List.Mem.head _ | apply List.Mem.tail))) rfl fun l1 => ?_
          refine append_L 0 rfl hvo (Knw.fact (by repeat (first | exact List.Mem.head _ | apply List.Mem.tail))) (by simp only [List.length_map, List.length_cons, List.length_nil]; omega) (by simp only [List.length_map, List.length_cons, List.length_nil]; omega) fun w2 hw2 => ?_
          refine ar rfl (by first | exact ⟨by omega, by omega⟩ | (simp only [inK]; omega)) ?_
          refine again (i + 1, w2) ⟨by simp only; omega, hw2⟩ (by simp only; omega) (by repeat (first | exact trivial | refine ⟨rfl, ?_⟩ | refine ⟨i64_eq (by first | omega | (simp only; omega)), ?_⟩ | refine ⟨u64_eq (by first | omega | (simp only; omega)), ?_⟩)) ?_
          simp only [laidN_succ, List.map_append, List.map_cons, List.map_nil]
          exact Seals.sub (by repeat (first | exact Sub.nil _ | refine Sub.cons (by repeat (first | exact List.Mem.head _ | apply List.Mem.tail)) ?_))
    · have hip : i = n := by omega
      subst hip
      have hG := laidN_len L c i
      generalize laidN L c i = G at *
      have hGm : ∀ k, k ≤ i → ((G.take k).map (·.map cn)).length = k := fun k hk => by rw [List.length_map, List.length_take]; omega
      refine loop_rule (X := Nat × Value) (fun x => ([(7, x.2)], [], [(x.2, wd (G.take x.1))])) (fun x => x.1 ≤ i ∧ gtr (G.take x.1) = gtr G) (fun x => x.1) rfl ?_ ?_
      · refine again (i, vo) ⟨Nat.le_refl _, by simp only; rw [List.take_of_length_le (by omega)]⟩ trivial (by repeat (first | exact trivial | refine ⟨rfl, ?_⟩ | refine ⟨i64_eq (by first | omega | (simp only; omega)), ?_⟩ | refine ⟨u64_eq (by first | omega | (simp only; omega)), ?_⟩)) (Seals.trans (Seals.L 0 rfl hvo) ?_)
        simp only
        rw [List.take_of_length_le (show G.length ≤ i by omega)]
        exact Seals.sub (by repeat (first | exact Sub.nil _ | refine Sub.cons (by repeat (first | exact List.Mem.head _ | apply List.Mem.tail)) ?_))
      · rintro ⟨k, u⟩ ⟨g1, g2⟩
        simp only at g1 g2 ⊢
        have hm := hGm k g1
        refine len_fact (by repeat (first | exact List.Mem.head _ | apply List.Mem.tail)) fun _ => ?_
        rw [hm]
        refine cmp_split _ rfl (fun hk0 => ?_) (fun hk0 => ?_)
        · obtain ⟨j, rfl⟩ : ∃ j, k = j + 1 := ⟨k - 1, by omega⟩
          have hj : j < G.length := by omega
          have ht := take_snoc' [] hj
          have hget : ((G.take (j + 1)).map (·.map cn)).getD j [] = (G.getD j []).map cn := by
            rw [ht, List.map_append, List.getD_eq_getElem?_getD, List.getElem?_append_right (by rw [hGm j (by omega)]; exact Nat.le_refl _), hGm j (by omega), Nat.sub_self]; rfl
          refine len_fact (by repeat (first | exact List.Mem.head _ | apply List.Mem.tail)) fun _ => ?_
          rw [hm]
          refine ar rfl (by first | exact ⟨by omega, by omega⟩ | (simp only [inK]; omega)) ?_
          refine index_fact (by repeat (first | exact List.Mem.head _ | apply List.Mem.tail)) j (by omega) (by omega) fun b1 => ?_
          refine load_fact (d := V (((G.take (j + 1)).map (·.map cn)).getD j [])) (by repeat (first | exact List.Mem.head _ | apply List.Mem.tail)) (load_V _) fun y1 => ?_
          rw [hget]
          refine len_fact (by repeat (first | exact List.Mem.head _ | apply List.Mem.tail)) fun _ => ?_
          refine cmp_split _ rfl (fun hz => ?_) (fun hz => ?_)
          · have hnil : G.getD j [] = [] := List.eq_nil_of_length_eq_zero (by rw [List.length_map] at hz; omega)
            refine len_fact (by repeat (first | exact List.Mem.head _ | apply List.Mem.tail)) fun _ => ?_
            rw [hm]
            refine ar rfl (by first | exact ⟨by omega, by omega⟩ | (simp only [inK]; omega)) ?_
            refine slice_L (kl := .i64) (kh := .i64) (by repeat (first | exact List.Mem.head _ | apply List.Mem.tail)) 0 j _ _ (.inl ⟨rfl, rfl⟩) (.inr (by congr 2; omega)) (by omega) (by omega) fun u' => ?_
            refine again (j, u') ⟨by omega, by simp only; rw [← g2, ht, hnil, gtr_snoc_nil]⟩ (by simp only; omega) (by repeat (first | exact trivial | refine ⟨rfl, ?_⟩ | refine ⟨i64_eq (by first | omega | (simp only; omega)), ?_⟩ | refine ⟨u64_eq (by first | omega | (simp only; omega)), ?_⟩)) ?_
            simp only
            have e : ((G.take (j + 1)).map (·.map cn)).take j = (G.take j).map (·.map cn) := by rw [← List.map_take, List.take_take]; congr 2; omega
            rw [List.drop_zero, e]
            exact Seals.sub (by repeat (first | exact Sub.nil _ | refine Sub.cons (by repeat (first | exact List.Mem.head _ | apply List.Mem.tail)) ?_))
          · have hne : G.getD j [] ≠ [] := fun e => hz (by rw [e]; rfl)
            refine fin ⟨rfl, rfl⟩ ?_
            rw [← g2, ht, gtr_snoc_ne hne, ← ht]
            exact Seals.sub (by repeat (first | exact Sub.nil _ | refine Sub.cons (by repeat (first | exact List.Mem.head _ | apply List.Mem.tail)) ?_))
        · have hk : k = 0 := by omega
          subst hk
          refine fin ⟨rfl, rfl⟩ ?_
          rw [← g2]
          exact Seals.sub (by repeat (first | exact Sub.nil _ | refine Sub.cons (by repeat (first | exact List.Mem.head _ | apply List.Mem.tail)) ?_))
end Go.Proofs.Ytfkeohlpcjpkbaa

namespace Go.Proofs.Ytfkeohlpcjpkbaa
/-- An entry of a grid; 0 beyond the end. -/
def gv (G : List (List Int)) (i j : Nat) : Int := (G.getD i []).getD j 0
/-- Normal form. -/
def Gn (G : List (List Int)) : Prop := gtr G = G ∧ ∀ r, r ∈ G → Nm r
theorem gtr_gtr (G : List (List Int)) : gtr (gtr G) = gtr G := by
  induction G with
  | nil => rfl
  | cons r G ih =>
    simp only [gtr]
    split
    · split
      · rfl
      · rename_i h; simp [gtr, h]
    · rename_i s t h
      rw [h] at ih
      show (match gtr (s :: t) with | [] => _ | s :: t => _) = _
      rw [ih]
theorem gtr_getD (G : List (List Int)) (i : Nat) : (gtr G).getD i [] = G.getD i [] := by
  induction G generalizing i with
  | nil => rfl
  | cons r G ih =>
    simp only [gtr]
    split
    · rename_i h
      have hz : ∀ i, G.getD i [] = [] := fun i => by rw [← ih, h]; rfl
      split
      · rename_i hr
        cases i with
        | zero => simp [hr]
        | succ i => simpa using (hz i).symm
      · cases i with
        | zero => rfl
        | succ i => simpa using (hz i).symm
    · rename_i s t h
      cases i with
      | zero => rfl
      | succ i =>
        have := ih i
        rw [h] at this
        simpa using this
theorem gtr_mem {G : List (List Int)} {r : List Int} (h : r ∈ gtr G) : r ∈ G := by
  induction G with
  | nil => exact h
  | cons s G ih =>
    simp only [gtr] at h
    split at h
    · split at h
      · simp at h
      · simp only [List.mem_singleton] at h; exact List.mem_cons.2 (.inl h)
    · rename_i s' t hg
      rcases List.mem_cons.1 h with h | h
      · exact List.mem_cons.2 (.inl h)
      · exact List.mem_cons.2 (.inr (ih (by rw [hg]; exact h)))
/-- In normal form the last row is not empty. -/
theorem gtr_last {G : List (List Int)} (h : gtr G = G) : ∀ n, G.length = n + 1 → G.getD n [] ≠ [] := by
  intro n hn he
  have ht : G = G.take n ++ [G.getD n []] := by
    conv => lhs; rw [← List.take_length (l := G), hn]
    exact take_snoc' [] (by omega)
  rw [he] at ht
  have h1 : gtr G = gtr (G.take n) := by rw [ht, gtr_snoc_nil, List.take_append_of_le_length (by rw [List.length_take]; omega), List.take_take, Nat.min_self]
  have h2 : (gtr (G.take n)).length ≤ (G.take n).length := by
    have : ∀ H : List (List Int), (gtr H).length ≤ H.length := fun H => by
      induction H with
      | nil => exact Nat.le_refl _
      | cons r H ih =>
        simp only [gtr]
        split
        · split <;> simp
        · rename_i s t hg
          rw [hg] at ih
          simpa using ih
    exact this _
  rw [← h1, h, List.length_take] at h2
  omega
theorem Gn.ext {G H : List (List Int)} (hG : Gn G) (hH : Gn H) (h : ∀ i j, gv G i j = gv H i j) : G = H := by
  have rows : ∀ i, G.getD i [] = H.getD i [] := fun i => by
    have nm : ∀ {K : List (List Int)}, Gn K → Nm (K.getD i []) := fun {K} hK => by
      by_cases hi : i < K.length
      · exact hK.2 _ (by rw [List.getD_eq_getElem?_getD, List.getElem?_eq_getElem hi]; exact List.getElem_mem hi)
      · rw [List.getD_eq_getElem?_getD, List.getElem?_eq_none (by omega)]; exact rfl
    have e : nrm (G.getD i []) = nrm (H.getD i []) := nrm_ext fun j => h i j
    rwa [nm hG, nm hH] at e
  have len : G.length = H.length := by
    rcases Nat.lt_trichotomy G.length H.length with hl | hl | hl
    · obtain ⟨n, hn⟩ : ∃ n, H.length = n + 1 := ⟨H.length - 1, by omega⟩
      refine absurd ?_ (gtr_last hH.1 n hn)
      rw [← rows, List.getD_eq_getElem?_getD, List.getElem?_eq_none (by omega)]; rfl
    · exact hl
    · obtain ⟨n, hn⟩ : ∃ n, G.length = n + 1 := ⟨G.length - 1, by omega⟩
      refine absurd ?_ (gtr_last hG.1 n hn)
      rw [rows, List.getD_eq_getElem?_getD, List.getElem?_eq_none (by omega)]; rfl
  exact row_eq_of_getD [] len fun i _ => rows i
/-- The grid with those entries, as far as n rows and c columns go. -/
def gof (F : Nat → Nat → Int) (n c : Nat) : List (List Int) := gtr ((List.range n).map fun i => nrm (lst c (F i)))
theorem gof_gn (F : Nat → Nat → Int) (n c : Nat) : Gn (gof F n c) := ⟨gtr_gtr _, fun r hr => by
  obtain ⟨i, _, rfl⟩ := List.mem_map.1 (gtr_mem hr)
  exact nrm_nrm _⟩
theorem gof_gv (F : Nat → Nat → Int) (n c i j : Nat) : gv (gof F n c) i j = if i < n ∧ j < c then F i j else 0 := by
  unfold gv gof
  rw [gtr_getD]
  by_cases hi : i < n
  · have : ((List.range n).map fun i => nrm (lst c (F i))).getD i [] = nrm (lst c (F i)) := by simp [List.getD_eq_getElem?_getD, hi]
    rw [this, co_nrm]
    by_cases hj : j < c
    · rw [lst_get hj, if_pos ⟨hi, hj⟩]
    · rw [if_neg (fun h => hj h.2), List.getD_eq_getElem?_getD, List.getElem?_eq_none (by rw [lst_len]; omega)]; rfl
  · have : ((List.range n).map fun i => nrm (lst c (F i))).getD i [] = [] := by simp [List.getD_eq_getElem?_getD, show n ≤ i by omega]
    rw [this, if_neg (fun h => hi h.1)]; rfl
/-- What laid tells, by its entries. -/
theorem laid_gof (L : List Ent3) (n c : Nat) : gtr (laidN L c n) = gof (fun i j => jv (lk z0 L i j)) n c := by
  unfold laidN gof
  congr 2
  funext i
  congr 1
  refine row_eq_of_getD 0 (by rw [vv_len, rowL_len, lst_len]) fun j hj => ?_
  rw [vv_len, rowL_len] at hj
  rw [vv_get _ _ (by rw [rowL_len]; exact hj), rowL_get L hj, lst_get hj]
/-- The normal form of a grid. -/
def gn (G : List (List Int)) : List (List Int) := gtr (G.map nrm)
end Go.Proofs.Ytfkeohlpcjpkbaa

namespace Go.Proofs.Ytfkeohlpcjpkbaa
open Go.RowKit
theorem getD_end {α : Type} {l : List α} {z : α} {i : Nat} (h : l.length ≤ i) : l.getD i z = z := by
  rw [List.getD_eq_getElem?_getD, List.getElem?_eq_none h]; rfl
/-- How many rows, and columns, there are up to the last one that is not 0. -/
def gdxN (G : List (List Int)) : Nat → Nat
  | 0 => 0
  | n + 1 => if dg (G.getD n []) = 0 then gdxN G n else n + 1
def gdyN (G : List (List Int)) : Nat → Nat
  | 0 => 0
  | n + 1 => max (gdyN G n) (dg (G.getD n []))
def gdx (G : List (List Int)) : Nat := gdxN G G.length
def gdy (G : List (List Int)) : Nat := gdyN G G.length
theorem gdxN_le (G : List (List Int)) (n : Nat) : gdxN G n ≤ n := by
  induction n with
  | zero => exact Nat.le_refl _
  | succ n ih => simp only [gdxN]; split <;> omega
theorem gdyN_le {G : List (List Int)} {c : Nat} (hc : ∀ i, dg (G.getD i []) ≤ c) (n : Nat) : gdyN G n ≤ c := by
  induction n with
  | zero => exact Nat.zero_le _
  | succ n ih => have := hc n; simp only [gdyN]; omega
theorem gdxN_zero {G : List (List Int)} {n i : Nat} (h : gdxN G n ≤ i) (hi : i < n) : dg (G.getD i []) = 0 := by
  induction n with
  | zero => omega
  | succ n ih =>
    simp only [gdxN] at h
    split at h
    · rename_i hz
      by_cases e : i = n
      · subst e; exact hz
      · exact ih h (by omega)
    · omega
theorem gdyN_zero {G : List (List Int)} {n i : Nat} (hi : i < n) : dg (G.getD i []) ≤ gdyN G n := by
  induction n with
  | zero => omega
  | succ n ih =>
    simp only [gdyN]
    by_cases e : i = n
    · subst e; omega
    · have := ih (by omega); omega
theorem gv_zero {G : List (List Int)} {i j : Nat} (h : ¬ (i < gdx G ∧ j < gdy G)) : gv G i j = 0 := by
  unfold gv
  by_cases hi : i < G.length
  · by_cases hx : i < gdx G
    · exact dg_le.1 (gdyN_zero (G := G) hi) j (by unfold gdy at h; omega)
    · exact dg_le.1 (Nat.le_of_eq (gdxN_zero (Nat.le_of_not_lt hx) hi)) j (Nat.zero_le _)
  · rw [getD_end (Nat.le_of_not_lt hi)]; rfl
theorem lk_of_mem {L : List Ent3} (hn : Nd L) {i j : Nat} {a : Bool × List Nat} (h : (i, j, a) ∈ L) : lk z0 L i j = a := by
  rcases lk_mem (L := L) (i := i) (j := j) with hz | ⟨t, ht, h1, h2, h3⟩
  · unfold lk at hz
    cases hf : L.find? fun t => t.1 == i && t.2.1 == j with
    | none => have := List.find?_eq_none.1 hf _ h; simp at this
    | some t =>
      have h1 := List.find?_some hf
      simp only [Bool.and_eq_true, beq_iff_eq] at h1
      unfold lk
      rw [hf]
      have ht := List.mem_of_find?_eq_some hf
      have := nd_eq hn ht h h1.1 h1.2
      rw [this]; rfl
  · rw [h3, nd_eq hn ht h h1 h2]
where
  nd_eq {L : List Ent3} (hn : Nd L) {t : Ent3} {i j : Nat} {a : Bool × List Nat} (ht : t ∈ L) (h : (i, j, a) ∈ L) (h1 : t.1 = i) (h2 : t.2.1 = j) : t = (i, j, a) := by
    obtain ⟨m, hm, rfl⟩ := List.mem_iff_getElem.1 ht
    obtain ⟨n, hn', e⟩ := List.mem_iff_getElem.1 h
    have := hn.one (z := z0) hm hn' (by
      unfold mapK spk
      rw [List.getD_eq_getElem?_getD, List.getElem?_eq_getElem hm, List.getD_eq_getElem?_getD, List.getElem?_eq_getElem hn']
      simp only [Option.getD_some, h1, h2, e])
    subst this
    exact e
theorem mem_tr {i : Nat} {r : Row} {n j : Nat} (hj : j < n) (h0 : jv (r.getD j z0) ≠ 0) : (i, j, r.getD j z0) ∈ tr i r n := by
  induction n with
  | zero => omega
  | succ n ih =>
    simp only [tr, List.mem_append]
    by_cases e : j = n
    · subst e; exact .inr (by rw [if_neg h0]; exact List.mem_singleton.2 rfl)
    · exact .inl (ih (by omega))
theorem mem_tg {g : List Row} {n i j : Nat} (hi : i < n) (hj : j < (g.getD i []).length) (h0 : jv ((g.getD i []).getD j z0) ≠ 0) : (i, j, (g.getD i []).getD j z0) ∈ tg g n := by
  induction n with
  | zero => omega
  | succ n ih =>
    simp only [tg, List.mem_append]
    by_cases e : i = n
    · subst e; exact .inr (mem_tr hj h0)
    · exact .inl (ih (by omega))
theorem gv_ww (g : List Row) (i j : Nat) : gv (ww g) i j = jv ((g.getD i []).getD j z0) := by
  unfold gv
  rw [ww_get]
  by_cases h : j < (g.getD i []).length
  · exact vv_get _ _ h
  · rw [getD_end (by rw [vv_len]; omega), getD_end (l := g.getD i []) (by omega)]; rfl
theorem lk_tg (g : List Row) (i j : Nat) : jv (lk z0 (tg g g.length) i j) = gv (ww g) i j := by
  rw [gv_ww]
  by_cases h0 : jv ((g.getD i []).getD j z0) = 0
  · rw [h0]
    rcases lk_mem (L := tg g g.length) (i := i) (j := j) with h | ⟨t, ht, rfl, rfl, h⟩
    · rw [h]; rfl
    · obtain ⟨_, _, h1, h2⟩ := tg_mem ht
      rw [h1] at h2
      exact absurd h0 h2
  · have hj : j < (g.getD i []).length := Nat.lt_of_not_le fun h => h0 (by rw [getD_end h]; rfl)
    have hi : i < g.length := Nat.lt_of_not_le fun h => by
      rw [getD_end h] at hj
      exact absurd hj (Nat.not_lt_zero _)
    rw [lk_of_mem (tg_nd _ _) (mem_tg hi hj h0)]
theorem gDegrees_meets (v : Value) (g : List Row) (hk : ∀ r, r ∈ g → Fit 137438953472 r) (lg : g.length ≤ 1048576) (hl : ∀ r, r ∈ g → r.length ≤ 1048576) :
    Meets Try.prog 18 [v] [(v, W g)] (fun r os fs => os = [] ∧ fs = [] ∧ r = .tuple #[.int .i64 ((gdx (ww g) : Nat) - 1 : Int), .int .i64 ((gdy (ww g) : Nat) - 1 : Int)]) := by
  have hwl : (ww g).length = g.length := by simp [ww]
  have hfin : gdx (ww g) = gdxN (ww g) g.length ∧ gdy (ww g) = gdyN (ww g) g.length := by unfold gdx gdy; rw [hwl]; exact ⟨rfl, rfl⟩
  have hdb : ∀ i, dg ((ww g).getD i []) ≤ 1048576 := fun i => by
    rw [ww_get]
    refine Nat.le_trans (dg_le_len _) ?_
    rw [vv_len]
    by_cases h : i < g.length
    · exact hl _ (by rw [List.getD_eq_getElem?_getD, List.getElem?_eq_getElem h]; exact List.getElem_mem h)
    · rw [getD_end (Nat.le_of_not_lt h)]; exact Nat.zero_le _
  rw [hfin.1, hfin.2]
  refine meets_of_vc Try.func18 (by kernel_rfl) rfl (by kernel_rfl) (Nat.le_of_ble_eq_true rfl) ?_
  refine len_fact (by repeat (first | exact List.Mem.head _ | apply List.Mem.tail)) fun _ => ?_
  refine loop_rule (X := Nat) (fun i => ([(4, .int .i64 ((gdxN (ww g) i : Nat) - 1 : Int)), (5, .int .i64 ((gdyN (ww g) i : Nat) - 1 : Int)), (9, v), (10, .int .i64 (g.length : Nat)), (11, .int .i64 (i : Nat))], [], [(v, W g)])) (fun i => i ≤ g.length) (fun i => g.length - i) rfl ?_ ?_
  · exact again 0 (Nat.zero_le _) trivial (by repeat (first | exact trivial | refine ⟨rfl, ?_⟩ | refine ⟨i64_eq (by first | omega | (simp only; omega)), ?_⟩ | refine ⟨u64_eq (by first | omega | (simp only; omega)), ?_⟩)) (Seals.sub (by repeat (first | exact Sub.nil _ | refine Sub.cons (by repeat (first | exact List.Mem.head _ | apply List.Mem.tail)) ?_)))
  · rintro i hi
    refine cmp_split _ rfl (fun hlt => ?_) (fun hlt => ?_)
    · have hin : i < g.length := by omega
      have hrm : g.getD i [] ∈ g := by rw [List.getD_eq_getElem?_getD, List.getElem?_eq_getElem hin]; exact List.getElem_mem hin
      have hd := fun u => pDegree_meets u (g.getD i []) (hk _ hrm)
      have hx1 : gdxN (ww g) (i + 1) = if dg ((ww g).getD i []) = 0 then gdxN (ww g) i else i + 1 := rfl
      have hy1 : gdyN (ww g) (i + 1) = max (gdyN (ww g) i) (dg ((ww g).getD i [])) := rfl
      rw [ww_get] at hx1 hy1
      simp only [deg_dg] at hd
      have hb := hdb i
      rw [ww_get] at hb
      have hby := gdyN_le hdb i
      have hbx := gdxN_le (ww g) i
      generalize dg (vv (g.getD i [])) = D at *
      generalize gdxN (ww g) i = A at *
      generalize gdyN (ww g) i = B at *
      refine index_fact (by repeat (first | exact List.Mem.head _ | apply List.Mem.tail)) i rfl hin fun b1 => ?_
      refine load_fact (d := V (g.getD i [])) (by repeat (first | exact List.Mem.head _ | apply List.Mem.tail)) (load_V _) fun u => ?_
      refine call_fn (hd u) (Seals.refl _ _) (by repeat (first | exact Sub.nil _ | refine Sub.cons (by repeat (first | exact List.Mem.head _ | apply List.Mem.tail)) ?_)) ?_
      rintro _ _ _ ⟨rfl, rfl, rfl⟩
      refine cmp_split _ rfl (fun h0 => ?_) (fun h0 => ?_)
      · refine max2_rule ?_
        refine ar rfl (by first | exact ⟨by omega, by omega⟩ | (simp only [inK]; omega)) ?_
        rw [if_neg (by omega)] at hx1
        exact again (i + 1) (by omega) (by simp only; omega) ⟨i64_eq (by rw [hx1]; omega), i64_eq (by rw [hy1]; omega), rfl, rfl, i64_eq (by omega), trivial⟩ (Seals.sub (by repeat (first | exact Sub.nil _ | refine Sub.cons (by repeat (first | exact List.Mem.head _ | apply List.Mem.tail)) ?_)))
      · refine ar rfl (by first | exact ⟨by omega, by omega⟩ | (simp only [inK]; omega)) ?_
        rw [if_pos (by omega)] at hx1
        exact again (i + 1) (by omega) (by simp only; omega) ⟨i64_eq (by rw [hx1]), i64_eq (by rw [hy1]; omega), rfl, rfl, i64_eq (by omega), trivial⟩ (Seals.sub (by repeat (first | exact Sub.nil _ | refine Sub.cons (by repeat (first | exact List.Mem.head _ | apply List.Mem.tail)) ?_)))
    · have hip : i = g.length := by omega
      subst hip
      exact fin ⟨rfl, rfl, rfl⟩ (Seals.nil _ _)
end Go.Proofs.Ytfkeohlpcjpkbaa

namespace Go.Proofs.Ytfkeohlpcjpkbaa
open Go.RowKit
/-- A grid of at most so many rows and columns, and limbs. -/
structure Gf (k : Nat) (g : List Row) : Prop where
  len : g.length ≤ 1048576
  row : ∀ r, r ∈ g → r.length ≤ 1048576 ∧ Fit k r
theorem Gf.get {k : Nat} {g : List Row} (h : Gf k g) (i : Nat) : (g.getD i []).length ≤ 1048576 ∧ Fit k (g.getD i []) := by
  by_cases hi : i < g.length
  · exact h.row _ (by rw [List.getD_eq_getElem?_getD, List.getElem?_eq_getElem hi]; exact List.getElem_mem hi)
  · rw [getD_end (Nat.le_of_not_lt hi)]; exact ⟨Nat.zero_le _, fun x hx => by cases hx⟩
theorem Gf.in64 {k : Nat} {g : List Row} (h : Gf k g) (n : Nat) (hn : n ≤ 1048576) : In64 (tg g n) := fun t ht => by
  obtain ⟨h1, h2, _⟩ := tg_mem ht
  have := (h.get t.1).1
  omega
theorem Gf.fit {k : Nat} {g : List Row} (h : Gf k g) (n : Nat) : ∀ t, t ∈ tg g n → Lim t.2.2.2 ∧ t.2.2.2.length ≤ k := fun t ht => by
  obtain ⟨_, _, h3, _⟩ := tg_mem ht
  rw [h3]
  exact (h.get t.1).2.get _
theorem Gf.dx {k : Nat} {g : List Row} (h : Gf k g) : gdx (ww g) ≤ 1048576 := by
  have h1 := gdxN_le (ww g) (ww g).length
  have h2 := h.len
  rw [ww_len] at h1
  unfold gdx
  rw [ww_len]
  omega
theorem Gf.dy {k : Nat} {g : List Row} (h : Gf k g) : gdy (ww g) ≤ 1048576 := gdyN_le (fun i => by
  rw [ww_get]
  exact Nat.le_trans (dg_le_len _) (by rw [vv_len]; exact (h.get i).1)) _
-- Turn.
def sw (t : Ent3) : Ent3 := (t.2.1, t.1, t.2.2)
theorem Nd.sw {L : List Ent3} (h : Nd L) : Nd (L.map Go.Proofs.Ytfkeohlpcjpkbaa.sw) := List.pairwise_map.2 (h.imp fun {a b} hab e => hab ⟨e.2, e.1⟩)
theorem Nd.perm {L L' : List Ent3} (h : Nd L) (p : L.Perm L') : Nd L' := (p.pairwise_iff fun {a b} hab e => hab ⟨e.1.symm, e.2.symm⟩).1 h
theorem lk_perm {L L' : List Ent3} (h : Nd L) (p : L.Perm L') (i j : Nat) : lk z0 L i j = lk z0 L' i j := by
  rcases lk_mem (L := L) (i := i) (j := j) with h1 | ⟨t, ht, rfl, rfl, h1⟩
  · rcases lk_mem (L := L') (i := i) (j := j) with h2 | ⟨t, ht, rfl, rfl, h2⟩
    · rw [h1, h2]
    · rw [h2]; exact lk_of_mem h (p.mem_iff.2 ht)
  · rw [h1]; exact (lk_of_mem (h.perm p) (p.mem_iff.1 ht)).symm
theorem lk_sw {L : List Ent3} (h : Nd L) (i j : Nat) : lk z0 (L.map sw) i j = lk z0 L j i := by
  rcases lk_mem (L := L) (i := j) (j := i) with h1 | ⟨t, ht, rfl, rfl, h1⟩
  · rcases lk_mem (L := L.map sw) (i := i) (j := j) with h2 | ⟨t, ht, rfl, rfl, h2⟩
    · rw [h1, h2]
    · obtain ⟨s, hs, rfl⟩ := List.mem_map.1 ht
      rw [h2]; exact (lk_of_mem h hs).symm
  · rw [h1]; exact lk_of_mem h.sw (List.mem_map.2 ⟨t, ht, rfl⟩)
theorem erase_perm {α : Type} : ∀ (l : List α) (n : Nat) (h : n < l.length), l.Perm (l[n] :: l.eraseIdx n)
  | _ :: _, 0, _ => List.Perm.refl _
  | a :: l, n + 1, h => ((erase_perm l n (by simpa using h)).cons a).trans (List.Perm.swap _ _ _)
theorem perm_step {L D T : List Ent3} {n : Nat} {t : Ent3} (hg : L[n]? = some t) (hp : (L ++ D).Perm T) : (L.eraseIdx n ++ (D ++ [t])).Perm T := by
  obtain ⟨hn, rfl⟩ := List.getElem?_eq_some_iff.1 hg
  have h1 : L.Perm (L[n] :: L.eraseIdx n) := erase_perm L n hn
  refine List.Perm.trans ?_ hp
  rw [← List.append_assoc]
  refine List.perm_append_comm.trans ?_
  exact (h1.append_right D).symm
theorem gTurn_meets (v : Value) (g : List Row) (h : Gf 137438953472 g) :
    Meets Try.prog 28 [v] [(v, W g)] (fun r os fs => os = [] ∧ fs = [(r, wd (gof (fun i j => gv (ww g) j i) (gdy (ww g)) (gdx (ww g))))]) := by
  have h1 := gDegrees_meets v g (fun r hr => (h.row r hr).2) h.len (fun r hr => (h.row r hr).1)
  have h2 := gterms_meets v g h.row h.len
  have hnd := tg_nd g g.length
  have hin := h.in64 _ h.len
  have hft := h.fit g.length
  have hlk := lk_tg g
  have hlen : (tg g g.length).length ≤ 1048576 * 1048576 := Nat.le_trans (tg_len (fun r hr => (h.row r hr).1) _) (Nat.mul_le_mul_right _ h.len)
  have hdx := h.dx
  have hdy := h.dy
  generalize tg g g.length = T at *
  refine meets_of_vc Try.func28 (by kernel_rfl) rfl (by kernel_rfl) (Nat.le_of_ble_eq_true rfl) ?_
  refine make_L J z0 fun m hm => ?_
  refine call_fn h2 (Seals.refl _ _) (by repeat (first | exact Sub.nil _ | refine Sub.cons (by repeat (first | exact List.Mem.head _ | apply List.Mem.tail)) ?_)) ?_
  rintro tm _ _ ⟨rfl, _, rfl⟩
  refine range_L (by repeat (first | exact List.Mem.head _ | apply List.Mem.tail)) fun p hp => ?_
  refine loop_rule (X := List Ent3 × List Ent3 × Value) (fun x => ([(0, v), (3, m), (11, p)], [ownWD J z0 p x.1 x.2.2, ownMD J z0 m (x.2.1.map sw)], [(tm, MD J z0 T), (v, W g)])) (fun x => (x.1 ++ x.2.1).Perm T) (fun x => x.1.length) rfl ?_ ?_
  · exact again (T, [], .bool false) (by simp) trivial (by repeat (first | exact trivial | refine ⟨rfl, ?_⟩ | refine ⟨i64_eq (by first | omega | (simp only; omega)), ?_⟩ | refine ⟨u64_eq (by first | omega | (simp only; omega)), ?_⟩)) (Seals.sub (by repeat (first | exact Sub.nil _ | refine Sub.cons (by repeat (first | exact List.Mem.head _ | apply List.Mem.tail)) ?_)))
  · rintro ⟨L, D, c⟩ hperm
    simp only at hperm ⊢
    have hndD : Nd (L ++ D) := hnd.perm hperm.symm
    have hlD : (L ++ D).length ≤ 1048576 * 1048576 := by rw [hperm.length_eq]; exact hlen
    rw [List.length_append] at hlD
    have hndM : Nd (D.map sw) := (List.pairwise_append.1 hndD).2.1 |> Nd.sw
    have hinM : In64 (D.map sw) := fun t ht => by
      obtain ⟨s, hs, rfl⟩ := List.mem_map.1 ht
      have := hin s (hperm.mem_iff.1 (List.mem_append.2 (.inr hs)))
      exact ⟨this.2, this.1⟩
    refine next_L 0 rfl hp (fun e => ?_) fun n i j a x hn hg => ?_
    · subst e
      rw [List.nil_append] at hperm
      have h3 := fun u => glaid_meets u (D.map sw) (gdy (ww g)) (gdx (ww g)) hinM hndM (fun t ht => by
        obtain ⟨s, hs, rfl⟩ := List.mem_map.1 ht
        exact hft s (hperm.mem_iff.1 hs)) hdy hdx
      have e : gtr (laidN (D.map sw) (gdx (ww g)) (gdy (ww g))) = gof (fun i j => gv (ww g) j i) (gdy (ww g)) (gdx (ww g)) := by
        rw [laid_gof]
        congr 1
        funext i j
        rw [lk_sw (hnd.perm hperm.symm), lk_perm (hnd.perm hperm.symm) hperm, hlk]
      rw [e] at h3
      refine call_fn h1 (Seals.refl _ _) (by repeat (first | exact Sub.nil _ | refine Sub.cons (by repeat (first | exact List.Mem.head _ | apply List.Mem.tail)) ?_)) ?_
      rintro _ _ _ ⟨rfl, rfl, rfl⟩
      refine call_fn (h3 m) (Seals.trans (Seals.mapL 1 rfl hm) (Seals.drop 0 _ _)) (by repeat (first | exact Sub.nil _ | refine Sub.cons (by repeat (first | exact List.Mem.head _ | apply List.Mem.tail)) ?_)) ?_
      rintro r _ _ ⟨rfl, rfl⟩
      exact fin ⟨rfl, rfl⟩ (Seals.sub (by repeat (first | exact Sub.nil _ | refine Sub.cons (by repeat (first | exact List.Mem.head _ | apply List.Mem.tail)) ?_)))
    · have htT : (i, j, a) ∈ T := hperm.mem_iff.1 (List.mem_append.2 (.inl (List.mem_of_getElem? hg)))
      obtain ⟨hi, hj⟩ := hin _ htT
      simp only at hi hj
      have hnew := mput_new (L := D.map sw) (i := j) (j := i) (fun t ht e => by
        obtain ⟨s, hs, rfl⟩ := List.mem_map.1 ht
        exact (List.pairwise_append.1 hndD).2.2 (i, j, a) (List.mem_of_getElem? hg) s hs ⟨e.2.symm, e.1.symm⟩) a
      refine walk_entry 0 rfl hp ?_
      refine alloc_rule (d := spotD 0 0) fun b1 hb1 => ?_
      refine alloc_rule (d := I false []) fun b2 hb2 => ?_
      refine store_box (d := spotD (i : Nat) (j : Nat)) 1 rfl hb1 rfl (by kernel_rfl) ?_ ?_; exact Reads.spot _ _
      refine store_box (d := J a) 0 rfl hb2 rfl (by kernel_rfl) ?_ ?_; exact Reads.fact (by repeat (first | exact List.Mem.head _ | apply List.Mem.tail))
      refine field_box 1 rfl hb1 ?_
      refine load_box_field_one (u := .int .i64 (j : Nat)) 1 rfl (Part.right (Part.refl _)) ?_
      refine field_box 1 rfl hb1 ?_
      refine load_box_field_one (u := .int .i64 (i : Nat)) 1 rfl (Part.left (Part.refl _)) ?_
      refine build_spot ?_
      refine load_box (d := J a) 0 rfl hb2 rfl (load_J _) fun y1 => ?_
      refine put_L a 3 rfl hm hinM hndM hj hi (by rw [List.length_map]; unfold maxLen; omega) (Knw.fact (by repeat (first | exact List.Mem.head _ | apply List.Mem.tail))) ?_
      rw [hnew]
      refine again (L.eraseIdx n, D ++ [(i, j, a)], .tuple #[spot (i : Nat) (j : Nat), x]) (perm_step hg hperm) (by simp only [List.length_eraseIdx, if_pos hn]; omega) (by repeat (first | exact trivial | refine ⟨rfl, ?_⟩ | refine ⟨i64_eq (by first | omega | (simp only; omega)), ?_⟩ | refine ⟨u64_eq (by first | omega | (simp only; omega)), ?_⟩)) ?_
      simp only [List.map_append, List.map_cons, List.map_nil]
      exact Seals.trans (Seals.drop 0 _ _) (Seals.trans (Seals.drop 0 _ _) (Seals.sub (by repeat (first | exact Sub.nil _ | refine Sub.cons (by repeat (first | exact List.Mem.head _ | apply List.Mem.tail)) ?_))))
end Go.Proofs.Ytfkeohlpcjpkbaa

namespace Go.Proofs.Ytfkeohlpcjpkbaa
open Go.RowKit
def zrow (f : List Int → List Int → List Int) (G H : List (List Int)) (n : Nat) : List (List Int) := (List.range n).map fun i => f (G.getD i []) (H.getD i [])
theorem zrow_len (f : List Int → List Int → List Int) (G H : List (List Int)) (n : Nat) : (zrow f G H n).length = n := by simp [zrow]
def gadd (G H : List (List Int)) : List (List Int) := gn (zrow padd G H (max G.length H.length))
def gsub (G H : List (List Int)) : List (List Int) := gn (zrow psub G H (max G.length H.length))
end Go.Proofs.Ytfkeohlpcjpkbaa

namespace Go.Proofs.Ytfkeohlpcjpkbaa
open Go.RowKit
/-- A grid at that y: a polynomial of x; at that x: one of y. -/
def gpy (G : List (List Int)) (y : Int) : List Int := nrm (G.map fun r => pev r y)
theorem put_s (F : Nat → Int) (i y : Nat) : upd (fun y => zd (if y < i then F y else 0)) i (zd (F i)) y = zd (if y < i + 1 then F y else 0) :=
  upd_zd (G := fun y => if y < i then F y else 0) (H := fun y => if y < i + 1 then F y else 0) (by rw [if_pos (by omega)]) (fun y hy => by
    by_cases h : y < i
    · rw [if_pos h, if_pos (by omega)]
    · rw [if_neg h, if_neg (by omega)]) y
theorem gPutYJ (v w : Value) (g : List Row) (y : Bool × List Nat) (k a : Nat) (hg : Gf k g) (hy : Lim y.2) (ha : y.2.length ≤ a) (hk : k + 1048577 * (a + 1) ≤ 137438953472) :
    Meets Try.prog 27 [v, w] [(v, W g), (w, J y)] (fun r os fs => os = [] ∧ fs = [(r, vd (gpy (ww g) (jv y)))]) := by
  have hsy : sz (jv y) a := sz_jv hy ha
  have hkk : ∀ n, n ≤ 1048576 → k + (n + 1) * (a + 1) ≤ k + 1048577 * (a + 1) := fun n hn => Nat.add_le_add_left (Nat.mul_le_mul_right _ (by omega)) _
  have hval := fun i u u' => pValueJ u u' (g.getD i []) y k a (hg.get i).2 hy ha (Nat.le_trans (hkk _ (hg.get i).1) hk) (Nat.le_trans (hg.get i).1 (by decide))
  have hlen := hg.len
  have hszF : szR (k + 1048577 * (a + 1)) (lst g.length fun i => pev ((ww g).getD i []) (jv y)) := szR.lst fun i _ => by
    have h1 := ev_sz (l := (ww g).getD i []) (x := jv y) (k := k) (a := a) (by rw [ww_get]; exact (hg.get i).2.szR) hsy
    refine h1.mono ?_
    have h2 := hkk _ (hg.get i).1
    rw [ww_get, vv_len]
    have : (g.getD i []).length * (a + 1) ≤ ((g.getD i []).length + 1) * (a + 1) := Nat.mul_le_mul_right _ (by omega)
    omega
  have hfin : lst g.length (fun i => pev ((ww g).getD i []) (jv y)) = (ww g).map fun r => pev r (jv y) := by
    refine row_eq_of_getD 0 (by rw [lst_len, List.length_map, ww_len]) fun i hi => ?_
    rw [lst_len] at hi
    rw [lst_get hi]
    simp [List.getD_eq_getElem?_getD, ww_len, hi]
  unfold gpy
  rw [← hfin]
  simp only [← ww_get] at hval
  generalize hF : (fun i => pev ((ww g).getD i []) (jv y)) = F at *
  have hval' : ∀ i u u', Meets Try.prog 25 [u, u'] [(u, V (g.getD i [])), (u', J y)] (fun r os fs => os = [] ∧ fs = [(r, zd (F i))]) := fun i u u' => by rw [← hF]; exact hval i u u'
  refine meets_of_vc Try.func27 (by kernel_rfl) rfl (by kernel_rfl) (Nat.le_of_ble_eq_true rfl) ?_
  refine box_fact (Reads.fact (d := J y) (by repeat (first | exact List.Mem.head _ | apply List.Mem.tail))) fun q => ?_
  refine len_fact (by repeat (first | exact List.Mem.head _ | apply List.Mem.tail)) fun _ => ?_
  refine make_rule (t := 28) (d := I false []) g.length rfl rfl (by omega) (by omega) fun u hu => ?_
  refine len_fact (by repeat (first | exact List.Mem.head _ | apply List.Mem.tail)) fun _ => ?_
  refine loop_rule (X := Nat) (fun i => ([(0, v), (3, q), (5, u), (11, .int .i64 (g.length : Nat)), (12, .int .i64 (i : Nat))], [own1 u 2 g.length (fun y => zd (if y < i then F y else 0))], [(v, W g), (q, .ptr (J y))])) (fun i => i ≤ g.length) (fun i => g.length - i) rfl ?_ ?_
  · exact again 0 (Nat.zero_le _) trivial (by repeat (first | exact trivial | refine ⟨rfl, ?_⟩ | refine ⟨i64_eq (by first | omega | (simp only; omega)), ?_⟩ | refine ⟨u64_eq (by first | omega | (simp only; omega)), ?_⟩)) (Seals.trans (Seals.own_cong (os := [_]) 0 (fun y => zd (if y < 0 then F y else 0)) rfl rfl fun y _ => by rw [if_neg (Nat.not_lt_zero _)]; show I false [] = I _ (lims 0); rw [lims_zero]; rfl) (Seals.sub (by repeat (first | exact Sub.nil _ | refine Sub.cons (by repeat (first | exact List.Mem.head _ | apply List.Mem.tail)) ?_))))
  · rintro i hi
    refine cmp_split _ rfl (fun hlt => ?_) (fun hlt => ?_)
    · have hin : i < g.length := by omega
      refine draw_rule [0, 1, 2, 3, 4, 5, 6, 7, 8, 9] [0, 1, 2, 3, 4, 5, 6, 7, 8, 9] (by kernel_rfl) (by kernel_rfl) ?_
      refine index_fact (by repeat (first | exact List.Mem.head _ | apply List.Mem.tail)) i rfl hin fun b1 => ?_
      refine load_fact (d := V (g.getD i [])) (by repeat (first | exact List.Mem.head _ | apply List.Mem.tail)) (load_V _) fun y1 => ?_
      refine load_fact (d := J y) (by repeat (first | exact List.Mem.head _ | apply List.Mem.tail)) (load_J _) fun y2 => ?_
      refine call_fn (hval' i y1 y2) (Seals.refl _ _) (by repeat (first | exact Sub.nil _ | refine Sub.cons (by repeat (first | exact List.Mem.head _ | apply List.Mem.tail)) ?_)) ?_
      rintro y3 _ _ ⟨rfl, rfl⟩
      refine index_elem 0 rfl hu i rfl hin ?_
      refine StoreK.post (store_elem (d := zd (F i)) 0 rfl i hin rfl (by kernel_rfl) (Reads.fact (by repeat (first | exact List.Mem.head _ | apply List.Mem.tail))) ⟨_, _, Seals.own_cong (os := [_]) 0 (fun y => zd (if y < i + 1 then F y else 0)) rfl rfl (fun y _ => put_s F i y), ?_⟩)
      refine ar rfl (by first | exact ⟨by omega, by omega⟩ | (simp only [inK]; omega)) ?_
      exact again (i + 1) (by omega) (by simp only; omega) (by repeat (first | exact trivial | refine ⟨rfl, ?_⟩ | refine ⟨i64_eq (by first | omega | (simp only; omega)), ?_⟩ | refine ⟨u64_eq (by first | omega | (simp only; omega)), ?_⟩)) (Seals.sub (by repeat (first | exact Sub.nil _ | refine Sub.cons (by repeat (first | exact List.Mem.head _ | apply List.Mem.tail)) ?_)))
    · have hip : i = g.length := by omega
      subst hip
      have hn := pNormT u (lst g.length F) (hszF.mono hk) (by rw [lst_len]; omega)
      refine call_fn hn (Seals.told (g := F) hu fun y hy => by rw [if_pos hy]) (by repeat (first | exact Sub.nil _ | refine Sub.cons (by repeat (first | exact List.Mem.head _ | apply List.Mem.tail)) ?_)) ?_
      rintro r _ _ ⟨rfl, rfl⟩
      exact fin ⟨rfl, rfl⟩ (Seals.sub (by repeat (first | exact Sub.nil _ | refine Sub.cons (by repeat (first | exact List.Mem.head _ | apply List.Mem.tail)) ?_)))
/-- The grid with x and y changed about. -/
def gtu (G : List (List Int)) : List (List Int) := gof (fun i j => gv G j i) (gdy G) (gdx G)
theorem gtu_gn (G : List (List Int)) : Gn (gtu G) := gof_gn _ _ _
theorem gtu_gv (G : List (List Int)) (i j : Nat) : gv (gtu G) i j = gv G j i := by
  rw [gtu, gof_gv]
  split
  · rfl
  · rename_i h; exact (gv_zero fun h' => h (by omega)).symm
theorem gof_gf {F : Nat → Nat → Int} {n c k : Nat} (hF : ∀ i j, sz (F i j) k) (hn : n ≤ 1048576) (hc : c ≤ 1048576) : Gf k ((gof F n c).map (·.map cn)) := by
  have hlen : ∀ H : List (List Int), (gtr H).length ≤ H.length := fun H => by
    induction H with
    | nil => exact Nat.le_refl _
    | cons r H ih =>
      simp only [gtr]
      split
      · split <;> simp
      · rename_i s t hg
        rw [hg] at ih
        simpa using ih
  refine ⟨?_, fun r hr => ?_⟩
  · rw [List.length_map]
    refine Nat.le_trans (hlen _) ?_
    rw [List.length_map, List.length_range]
    exact hn
  · obtain ⟨l, hl, rfl⟩ := List.mem_map.1 hr
    obtain ⟨i, _, rfl⟩ := List.mem_map.1 (gtr_mem hl)
    refine ⟨?_, (szR.nrm (szR.lst fun j _ => hF i j)).fit⟩
    rw [List.length_map]
    exact Nat.le_trans (nrm_length_le _) (by rw [lst_len]; exact hc)
theorem Gf.gv {k : Nat} {g : List Row} (h : Gf k g) (i j : Nat) : sz (Go.Proofs.Ytfkeohlpcjpkbaa.gv (ww g) i j) k := by
  unfold Go.Proofs.Ytfkeohlpcjpkbaa.gv
  rw [ww_get]
  exact (h.get i).2.szR.get j
theorem Gf.turn {k : Nat} {g : List Row} (h : Gf k g) : Gf k ((gtu (ww g)).map (·.map cn)) := gof_gf (fun i j => h.gv j i) h.dy h.dx
theorem gPutXJ (v w : Value) (g : List Row) (x : Bool × List Nat) (k a : Nat) (hg : Gf k g) (hx : Lim x.2) (ha : x.2.length ≤ a) (hk : k + 1048577 * (a + 1) ≤ 137438953472) :
    Meets Try.prog 26 [v, w] [(v, W g), (w, J x)] (fun r os fs => os = [] ∧ fs = [(r, vd (gpy (gtu (ww g)) (jv x)))]) := by
  have h1 := gTurn_meets v g ⟨hg.len, fun r hr => ⟨(hg.row r hr).1, (hg.row r hr).2.mono (by omega)⟩⟩
  have h2 := fun u u' => gPutYJ u u' ((gtu (ww g)).map (·.map cn)) x k a hg.turn hx ha hk
  simp only [ww_cn] at h2
  refine meets_of_vc Try.func26 (by kernel_rfl) rfl (by kernel_rfl) (Nat.le_of_ble_eq_true rfl) ?_
  refine box_fact (Reads.fact (d := J x) (by repeat (first | exact List.Mem.head _ | apply List.Mem.tail))) fun q => ?_
  refine draw_rule [0, 2, 1, 3, 4] [0, 1, 2, 3, 4] (by kernel_rfl) (by kernel_rfl) ?_
  refine load_fact (d := J x) (by repeat (first | exact List.Mem.head _ | apply List.Mem.tail)) (load_J _) fun y1 => ?_
  refine call_fn h1 (Seals.refl _ _) (by repeat (first | exact Sub.nil _ | refine Sub.cons (by repeat (first | exact List.Mem.head _ | apply List.Mem.tail)) ?_)) ?_
  rintro y2 _ _ ⟨rfl, rfl⟩
  refine call_fn (h2 y2 y1) (Seals.refl _ _) (by repeat (first | exact Sub.nil _ | refine Sub.cons (by repeat (first | exact List.Mem.head _ | apply List.Mem.tail)) ?_)) ?_
  rintro y3 _ _ ⟨rfl, rfl⟩
  exact fin ⟨rfl, rfl⟩ (Seals.sub (by repeat (first | exact Sub.nil _ | refine Sub.cons (by repeat (first | exact List.Mem.head _ | apply List.Mem.tail)) ?_)))
theorem gpy_len (G : List (List Int)) (y : Int) : (gpy G y).length ≤ G.length := Nat.le_trans (nrm_length_le _) (by rw [List.length_map]; exact Nat.le_refl _)
end Go.Proofs.Ytfkeohlpcjpkbaa

namespace Go.Proofs.Ytfkeohlpcjpkbaa
open Go.RowKit
def esum (L : List Ent3) (φ : Ent3 → Int) : Int := (L.map φ).sum
/-- What a pair of entries gives at (i, j). -/
def con (s t : Ent3) (i j : Nat) : Int := if s.1 + t.1 = i ∧ s.2.1 + t.2.1 = j then jv s.2.2 * jv t.2.2 else 0
theorem esum_nil (φ : Ent3 → Int) : esum [] φ = 0 := rfl
theorem esum_snoc (L : List Ent3) (t : Ent3) (φ : Ent3 → Int) : esum (L ++ [t]) φ = esum L φ + φ t := by
  simp [esum]
theorem esum_perm {L L' : List Ent3} (p : L.Perm L') (φ : Ent3 → Int) : esum L φ = esum L' φ := by
  have hc : ∀ (t : Ent3) (L : List Ent3), esum (t :: L) φ = φ t + esum L φ := fun t L => by simp [esum]
  induction p with
  | nil => rfl
  | cons t _ ih => rw [hc, hc, ih]
  | swap s t l => rw [hc, hc, hc, hc]; omega
  | trans _ _ a b => exact a.trans b
theorem esum_bound {L : List Ent3} {φ : Ent3 → Int} {B : Nat} (h : ∀ t, t ∈ L → (φ t).natAbs ≤ B) : (esum L φ).natAbs ≤ L.length * B := by
  induction L with
  | nil => simp [esum]
  | cons t L ih =>
    have h1 := ih fun s hs => h s (.tail _ hs)
    have h2 := h t (.head _)
    have e : esum (t :: L) φ = φ t + esum L φ := by simp [esum]
    rw [e, List.length_cons, Nat.succ_mul]
    omega
/-- All entries are in normal form. -/
def Cn (M : List Ent3) : Prop := ∀ t, t ∈ M → t.2.2 = cn (jv t.2.2)
theorem z0_cn : z0 = cn 0 := by show (false, []) = (decide ((0 : Int) < 0), lims 0); rw [lims_zero]; rfl
theorem jv_z0 : jv z0 = 0 := by rw [z0_cn, jv_cn]
theorem lk_cn {M : List Ent3} (h : Cn M) (i j : Nat) : lk z0 M i j = cn (jv (lk z0 M i j)) := by
  rcases lk_mem (L := M) (i := i) (j := j) with h1 | ⟨t, ht, _, _, h1⟩
  · rw [h1, jv_z0]; exact z0_cn
  · rw [h1]; exact h t ht
structure MapOK (M : List Ent3) : Prop where
  nd : Nd M
  cn : Cn M
theorem mput_mem {M : List Ent3} {i j : Nat} {a : Bool × List Nat} {t : Ent3} (h : t ∈ mput M i j a) : t ∈ M ∨ t = (i, j, a) := by
  unfold mput at h
  split at h
  · exact List.mem_or_eq_of_mem_set h
  · rcases List.mem_append.1 h with h | h
    · exact .inl h
    · exact .inr (List.mem_singleton.1 h)
theorem mput_len (M : List Ent3) (i j : Nat) (a : Bool × List Nat) : (mput M i j a).length ≤ M.length + 1 := by
  unfold mput
  split
  · rw [List.length_set]; omega
  · simp
theorem mput_nd {M : List Ent3} {i j : Nat} {a : Bool × List Nat} (h : Nd M) : Nd (mput M i j a) := by
  unfold mput
  split
  · rename_i n hf
    obtain ⟨hn, h1, _⟩ := List.findIdx?_eq_some_iff_getElem.1 hf
    simp only [Bool.and_eq_true, beq_iff_eq] at h1
    refine List.pairwise_iff_getElem.2 fun x y hx hy hxy => ?_
    rw [List.length_set] at hx hy
    have := List.pairwise_iff_getElem.1 h x y hx hy hxy
    rw [List.getElem_set, List.getElem_set]
    by_cases e1 : n = x
    · subst e1
      rw [if_pos rfl, if_neg (by omega)]
      rw [h1.1, h1.2] at this
      exact this
    · rw [if_neg e1]
      by_cases e2 : n = y
      · subst e2
        rw [if_pos rfl]
        rw [h1.1, h1.2] at this
        exact this
      · rw [if_neg e2]; exact this
  · rename_i hf
    refine List.pairwise_append.2 ⟨h, List.pairwise_singleton _ _, fun s hs t ht e => ?_⟩
    simp only [List.mem_singleton] at ht
    subst ht
    have := List.findIdx?_eq_none_iff.1 hf s hs
    simp [e.1, e.2] at this
theorem mput_lk {M : List Ent3} {i j : Nat} {a : Bool × List Nat} (h : Nd M) (i' j' : Nat) : lk z0 (mput M i j a) i' j' = if i' = i ∧ j' = j then a else lk z0 M i' j' := by
  have hin : (i, j, a) ∈ mput M i j a := by
    unfold mput
    split
    · rename_i n hf
      obtain ⟨hn, _⟩ := List.findIdx?_eq_some_iff_getElem.1 hf
      exact List.mem_iff_getElem.2 ⟨n, by rw [List.length_set]; exact hn, by simp⟩
    · exact List.mem_append.2 (.inr (List.mem_singleton.2 rfl))
  by_cases e : i' = i ∧ j' = j
  · rw [if_pos e, e.1, e.2]; exact lk_of_mem (mput_nd h) hin
  · rw [if_neg e]
    rcases lk_mem (L := mput M i j a) (i := i') (j := j') with h1 | ⟨t, ht, e1, e2, h1⟩
    · rcases lk_mem (L := M) (i := i') (j := j') with h2 | ⟨t, ht, e1, e2, h2⟩
      · rw [h1, h2]
      · have hm : t ∈ mput M i j a := by
          unfold mput
          split
          · rename_i n hf
            obtain ⟨hn, h3, _⟩ := List.findIdx?_eq_some_iff_getElem.1 hf
            simp only [Bool.and_eq_true, beq_iff_eq] at h3
            obtain ⟨m, hm, rfl⟩ := List.mem_iff_getElem.1 ht
            have hne : n ≠ m := fun q => by subst q; exact e ⟨e1.symm.trans h3.1, e2.symm.trans h3.2⟩
            exact List.mem_iff_getElem.2 ⟨m, by rw [List.length_set]; exact hm, by rw [List.getElem_set, if_neg hne]⟩
          · exact List.mem_append.2 (.inl ht)
        subst e1 e2
        rw [h2]; exact lk_of_mem (mput_nd h) hm
    · rcases mput_mem ht with ht | rfl
      · subst e1 e2
        rw [h1]; exact (lk_of_mem h ht).symm
      · exact absurd ⟨e1.symm, e2.symm⟩ e
theorem mput_cn {M : List Ent3} {i j : Nat} {x : Int} (h : Cn M) : Cn (mput M i j (cn x)) := fun t ht => by
  rcases mput_mem ht with ht | rfl
  · exact h t ht
  · rw [jv_cn]
end Go.Proofs.Ytfkeohlpcjpkbaa

namespace Go.Proofs.Ytfkeohlpcjpkbaa
open Go.RowKit
def pairs (A B : List Ent3) (i j : Nat) : Int := esum A fun s => esum B fun t => con s t i j
def some2 (s : Ent3) (B : List Ent3) (i j : Nat) : Int := esum B fun t => con s t i j
theorem con_sz {s t : Ent3} {k l : Nat} (hs : sz (jv s.2.2) k) (ht : sz (jv t.2.2) l) (i j : Nat) : (con s t i j).natAbs ≤ 18446744073709551616 ^ (k + l) := by
  unfold con
  split
  · have := hs.mul ht
    unfold sz at this
    omega
  · simp
theorem sum_sz {A B C : List Ent3} {s : Ent3} {k l : Nat} (hA : ∀ t, t ∈ A → sz (jv t.2.2) k) (hs : sz (jv s.2.2) k) (hB : ∀ t, t ∈ B → sz (jv t.2.2) l) (hC : ∀ t, t ∈ C → sz (jv t.2.2) l)
    (lA : A.length ≤ 1048576) (lB : B.length ≤ 1048576) (lC : C.length ≤ 1048576) (i j : Nat) : sz (pairs A B i j + some2 s C i j) (k + l + 1) := by
  have h1 : ∀ t, t ∈ A → (esum B fun t' => con t t' i j).natAbs ≤ B.length * 18446744073709551616 ^ (k + l) := fun t ht => esum_bound fun t' ht' => con_sz (hA t ht) (hB t' ht') i j
  have h2 := esum_bound h1
  have h3 : (some2 s C i j).natAbs ≤ C.length * 18446744073709551616 ^ (k + l) := esum_bound fun t' ht' => con_sz hs (hC t' ht') i j
  unfold sz
  rw [Nat.pow_succ]
  have hW : 0 < 18446744073709551616 ^ (k + l) := Nat.pow_pos (by decide)
  have e1 : pairs A B i j = esum A fun s => esum B fun t => con s t i j := rfl
  rw [← e1] at h2
  generalize 18446744073709551616 ^ (k + l) = W at *
  have h4 : A.length * (B.length * W) ≤ 1048576 * (1048576 * W) := Nat.mul_le_mul lA (Nat.mul_le_mul_right _ lB)
  have h5 : C.length * W ≤ 1048576 * W := Nat.mul_le_mul_right _ lC
  omega
/-- A grid of at most so many entries. -/
structure Gs (k : Nat) (g : List Row) : Prop where
  len : g.length ≤ 1024
  row : ∀ r, r ∈ g → r.length ≤ 1024 ∧ Fit k r
theorem Gs.gf {k : Nat} {g : List Row} (h : Gs k g) {e : Nat} (he : k ≤ e) : Gf e g := ⟨Nat.le_trans h.len (by decide), fun r hr => ⟨Nat.le_trans (h.row r hr).1 (by decide), (h.row r hr).2.mono he⟩⟩
theorem Gs.tlen {k : Nat} {g : List Row} (h : Gs k g) : (tg g g.length).length ≤ 1048576 :=
  Nat.le_trans (tg_len (fun r hr => (h.row r hr).1) _) (Nat.mul_le_mul_right 1024 h.len)
theorem Gs.tin {k : Nat} {g : List Row} (h : Gs k g) : ∀ t, t ∈ tg g g.length → t.1 < 1024 ∧ t.2.1 < 1024 ∧ Lim t.2.2.2 ∧ t.2.2.2.length ≤ k := fun t ht => by
  obtain ⟨h1, h2, h3, _⟩ := tg_mem ht
  have h4 := h.row (g.getD t.1 []) (by rw [List.getD_eq_getElem?_getD, List.getElem?_eq_getElem h1]; exact List.getElem_mem h1)
  have h5 := h.len
  rw [h3]
  exact ⟨by omega, by omega, h4.2.get _⟩
/-- The state of the map of sums: what is done of the outer walk, the entry at hand, what is done of the inner one. -/
structure Sums (M A B C : List Ent3) (s : Ent3) (q : Nat) : Prop where
  nd : Nd M
  cn : Cn M
  low : ∀ t, t ∈ M → t.1 < 2048 ∧ t.2.1 < 2048
  val : ∀ i j, jv (lk z0 M i j) = pairs A B i j + some2 s C i j
  few : M.length ≤ q
theorem Sums.step {M A B C : List Ent3} {s t : Ent3} {q : Nat} (h : Sums M A B C s q) (hs : s.1 < 1024 ∧ s.2.1 < 1024) (ht : t.1 < 1024 ∧ t.2.1 < 1024) :
    Sums (mput M (s.1 + t.1) (s.2.1 + t.2.1) (Go.Proofs.Ytfkeohlpcjpkbaa.cn (jv (lk z0 M (s.1 + t.1) (s.2.1 + t.2.1)) + jv s.2.2 * jv t.2.2))) A B (C ++ [t]) s (q + 1) := by
  refine ⟨mput_nd h.nd, mput_cn h.cn, fun u hu => ?_, fun i j => ?_, Nat.le_trans (mput_len _ _ _ _) (Nat.succ_le_succ h.few)⟩
  · rcases mput_mem hu with hu | rfl
    · exact h.low u hu
    · exact ⟨by simp only; omega, by simp only; omega⟩
  · rw [mput_lk h.nd]
    have e1 : some2 s (C ++ [t]) i j = some2 s C i j + con s t i j := esum_snoc _ _ _
    rw [e1]
    split
    · rename_i e
      rw [jv_cn, h.val, ← e.1, ← e.2]
      unfold con
      rw [if_pos ⟨e.1.symm, e.2.symm⟩]
      omega
    · rename_i e
      rw [h.val]
      unfold con
      rw [if_neg fun e' => e ⟨e'.1.symm, e'.2.symm⟩]
      omega
theorem Sums.start {M A B C : List Ent3} {s t : Ent3} {q : Nat} (h : Sums M A B C s q) (hC : C.Perm B) : Sums M (A ++ [s]) B [] t q :=
  ⟨h.nd, h.cn, h.low, fun i j => by
    rw [h.val]
    have e1 : pairs (A ++ [s]) B i j = pairs A B i j + some2 s B i j := esum_snoc _ _ _
    have e2 : some2 s C i j = some2 s B i j := esum_perm hC _
    rw [e1, e2]
    show _ = _ + esum [] _
    rw [esum_nil]
    omega, h.few⟩
theorem Sums.other {M A B : List Ent3} {s t : Ent3} {q : Nat} (h : Sums M A B [] s q) : Sums M A B [] t q :=
  ⟨h.nd, h.cn, h.low, fun i j => h.val i j, h.few⟩
end Go.Proofs.Ytfkeohlpcjpkbaa

namespace Go.Proofs.Ytfkeohlpcjpkbaa
open Go.RowKit
/-- What Mul tells, by the entries' sums. -/
def gmuE (g h : List Row) : List (List Int) :=
  if gdx (ww g) = 0 ∨ gdx (ww h) = 0 then [] else gof (pairs (tg g g.length) (tg h h.length)) (gdx (ww g) + gdx (ww h) - 1) (gdy (ww g) + gdy (ww h) - 1)
theorem gdy_pos {G : List (List Int)} (h : gdx G ≠ 0) : gdy G ≠ 0 := fun h0 => h (by
  have h1 : ∀ n, gdyN G n = 0 → gdxN G n = 0 := fun n => by
    induction n with
    | zero => intro _; rfl
    | succ n ih =>
      intro hn
      simp only [gdyN] at hn
      simp only [gdxN]
      rw [if_pos (by omega)]
      exact ih (by omega)
  exact h1 _ h0)
theorem gMul_meets (v w : Value) (g h : List Row) (k l : Nat) (hg : Gs k g) (hh : Gs l h) (hk : k + l + 1 ≤ 1073741824) :
    Meets Try.prog 16 [v, w] [(v, W g), (w, W h)] (fun r os fs => os = [] ∧ fs = [(r, wd (gmuE g h))]) := by
  have fg := hg.gf (e := 137438953472) (by omega)
  have fh := hh.gf (e := 137438953472) (by omega)
  have hd1 := gDegrees_meets v g (fun r hr => (fg.row r hr).2) fg.len (fun r hr => (fg.row r hr).1)
  have hd2 := gDegrees_meets w h (fun r hr => (fh.row r hr).2) fh.len (fun r hr => (fh.row r hr).1)
  have ht1 := gterms_meets v g fg.row fg.len
  have ht2 := gterms_meets w h fh.row fh.len
  have bx1 : gdx (ww g) ≤ 1024 := Nat.le_trans (gdxN_le _ _) (by rw [ww_len]; exact hg.len)
  have bx2 : gdx (ww h) ≤ 1024 := Nat.le_trans (gdxN_le _ _) (by rw [ww_len]; exact hh.len)
  have bys : ∀ {e : Nat} {g : List Row}, Gs e g → gdy (ww g) ≤ 1024 := fun {e g} hg => gdyN_le (fun i => by
    rw [ww_get]
    refine Nat.le_trans (dg_le_len _) ?_
    rw [vv_len]
    by_cases hi : i < g.length
    · exact (hg.row _ (by rw [List.getD_eq_getElem?_getD, List.getElem?_eq_getElem hi]; exact List.getElem_mem hi)).1
    · rw [getD_end (Nat.le_of_not_lt hi)]; exact Nat.zero_le _) _
  have by1 := bys hg
  have by2 := bys hh
  have lA := hg.tlen
  have lB := hh.tlen
  have iA := hg.tin
  have iB := hh.tin
  have nA := tg_nd g g.length
  have sA : ∀ t, t ∈ tg g g.length → sz (jv t.2.2) k := fun t ht => sz_jv (iA t ht).2.2.1 (iA t ht).2.2.2
  have sB : ∀ t, t ∈ tg h h.length → sz (jv t.2.2) l := fun t ht => sz_jv (iB t ht).2.2.1 (iB t ht).2.2.2
  have hdef : gmuE g h = if gdx (ww g) = 0 ∨ gdx (ww h) = 0 then [] else gof (pairs (tg g g.length) (tg h h.length)) (gdx (ww g) + gdx (ww h) - 1) (gdy (ww g) + gdy (ww h) - 1) := rfl
  rw [hdef]
  generalize tg g g.length = A at *
  generalize tg h h.length = B at *
  refine meets_of_vc Try.func16 (by kernel_rfl) rfl (by kernel_rfl) (Nat.le_of_ble_eq_true rfl) ?_
  have hS0 : Sums [] [] B [] (0, 0, z0) (([] : List Ent3).length * B.length) := ⟨List.Pairwise.nil, fun t ht => (nomatch ht), fun t ht => (nomatch ht), fun i j => jv_z0, Nat.zero_le _⟩
  refine make_L J z0 fun m hm => ?_
  refine call_fn ht2 (Seals.refl _ _) (by repeat (first | exact Sub.nil _ | refine Sub.cons (by repeat (first | exact List.Mem.head _ | apply List.Mem.tail)) ?_)) ?_
  rintro tb _ _ ⟨rfl, _, rfl⟩
  refine call_fn ht1 (Seals.refl _ _) (by repeat (first | exact Sub.nil _ | refine Sub.cons (by repeat (first | exact List.Mem.head _ | apply List.Mem.tail)) ?_)) ?_
  rintro ta _ _ ⟨rfl, _, rfl⟩
  refine range_L (L := A) (by repeat (first | exact List.Mem.head _ | apply List.Mem.tail)) fun p hp => ?_
  refine loop_rule (X := List Ent3 × List Ent3 × List Ent3 × Value) (fun x => ([(0, v), (1, w), (5, m), (6, tb), (21, p)], [ownWD J z0 p x.1 x.2.2.2, ownMD J z0 m x.2.2.1], [(ta, MD J z0 A), (tb, MD J z0 B), (v, W g), (w, W h)]))
    (fun x => (x.1 ++ x.2.1).Perm A ∧ Sums x.2.2.1 x.2.1 B [] (0, 0, z0) (x.2.1.length * B.length)) (fun x => x.1.length) rfl ?_ ?_
  · exact again (A, [], [], .bool false) ⟨by simp, hS0⟩ trivial (by repeat (first | exact trivial | refine ⟨rfl, ?_⟩ | refine ⟨i64_eq (by first | omega | (simp only; omega)), ?_⟩ | refine ⟨u64_eq (by first | omega | (simp only; omega)), ?_⟩)) (Seals.sub (by repeat (first | exact Sub.nil _ | refine Sub.cons (by repeat (first | exact List.Mem.head _ | apply List.Mem.tail)) ?_)))
  · rintro ⟨L, D, M, c⟩ ⟨hperm, hS⟩
    simp only at hperm hS ⊢
    have hDA : ∀ t, t ∈ D → t ∈ A := fun t ht => hperm.mem_iff.1 (List.mem_append.2 (.inr ht))
    have hlD : L.length + D.length = A.length := by rw [← hperm.length_eq, List.length_append]
    refine next_L 0 rfl hp (fun e => ?_) fun n i j a x hn hgn => ?_
    · subst e
      rw [List.nil_append] at hperm
      have hV : ∀ i j, jv (lk z0 M i j) = pairs A B i j := fun i j => by
        rw [hS.val]
        have e1 : pairs D B i j = pairs A B i j := esum_perm hperm _
        have e2 : some2 (0, 0, z0) [] i j = 0 := rfl
        rw [e1, e2]; omega
      have hfit : ∀ t, t ∈ M → Lim t.2.2.2 ∧ t.2.2.2.length ≤ 137438953472 := fun t ht => by
        have h1 := hS.cn t ht
        have h2 := lk_of_mem hS.nd (show (t.1, t.2.1, t.2.2) ∈ M from ht)
        have h3 := sum_sz (s := (0, 0, z0)) (C := []) (fun u hu => sA u (hDA u hu)) (by rw [jv_z0]; exact sz_zero _) sB (fun u hu => by cases hu) (by omega) lB (Nat.zero_le _) t.1 t.2.1
        rw [← hS.val, h2] at h3
        rw [h1]
        exact ⟨Lim_lims _, Nat.le_trans h3.len (by omega)⟩
      have hlaid := fun u => glaid_meets u M (gdx (ww g) + gdx (ww h) - 1) (gdy (ww g) + gdy (ww h) - 1) (fun t ht => by have := hS.low t ht; omega) hS.nd hfit (by omega) (by omega)
      have e : gtr (laidN M (gdy (ww g) + gdy (ww h) - 1) (gdx (ww g) + gdx (ww h) - 1)) = gof (pairs A B) (gdx (ww g) + gdx (ww h) - 1) (gdy (ww g) + gdy (ww h) - 1) := by
        rw [laid_gof]
        congr 1
        funext i j
        exact hV i j
      rw [e] at hlaid
      refine call_fn hd1 (Seals.refl _ _) (by repeat (first | exact Sub.nil _ | refine Sub.cons (by repeat (first | exact List.Mem.head _ | apply List.Mem.tail)) ?_)) ?_
      rintro _ _ _ ⟨rfl, rfl, rfl⟩
      refine call_fn hd2 (Seals.refl _ _) (by repeat (first | exact Sub.nil _ | refine Sub.cons (by repeat (first | exact List.Mem.head _ | apply List.Mem.tail)) ?_)) ?_
      rintro _ _ _ ⟨rfl, rfl, rfl⟩
      by_cases z1 : gdx (ww g) = 0
      · refine cmp_true rfl (by omega) ?_
        refine fin ⟨rfl, rfl⟩ ?_
        rw [if_pos (.inl z1)]
        exact Seals.trans (Seals.drop 0 _ _) (Seals.trans (Seals.drop 0 _ _) (Seals.cons (Knw.nil 1 _) (Seals.nil _ _)))
      refine cmp_false rfl (by omega) ?_
      by_cases z2 : gdx (ww h) = 0
      · refine cmp_true rfl (by omega) ?_
        refine fin ⟨rfl, rfl⟩ ?_
        rw [if_pos (.inr z2)]
        exact Seals.trans (Seals.drop 0 _ _) (Seals.trans (Seals.drop 0 _ _) (Seals.cons (Knw.nil 1 _) (Seals.nil _ _)))
      refine cmp_false rfl (by omega) ?_
      have y1 := gdy_pos z1
      have y2 := gdy_pos z2
      refine ar (n := ((gdx (ww g) + gdx (ww h) - 1 : Nat) : Int) - 1) (by simp only [arZ, Option.some.injEq]; omega) (by first | exact ⟨by omega, by omega⟩ | (simp only [inK]; omega)) ?_
      refine ar (n := ((gdy (ww g) + gdy (ww h) - 1 : Nat) : Int) - 1) (by simp only [arZ, Option.some.injEq]; omega) (by first | exact ⟨by omega, by omega⟩ | (simp only [inK]; omega)) ?_
      refine call_fn (hlaid m) (Seals.trans (Seals.mapL 1 rfl hm) (Seals.drop 0 _ _)) (by repeat (first | exact Sub.nil _ | refine Sub.cons (by repeat (first | exact List.Mem.head _ | apply List.Mem.tail)) ?_)) ?_
      rintro r _ _ ⟨rfl, rfl⟩
      refine fin ⟨rfl, rfl⟩ ?_
      rw [if_neg (fun e => e.elim z1 z2)]
      exact Seals.sub (by repeat (first | exact Sub.nil _ | refine Sub.cons (by repeat (first | exact List.Mem.head _ | apply List.Mem.tail)) ?_))
    · have hsA : (i, j, a) ∈ A := hperm.mem_iff.1 (List.mem_append.2 (.inl (List.mem_of_getElem? hgn)))
      have his := iA _ hsA
      simp only at his
      refine walk_entry 0 rfl hp ?_
      refine alloc_rule (d := spotD 0 0) fun b7 hb7 => ?_
      refine alloc_rule (d := I false []) fun b8 hb8 => ?_
      refine store_box (d := spotD (i : Nat) (j : Nat)) 1 rfl hb7 rfl (by kernel_rfl) ?_ ?_; exact Reads.spot _ _
      refine store_box (d := J a) 0 rfl hb8 rfl (by kernel_rfl) ?_ ?_; exact Reads.fact (by repeat (first | exact List.Mem.head _ | apply List.Mem.tail))
      refine range_L (L := B) (by repeat (first | exact List.Mem.head _ | apply List.Mem.tail)) fun p2 hp2 => ?_
      refine loop_rule (X := List Ent3 × List Ent3 × List Ent3 × Value) (fun y => ([(0, v), (1, w), (5, m), (6, tb), (7, b7), (8, b8), (21, p), (28, p2)],
        [ownWD J z0 p2 y.1 y.2.2.2, own1 b8 2 1 (fun _ => J a), own1 b7 2 1 (fun _ => spotD (i : Nat) (j : Nat)), ownWD J z0 p (L.eraseIdx n) (.tuple #[spot (i : Nat) (j : Nat), x]), ownMD J z0 m y.2.2.1], [(ta, MD J z0 A), (tb, MD J z0 B), (v, W g), (w, W h)]))
        (fun y => (y.1 ++ y.2.1).Perm B ∧ Sums y.2.2.1 D B y.2.1 (i, j, a) (D.length * B.length + y.2.1.length)) (fun y => y.1.length) rfl ?_ ?_
      · refine again (B, [], M, .bool false) ⟨by simp, hS.other⟩ trivial (by repeat (first | exact trivial | refine ⟨rfl, ?_⟩ | refine ⟨i64_eq (by first | omega | (simp only; omega)), ?_⟩ | refine ⟨u64_eq (by first | omega | (simp only; omega)), ?_⟩)) ?_
        refine Seals.trans (Seals.own_cong (os := [_, _, _, _, _]) 1 (fun _ => J a) rfl rfl fun y hy => (by
          have h0 : y = 0 := by omega
          subst h0
          rfl)) ?_
        refine Seals.trans (Seals.own_cong (os := [_, _, _, _, _]) 2 (fun _ => spotD (i : Nat) (j : Nat)) rfl rfl fun y hy => (by
          have h0 : y = 0 := by omega
          subst h0
          rfl)) ?_
        exact Seals.sub (by repeat (first | exact Sub.nil _ | refine Sub.cons (by repeat (first | exact List.Mem.head _ | apply List.Mem.tail)) ?_))
      · rintro ⟨L2, C, M2, c2⟩ ⟨hperm2, hS2⟩
        simp only at hperm2 hS2 ⊢
        have hlC : L2.length + C.length = B.length := by rw [← hperm2.length_eq, List.length_append]
        refine next_L 0 rfl hp2 (fun e => ?_) fun n2 i2 j2 a2 x2 hn2 hgn2 => ?_
        · subst e
          rw [List.nil_append] at hperm2
          have hst := hS2.start (t := (0, 0, z0)) hperm2
          rw [hperm2.length_eq] at hst
          refine again (L.eraseIdx n, D ++ [(i, j, a)], M2, .tuple #[spot (i : Nat) (j : Nat), x]) ⟨perm_step hgn hperm, by
            simp only
            rw [show (D ++ [(i, j, a)]).length * B.length = D.length * B.length + B.length by simp [Nat.add_mul]]
            exact hst⟩ (by simp only [List.length_eraseIdx, if_pos hn]; omega) (by repeat (first | exact trivial | refine ⟨rfl, ?_⟩ | refine ⟨i64_eq (by first | omega | (simp only; omega)), ?_⟩ | refine ⟨u64_eq (by first | omega | (simp only; omega)), ?_⟩)) ?_
          exact Seals.trans (Seals.drop 0 _ _) (Seals.trans (Seals.drop 0 _ _) (Seals.trans (Seals.drop 0 _ _) (Seals.sub (by repeat (first | exact Sub.nil _ | refine Sub.cons (by repeat (first | exact List.Mem.head _ | apply List.Mem.tail)) ?_)))))
        · have htB : (i2, j2, a2) ∈ B := hperm2.mem_iff.1 (List.mem_append.2 (.inl (List.mem_of_getElem? hgn2)))
          have hit := iB _ htB
          simp only at hit
          have hVs := sum_sz (s := (i, j, a)) (C := C) (fun u hu => sA u (hDA u hu)) (sA _ hsA) sB (fun u hu => sB u (hperm2.mem_iff.1 (List.mem_append.2 (.inr hu)))) (by omega) lB (by omega) (i + i2) (j + j2)
          rw [← hS2.val] at hVs
          have hlkc := lk_cn hS2.cn (i + i2) (j + j2)
          have hprod : sz (jv a * jv a2) (k + l) := (sA _ hsA).mul (sB _ htB)
          have hstep := hS2.step (t := (i2, j2, a2)) ⟨his.1, his.2.1⟩ ⟨hit.1, hit.2.1⟩
          simp only at hstep
          have hmul := fun u u' => zMulJ u u' a a2 his.2.2.1 (Nat.le_trans his.2.2.2 (by omega)) hit.2.2.1 (Nat.le_trans hit.2.2.2 (by omega))
          have hadd := fun u u' => zAddZ u u' _ _ _ _ hVs hprod (by omega) (by omega)
          have hfew := hS2.few
          have hmulle : D.length * B.length ≤ 1048576 * 1048576 := Nat.mul_le_mul (by omega) lB
          have hJ : J (lk z0 M2 (i + i2) (j + j2)) = zd (jv (lk z0 M2 (i + i2) (j + j2))) := congrArg J hlkc
          refine walk_entry 0 rfl hp2 ?_
          refine alloc_rule (d := spotD 0 0) fun b9 hb9 => ?_
          refine alloc_rule (d := I false []) fun b10 hb10 => ?_
          refine store_box (d := spotD (i2 : Nat) (j2 : Nat)) 1 rfl hb9 rfl (by kernel_rfl) ?_ ?_; exact Reads.spot _ _
          refine store_box (d := J a2) 0 rfl hb10 rfl (by kernel_rfl) ?_ ?_; exact Reads.fact (by repeat (first | exact List.Mem.head _ | apply List.Mem.tail))
          refine field_box 4 rfl hb7 ?_
          refine load_box_field_one (u := .int .i64 (i : Nat)) 4 rfl (Part.left (Part.refl _)) ?_
          refine field_box 1 rfl hb9 ?_
          refine load_box_field_one (u := .int .i64 (i2 : Nat)) 1 rfl (Part.left (Part.refl _)) ?_
          refine ar (n := ((i + i2 : Nat) : Int)) (by simp [arZ]) (by first | exact ⟨by omega, by omega⟩ | (simp only [inK]; omega)) ?_
          refine field_box 4 rfl hb7 ?_
          refine load_box_field_one (u := .int .i64 (j : Nat)) 4 rfl (Part.right (Part.refl _)) ?_
          refine field_box 1 rfl hb9 ?_
          refine load_box_field_one (u := .int .i64 (j2 : Nat)) 1 rfl (Part.right (Part.refl _)) ?_
          refine ar (n := ((j + j2 : Nat) : Int)) (by simp [arZ]) (by first | exact ⟨by omega, by omega⟩ | (simp only [inK]; omega)) ?_
          refine build_spot ?_
          refine alloc_rule (d := spotD 0 0) fun b11 hb11 => ?_
          refine store_box (d := spotD ((i + i2 : Nat) : Int) ((j + j2 : Nat) : Int)) 0 rfl hb11 rfl (by kernel_rfl) ?_ ?_; exact Reads.spot _ _
          refine draw_rule [0, 1, 2, 3, 4, 5, 6, 7, 8, 9] [0, 1, 2, 3, 4, 5, 6, 7, 8, 9] (by kernel_rfl) (by kernel_rfl) ?_
          refine load_spot 0 rfl hb11 rfl ?_
          refine load_spot 0 rfl hb11 rfl ?_
          refine get_own_L (f := J) (z := z0) 7 rfl hm (fun t ht => by have := hS2.low t ht; omega) hS2.nd (by omega) (by omega) fun y1 => ?_
          rw [hJ]
          refine load_box (d := J a) 4 rfl hb8 rfl (load_J _) fun y2 => ?_
          refine load_box (d := J a2) 1 rfl hb10 rfl (load_J _) fun y3 => ?_
          refine call_fn (hmul y2 y3) (Seals.refl _ _) (by repeat (first | exact Sub.nil _ | refine Sub.cons (by repeat (first | exact List.Mem.head _ | apply List.Mem.tail)) ?_)) ?_
          rintro y4 _ _ ⟨rfl, rfl⟩
          refine call_fn (hadd y1 y4) (Seals.refl _ _) (by repeat (first | exact Sub.nil _ | refine Sub.cons (by repeat (first | exact List.Mem.head _ | apply List.Mem.tail)) ?_)) ?_
          rintro y5 _ _ ⟨rfl, rfl⟩
          refine put_L (f := J) (z := z0) (cn (jv (lk z0 M2 (i + i2) (j + j2)) + jv a * jv a2)) 7 rfl hm (fun t ht => by have := hS2.low t ht; omega) hS2.nd (by omega) (by omega) (by unfold maxLen; omega) (Knw.fact (by repeat (first | exact List.Mem.head _ | apply List.Mem.tail))) ?_
          refine again (L2.eraseIdx n2, C ++ [(i2, j2, a2)], mput M2 (i + i2) (j + j2) (cn (jv (lk z0 M2 (i + i2) (j + j2)) + jv a * jv a2)), .tuple #[spot (i2 : Nat) (j2 : Nat), x2]) ⟨perm_step hgn2 hperm2, by simp only [List.length_append, List.length_cons, List.length_nil]; exact hstep⟩ (by simp only [List.length_eraseIdx, if_pos hn2]; omega) (by repeat (first | exact trivial | refine ⟨rfl, ?_⟩ | refine ⟨i64_eq (by first | omega | (simp only; omega)), ?_⟩ | refine ⟨u64_eq (by first | omega | (simp only; omega)), ?_⟩)) ?_
          exact Seals.trans (Seals.drop 0 _ _) (Seals.trans (Seals.drop 0 _ _) (Seals.trans (Seals.drop 0 _ _) (Seals.sub (by repeat (first | exact Sub.nil _ | refine Sub.cons (by repeat (first | exact List.Mem.head _ | apply List.Mem.tail)) ?_)))))
end Go.Proofs.Ytfkeohlpcjpkbaa

namespace Go.Proofs.Ytfkeohlpcjpkbaa
open Go.RowKit
theorem gtr_len (H : List (List Int)) : (gtr H).length ≤ H.length := by
  induction H with
  | nil => exact Nat.le_refl _
  | cons r H ih =>
    simp only [gtr]
    split
    · split <;> simp
    · rename_i s t hg
      rw [hg] at ih
      simpa using ih
theorem gdx_zero {G : List (List Int)} : gdx G = 0 ↔ ∀ i j, gv G i j = 0 := by
  constructor
  · intro h i j
    exact gv_zero (by omega)
  · intro h
    have hz : ∀ i, dg (G.getD i []) = 0 := fun i => Nat.le_zero.1 (dg_le.2 fun j _ => h i j)
    have : ∀ n, gdxN G n = 0 := fun n => by
      induction n with
      | zero => rfl
      | succ n ih => simp only [gdxN]; rw [if_pos (hz n)]; exact ih
    exact this _
end Go.Proofs.Ytfkeohlpcjpkbaa

namespace Go.Proofs.Ytfkeohlpcjpkbaa
theorem kernel_det {n : Nat} {A : Mx} {u : Nat → Int} {i : Nat} (hi : i < n) (hu : u i ≠ 0) (h : ∀ j, j < n → isum (fun i => u i * A i j) n = 0) : det n A = 0 := by
  obtain ⟨n, rfl⟩ : ∃ m, n = m + 1 := ⟨n - 1, by omega⟩
  have h1 : isum (fun j => isum (fun k => u k * A k j) (n + 1) * adj n A j i) (n + 1) = 0 := isum_zero fun k hk => by rw [h k hk]; simp
  rw [isum_congr (g' := fun j => isum (fun k => u k * (A k j * adj n A j i)) (n + 1)) fun j _ => by
    rw [← isum_mul_right]; exact isum_congr fun k _ => by grind, isum_swap,
    isum_congr (g' := fun k => u k * (if k = i then det (n + 1) A else 0)) fun k hk => by rw [isum_mul, ← mul_adj A hk hi]; rfl,
    isum_one hi fun k _ hk => by rw [if_neg hk]; simp, if_pos rfl] at h1
  rcases Int.mul_eq_zero.1 h1 with h2 | h2
  · exact absurd h2 hu
  · exact h2
theorem isum_rev (g : Nat → Int) : ∀ n, isum (fun k => g (n - 1 - k)) n = isum g n
  | 0 => rfl
  | n + 1 => by
    rw [isum_front]
    show g (n + 1 - 1 - 0) + isum (fun k => g (n + 1 - 1 - (k + 1))) n = isum g n + g n
    rw [isum_congr (g' := fun k => g (n - 1 - k)) fun k hk => by congr 1; omega, isum_rev g n]
    simp only [Nat.add_sub_cancel, Nat.sub_zero]
    omega
/-- A row of Sylvester's matrix. -/
def sF (f : Nat → Int) (d i k : Nat) : Int := if i ≤ k ∧ k ≤ i + d then f (d + i - k) else 0
def S2 (m n : Nat) (f g : Nat → Int) : Mx := fun i k => if i < n then sF f m i k else sF g n (i - n) k
-- Turned about.
end Go.Proofs.Ytfkeohlpcjpkbaa

namespace Go.Proofs.Ytfkeohlpcjpkbaa
open Go.RowKit
end Go.Proofs.Ytfkeohlpcjpkbaa

namespace Go.Proofs.Ytfkeohlpcjpkbaa
open Go.RowKit
/-- A row, what it stands for, its limbs and length. -/
structure Lk (A : Row) (l : List Int) (k n : Nat) : Prop where
  val : vv A = l
  fit : Fit k A
  len : A.length ≤ n
theorem Lk.raw {n c : Nat} {p : Row} (h : smallR n c p) (hl : limR p) : Lk p (vv p) c n := ⟨rfl, h.fit hl, h.1⟩
theorem Lk.told {l : List Int} {k n : Nat} (h : szR k l) (hn : l.length ≤ n) : Lk (l.map cn) l k n := ⟨vv_cn l, h.fit, by rw [List.length_map]; exact hn⟩
theorem Lk.sz {A : Row} {l : List Int} {k n : Nat} (h : Lk A l k n) : szR k l := by rw [← h.val]; exact h.fit.szR
theorem Lk.ll {A : Row} {l : List Int} {k n : Nat} (h : Lk A l k n) : l.length ≤ n := by rw [← h.val, vv_len]; exact h.len
theorem Lk.mono {A : Row} {l : List Int} {k n k' n' : Nat} (h : Lk A l k n) (hk : k ≤ k') (hn : n ≤ n') : Lk A l k' n' := ⟨h.val, h.fit.mono hk, Nat.le_trans h.len hn⟩
theorem pmul_len (l m : List Int) : (pmul l m).length ≤ l.length + m.length := by
  by_cases h1 : 0 < dg l
  · by_cases h2 : 0 < dg m
    · have := (pmul_dg h1 h2).1
      rw [dg_nm (pmul_nm l m)] at this
      have a1 := dg_le_len l
      have a2 := dg_le_len m
      omega
    · have : pmul l m = [] := (pmul_nm l m).ext Nm.nil fun x => by rw [ev_pmul, dg_zero.1 (show dg m = 0 by omega)]; simp [pev]
      rw [this]; exact Nat.zero_le _
  · have : pmul l m = [] := (pmul_nm l m).ext Nm.nil fun x => by rw [ev_pmul, dg_zero.1 (show dg l = 0 by omega)]; simp [pev]
    rw [this]; exact Nat.zero_le _
theorem szR.pmul {k j : Nat} {l m : List Int} (h : szR k l) (h' : szR j m) (hl : l.length < 18446744073709551616) : szR (k + j + 1) (pmul l m) := by
  have hn : (Go.Proofs.Ytfkeohlpcjpkbaa.nrm l).length ≤ l.length := nrm_length_le l
  unfold Go.Proofs.Ytfkeohlpcjpkbaa.pmul
  simp only
  split
  · exact fun x hx => by simp at hx
  · exact szR.nrm (szR.lst fun i _ => conv_sz h.nrm h'.nrm (by omega) i)
section
variable {A B : Row} {l m : List Int} {k j n n' : Nat}
theorem Lk.nrm (h : Lk A l k n) : Lk ((nrm l).map cn) (Go.Proofs.Ytfkeohlpcjpkbaa.nrm l) k n := Lk.told h.sz.nrm (Nat.le_trans (nrm_length_le _) h.ll)
theorem Lk.add (h : Lk A l k n) (h' : Lk B m k n) : Lk ((padd l m).map cn) (padd l m) (k + 1) n := Lk.told (h.sz.padd h'.sz) (Nat.le_trans (padd_len _ _) (Nat.max_le.2 ⟨h.ll, h'.ll⟩))
theorem Lk.sub (h : Lk A l k n) (h' : Lk B m k n) : Lk ((psub l m).map cn) (psub l m) (k + 1) n := Lk.told (h.sz.psub h'.sz) (Nat.le_trans (psub_len _ _) (Nat.max_le.2 ⟨h.ll, h'.ll⟩))
theorem Lk.mul (h : Lk A l k n) (h' : Lk B m j n') (hn : n < 1073741824) : Lk ((pmul l m).map cn) (pmul l m) (k + j + 1) (n + n') := Lk.told (h.sz.pmul h'.sz (by have := h.ll; omega)) (by have := pmul_len l m; have := h.ll; have := h'.ll; omega)
theorem ev_szn {x : Int} (h : Lk A l k n) (hx : sz x j) : sz (pev l x) (k + n * (j + 1)) := (ev_sz h.sz hx).mono (by
  have : l.length * (j + 1) ≤ n * (j + 1) := Nat.mul_le_mul_right _ h.ll
  omega)
end
end Go.Proofs.Ytfkeohlpcjpkbaa

namespace Go.Proofs.Ytfkeohlpcjpkbaa
open Go.RowKit
theorem rDegreeN (v : Value) (p : Row) (hp : Fit 1099511627776 p) :
    Meets Try.prog 68 [v] [(v, V p)] (fun r os fs => os = [] ∧ fs = [] ∧ r = .int .i64 ((dg (vv p) : Nat) - 1 : Int)) := by
  have := rDegree_meets v p hp
  rw [deg_dg] at this; exact this
theorem rMulZZ' (v w : Value) (x y : Int) (e : Nat) (hx : sz x e) (hy : sz y e) (he : e ≤ 137438953472) :
    Meets Try.prog 24 [v, w] [(v, zd x), (w, zd y)] (fun r os fs => os = [] ∧ fs = [(r, zd (x * y))]) := by
  have h := rMulZJ v w x (cn y) e hx he (Lim_lims _) (Nat.le_trans hy.len he)
  rw [jv_cn] at h
  exact h
theorem conv_none {a b : List Int} {y : Nat} : ∀ {i : Nat}, (∀ t, t < i → t ≤ y → b.length ≤ y - t) → conv a b i y = 0
  | 0, _ => rfl
  | i + 1, h => by
    rw [conv_succ, conv_none fun t ht hy => h t (by omega) hy]
    split
    · rw [getD_none (h i (by omega) (by omega))]; simp
    · rfl
theorem conv_more {a b : List Int} {y i : Nat} : ∀ (d : Nat), (y < i ∨ a.length ≤ i) → conv a b (i + d) y = conv a b i y
  | 0, _ => rfl
  | d + 1, h => by
    rw [← Nat.add_assoc, conv_succ, conv_more d h]
    split
    · rcases h with h | h
      · omega
      · rw [getD_none (l := a) (by omega)]; simp
    · simp
theorem rPMul_meets (v w : Value) (p q : Row) (k j : Nat) (hp : Fit k p) (hq : Fit j q) (hk : k + j + 1 ≤ 137438953472) (lp : p.length ≤ 268435456) (lq : q.length ≤ 268435456) :
    Meets Try.prog 69 [v, w] [(v, V p), (w, V q)] (fun r os fs => os = [] ∧ fs = [(r, vd (pmul (vv p) (vv q)))]) := by
  have d1 := rDegreeN v p (hp.mono (by omega))
  have d2 := rDegreeN w q (hq.mono (by omega))
  have a1 := rAtN v p (hp.mono (by omega))
  have a2 := rAtN w q (hq.mono (by omega))
  have sa := hp.szR.nrm
  have sb := hq.szR.nrm
  have la : (nrm (vv p)).length ≤ p.length := Nat.le_trans (nrm_length_le _) (by rw [vv_len]; exact Nat.le_refl _)
  have lb : (nrm (vv q)).length ≤ q.length := Nat.le_trans (nrm_length_le _) (by rw [vv_len]; exact Nat.le_refl _)
  have e1 : ∀ i, (vv p).getD i 0 = (nrm (vv p)).getD i 0 := fun i => (co_nrm _ _).symm
  have e2 : ∀ i, (vv q).getD i 0 = (nrm (vv q)).getD i 0 := fun i => (co_nrm _ _).symm
  have hdef : pmul (vv p) (vv q) = if nrm (vv p) = [] ∨ nrm (vv q) = [] then [] else nrm (lst ((nrm (vv p)).length + (nrm (vv q)).length - 1) fun y => conv (nrm (vv p)) (nrm (vv q)) (nrm (vv p)).length y) := rfl
  have hdg1 : dg (vv p) = (nrm (vv p)).length := rfl
  have hdg2 : dg (vv q) = (nrm (vv q)).length := rfl
  rw [hdef]
  simp only [e1] at a1
  simp only [e2] at a2
  rw [hdg1] at d1
  rw [hdg2] at d2
  generalize nrm (vv p) = a at *
  generalize nrm (vv q) = b at *
  have hcs : ∀ m y, m ≤ a.length → sz (conv a b m y) (k + j + 1) := fun m y hm => conv_sz sa sb (by omega) y
  have hn := fun u n => rNormT u (lst n fun y => conv a b a.length y) ((szR.lst fun i _ => hcs _ _ (Nat.le_refl _)).mono hk)
  have hpr : ∀ i t, sz (a.getD i 0 * b.getD t 0) (k + j + 1) := fun i t => ((sa.get i).mul (sb.get t)).mono (by omega)
  refine meets_of_vc Try.func69 (by kernel_rfl) rfl (by kernel_rfl) (Nat.le_of_ble_eq_true rfl) ?_
  refine empty_L (size := 2) (e := 39) J z0 (by decide) fun v0 hv0 => ?_
  refine call_fn d1 (Seals.refl _ _) (by repeat (first | exact Sub.nil _ | refine Sub.cons (by repeat (first | exact List.Mem.head _ | apply List.Mem.tail)) ?_)) ?_
  rintro _ _ _ ⟨rfl, rfl, rfl⟩
  refine call_fn d2 (Seals.refl _ _) (by repeat (first | exact Sub.nil _ | refine Sub.cons (by repeat (first | exact List.Mem.head _ | apply List.Mem.tail)) ?_)) ?_
  rintro _ _ _ ⟨rfl, rfl, rfl⟩
  generalize hg : (fun y => conv a b a.length y) = g at *
  have hgi : ∀ y, conv a b a.length y = g y := fun y => by rw [← hg]
  refine loop_rule (X := Nat × Value) (fun x => ([(0, v), (1, w), (5, x.2), (6, .int .i64 ((a.length : Nat) - 1 : Int)), (7, .int .i64 ((b.length : Nat) - 1 : Int)), (8, .int .i64 (x.1 : Nat))], [ownL 2 J z0 x.2 ((lst x.1 g).map cn)], [(v, V p), (w, V q)]))
    (fun x => isSl x.2 ∧ (a.length = 0 ∨ b.length = 0 → x.1 = 0) ∧ x.1 ≤ a.length + b.length - 1) (fun x => a.length + b.length - x.1) rfl ?_ ?_
  · exact again (0, v0) ⟨hv0, fun _ => rfl, Nat.zero_le _⟩ trivial (by repeat (first | exact trivial | refine ⟨rfl, ?_⟩ | refine ⟨i64_eq (by first | omega | (simp only; omega)), ?_⟩ | refine ⟨u64_eq (by first | omega | (simp only; omega)), ?_⟩)) (Seals.sub (by repeat (first | exact Sub.nil _ | refine Sub.cons (by repeat (first | exact List.Mem.head _ | apply List.Mem.tail)) ?_)))
  · rintro ⟨y, vo⟩ ⟨hvo, hz, hy1⟩
    simp only at hvo hz hy1 ⊢
    have hll : (lst y g).length = y := lst_len _ _
    refine cmp_split _ rfl (fun h1 => ?_) (fun h1 => ?_)
    · refine cmp_split _ rfl (fun h2 => ?_) (fun h2 => ?_)
      · have hA : 0 < a.length := by omega
        have hB : 0 < b.length := by omega
        refine ar rfl (by first | exact ⟨by omega, by omega⟩ | (simp only [inK]; omega)) ?_
        refine cmp_split _ rfl (fun h3 => ?_) (fun h3 => ?_)
        · have hy : y + 2 ≤ a.length + b.length := by omega
          refine build0 (da := .one (.bool false)) (db := U (lims 0)) (fun S w => ⟨[.bool false], [.slice none 0 0], rfl, rd_false S w, by rw [lims_zero]; exact rd_nil S w 1 _⟩) fun z => ?_
          refine alloc_rule (d := I false []) fun c hc => ?_
          refine store_box (d := zd 0) 0 rfl hc rfl (by kernel_rfl) ?_ ?_; exact Reads.fact (by repeat (first | exact List.Mem.head _ | apply List.Mem.tail))
          refine ar rfl (by first | exact ⟨by omega, by omega⟩ | (simp only [inK]; omega)) ?_
          refine max2_rule ?_
          have h00 : conv a b (y + 1 - b.length) y = 0 := conv_none fun t ht hty => by omega
          refine loop_rule (X := Nat) (fun i => ([(0, v), (1, w), (5, vo), (6, .int .i64 ((a.length : Nat) - 1 : Int)), (7, .int .i64 ((b.length : Nat) - 1 : Int)), (8, .int .i64 (y : Nat)), (9, c), (10, .int .i64 (i : Nat))], [own1 c 2 1 (fun _ => zd (conv a b i y)), ownL 2 J z0 vo ((lst y g).map cn)], [(v, V p), (w, V q)]))
            (fun i => i ≤ a.length ∧ i ≤ y + 1) (fun i => a.length - i) rfl ?_ ?_
          · exact again (y + 1 - b.length) ⟨by omega, by omega⟩ trivial ⟨rfl, rfl, rfl, rfl, rfl, rfl, rfl, i64_eq (by omega), trivial⟩ (Seals.trans (Seals.box0 (by rw [h00]; rfl)) (Seals.sub (by repeat (first | exact Sub.nil _ | refine Sub.cons (by repeat (first | exact List.Mem.head _ | apply List.Mem.tail)) ?_))))
          · rintro i ⟨hi1, hi2⟩
            simp only at hi1 hi2 ⊢
            refine min2_rule ?_
            refine cmp_split _ rfl (fun h4 => ?_) (fun h4 => ?_)
            · have hia : i < a.length := by omega
              have hiy : i ≤ y := by omega
              have hat := a2 (y - i)
              rw [show ((y - i : Nat) : Int) = (y : Int) - (i : Int) by omega] at hat
              have hsum : conv a b i y + a.getD i 0 * b.getD (y - i) 0 = conv a b (i + 1) y := by rw [conv_succ, if_pos hiy]
              have hadd := fun u u' => rAddZ u u' _ _ (k + j + 1) (hcs i y (by omega)) (hpr i (y - i)) hk
              rw [hsum] at hadd
              refine draw_rule [0, 1, 2, 4, 5, 6, 7, 3, 8, 9, 10, 11] [0, 1, 2, 3, 4, 5, 6, 7, 8, 9, 10, 11] (by kernel_rfl) (by kernel_rfl) ?_
              refine load_box (d := zd (conv a b i y)) 0 rfl hc rfl (load_I _ _) fun y1 => ?_
              refine ar rfl (by first | exact ⟨by omega, by omega⟩ | (simp only [inK]; omega)) ?_
              refine call_fn (a1 i) (Seals.refl _ _) (by repeat (first | exact Sub.nil _ | refine Sub.cons (by repeat (first | exact List.Mem.head _ | apply List.Mem.tail)) ?_)) ?_
              rintro y2 _ _ ⟨rfl, rfl⟩
              refine call_fn hat (Seals.refl _ _) (by repeat (first | exact Sub.nil _ | refine Sub.cons (by repeat (first | exact List.Mem.head _ | apply List.Mem.tail)) ?_)) ?_
              rintro y3 _ _ ⟨rfl, rfl⟩
              refine call_fn (rMulZZ' y2 y3 _ _ (k + j + 1) ((sa.get i).mono (by omega)) ((sb.get (y - i)).mono (by omega)) hk) (Seals.refl _ _) (by repeat (first | exact Sub.nil _ | refine Sub.cons (by repeat (first | exact List.Mem.head _ | apply List.Mem.tail)) ?_)) ?_
              rintro y4 _ _ ⟨rfl, rfl⟩
              refine call_fn (hadd y1 y4) (Seals.refl _ _) (by repeat (first | exact Sub.nil _ | refine Sub.cons (by repeat (first | exact List.Mem.head _ | apply List.Mem.tail)) ?_)) ?_
              rintro y5 _ _ ⟨rfl, rfl⟩
              refine store_box (d := zd (conv a b (i + 1) y)) 0 rfl hc rfl (by kernel_rfl) ?_ ?_; exact Reads.fact (by repeat (first | exact List.Mem.head _ | apply List.Mem.tail))
              refine ar rfl (by first | exact ⟨by omega, by omega⟩ | (simp only [inK]; omega)) ?_
              exact again (i + 1) ⟨by omega, by omega⟩ (by simp only; omega) (by repeat (first | exact trivial | refine ⟨rfl, ?_⟩ | refine ⟨i64_eq (by first | omega | (simp only; omega)), ?_⟩ | refine ⟨u64_eq (by first | omega | (simp only; omega)), ?_⟩)) (Seals.trans (Seals.box0 rfl) (Seals.sub (by repeat (first | exact Sub.nil _ | refine Sub.cons (by repeat (first | exact List.Mem.head _ | apply List.Mem.tail)) ?_))))
            · have hfin : conv a b i y = g y := by
                rw [← hgi]
                obtain ⟨d, hd⟩ : ∃ d, a.length = i + d := ⟨a.length - i, by omega⟩
                rw [hd]
                exact (conv_more d (by omega)).symm
              rw [hfin]
              refine load_box (d := zd (g y)) 0 rfl hc rfl (load_I _ _) fun y6 => ?_
              refine lit_L (size := 2) (f := J) (z := z0) (e := 39) (cn (g y)) (by decide) (Reads.fact (by repeat (first | exact List.Mem.head _ | apply List.Mem.tail))) rfl fun y7 => ?_
              refine append_L (size := 2) (e := 39) (f := J) (z := z0) (l := (lst y g).map cn) (m := [cn (g y)]) 1 rfl hvo (Knw.fact (by repeat (first | exact List.Mem.head _ | apply List.Mem.tail))) (by simp only [List.length_map, hll, List.length_cons, List.length_nil]; omega) (by simp only [List.length_map, hll, List.length_cons, List.length_nil]; omega) fun vn hvn => ?_
              refine ar rfl (by first | exact ⟨by omega, by omega⟩ | (simp only [inK]; omega)) ?_
              refine again (y + 1, vn) ⟨hvn, fun h => by omega, by simp only; omega⟩ (by simp only; omega) (by repeat (first | exact trivial | refine ⟨rfl, ?_⟩ | refine ⟨i64_eq (by first | omega | (simp only; omega)), ?_⟩ | refine ⟨u64_eq (by first | omega | (simp only; omega)), ?_⟩)) ?_
              rw [show (lst y g).map cn ++ [cn (g y)] = (lst (y + 1) g).map cn by rw [lst_snoc, List.map_append]; rfl]
              exact Seals.trans (Seals.drop 0 _ _) (Seals.sub (by repeat (first | exact Sub.nil _ | refine Sub.cons (by repeat (first | exact List.Mem.head _ | apply List.Mem.tail)) ?_)))
        · by_cases hy0 : y = a.length + b.length - 1
          · have hne : ¬ (a = [] ∨ b = []) := fun h => h.elim (fun e => by rw [e] at hA; simp at hA) fun e => by rw [e] at hB; simp at hB
            rw [if_neg hne, ← hy0]
            refine call_fn (hn vo y (by rw [lst_len]; omega)) (Seals.toldL hvo) (by repeat (first | exact Sub.nil _ | refine Sub.cons (by repeat (first | exact List.Mem.head _ | apply List.Mem.tail)) ?_)) ?_
            rintro r _ _ ⟨rfl, rfl⟩
            exact fin ⟨rfl, rfl⟩ (Seals.sub (by repeat (first | exact Sub.nil _ | refine Sub.cons (by repeat (first | exact List.Mem.head _ | apply List.Mem.tail)) ?_)))
          · omega
      · have hB : b = [] := List.eq_nil_of_length_eq_zero (by omega)
        have hy0 := hz (.inr (by rw [hB]; rfl))
        subst hy0
        rw [if_pos (.inr hB)]
        refine call_fn (hn vo 0 (by rw [lst_len]; omega)) (Seals.toldL hvo) (by repeat (first | exact Sub.nil _ | refine Sub.cons (by repeat (first | exact List.Mem.head _ | apply List.Mem.tail)) ?_)) ?_
        rintro r _ _ ⟨rfl, rfl⟩
        exact fin ⟨rfl, rfl⟩ (Seals.sub (by repeat (first | exact Sub.nil _ | refine Sub.cons (by repeat (first | exact List.Mem.head _ | apply List.Mem.tail)) ?_)))
    · have hA : a = [] := List.eq_nil_of_length_eq_zero (by omega)
      have hy0 := hz (.inl (by rw [hA]; rfl))
      subst hy0
      rw [if_pos (.inl hA)]
      refine call_fn (hn vo 0 (by rw [lst_len]; omega)) (Seals.toldL hvo) (by repeat (first | exact Sub.nil _ | refine Sub.cons (by repeat (first | exact List.Mem.head _ | apply List.Mem.tail)) ?_)) ?_
      rintro r _ _ ⟨rfl, rfl⟩
      exact fin ⟨rfl, rfl⟩ (Seals.sub (by repeat (first | exact Sub.nil _ | refine Sub.cons (by repeat (first | exact List.Mem.head _ | apply List.Mem.tail)) ?_)))
end Go.Proofs.Ytfkeohlpcjpkbaa

namespace Go.Proofs.Ytfkeohlpcjpkbaa
open Go.RowKit
end Go.Proofs.Ytfkeohlpcjpkbaa

namespace Go.Proofs.Ytfkeohlpcjpkbaa
open Go.RowKit
theorem ptim_len (c : Int) (l : List Int) : (ptim c l).length ≤ l.length := by
  have := prai_len c 0 l
  rw [prai_zero] at this; omega
theorem ptim_szR {k a : Nat} {c : Int} {l : List Int} (h : szR k l) (hc : sz c a) : szR (k + a) (ptim c l) := by
  have := h.prai hc 0
  rwa [prai_zero] at this
end Go.Proofs.Ytfkeohlpcjpkbaa

namespace Go.Proofs.Ytfkeohlpcjpkbaa
/-- A matrix of polynomials. -/
abbrev Px := Nat → Nat → List Int
/-- It at t. -/
def evm (A : Px) (t : Int) : Mx := fun i j => pev (A i j) t
def psumf (f : Nat → List Int) : Nat → List Int
  | 0 => []
  | n + 1 => padd (psumf f n) (f n)
def pdet : Nat → Px → List Int
  | 0, _ => [1]
  | n + 1, A => psumf (fun i => ptim (sg i) (pmul (A i 0) (pdet n fun x y => A (sk i x) (sk 0 y)))) (n + 1)
theorem ev_psumf (f : Nat → List Int) (n : Nat) (t : Int) : pev (psumf f n) t = isum (fun i => pev (f i) t) n := by
  induction n with
  | zero => rfl
  | succ n ih => rw [psumf, ev_padd, ih]; rfl
theorem psumf_nm (f : Nat → List Int) (n : Nat) : Nm (psumf f n) := by
  cases n with
  | zero => exact Nm.nil
  | succ n => exact padd_nm _ _
theorem psumf_len {f : Nat → List Int} {n l : Nat} (h : ∀ i, i < n → (f i).length ≤ l) : (psumf f n).length ≤ l := by
  induction n with
  | zero => exact Nat.zero_le _
  | succ n ih => exact Nat.le_trans (padd_len _ _) (Nat.max_le.2 ⟨ih fun i hi => h i (by omega), h n (by omega)⟩)
theorem psumf_sz {f : Nat → List Int} {n k : Nat} (h : ∀ i, i < n → szR k (f i)) : szR (k + n) (psumf f n) := by
  induction n with
  | zero => exact fun x hx => by simp [psumf] at hx
  | succ n ih => exact (ih fun i hi => h i (by omega)).padd ((h n (by omega)).mono (by omega))
theorem ev_pdet : ∀ (n : Nat) (A : Px) (t : Int), pev (pdet n A) t = det n (evm A t)
  | 0, _, t => by simp [pdet, det, pev]
  | n + 1, A, t => by
    rw [pdet, ev_psumf, det]
    exact isum_congr fun i _ => by rw [ev_ptim, ev_pmul, ev_pdet n]; rfl
theorem pdet_nm (n : Nat) (A : Px) : Nm (pdet n A) := by
  cases n with
  | zero => rfl
  | succ n => exact psumf_nm _ _
theorem pdet_len {l : Nat} : ∀ {n : Nat} {A : Px}, (∀ i j, (A i j).length ≤ l) → (pdet n A).length ≤ n * l + 1
  | 0, A, _ => by simp [pdet]
  | n + 1, A, h => by
    refine psumf_len fun i _ => Nat.le_trans (ptim_len _ _) (Nat.le_trans (pmul_len _ _) ?_)
    have h1 := h i 0
    have h2 := pdet_len (n := n) (A := fun x y => A (sk i x) (sk 0 y)) fun x y => h _ _
    rw [Nat.succ_mul]; omega
def pdk (k n : Nat) : Nat := n * (k + n + 3) + 1
theorem pdk_succ (k n : Nat) : k + pdk k n + 2 + (n + 1) ≤ pdk k (n + 1) := by unfold pdk; grind
theorem pdk_mono (k : Nat) {m n : Nat} (h : m ≤ n) : pdk k m ≤ pdk k n := Nat.succ_le_succ (Nat.mul_le_mul h (by omega))
theorem pdet_sz {k l : Nat} : ∀ {n : Nat} {A : Px}, (∀ i j, szR k (A i j)) → (∀ i j, (A i j).length ≤ l) → l < 18446744073709551616 → szR (pdk k n) (pdet n A)
  | 0, A, _, _, _ => fun x hx => by
    rw [List.mem_singleton.1 hx]; exact (sz_one 1 (by decide)).mono (by unfold pdk; omega)
  | n + 1, A, h, hl, h64 => by
    refine (psumf_sz (k := k + pdk k n + 2) fun i _ => ?_).mono (pdk_succ k n)
    have h1 := pdet_sz (n := n) (A := fun x y => A (sk i x) (sk 0 y)) (fun x y => h _ _) (fun x y => hl _ _) h64
    have h2 := (h i 0).pmul h1 (Nat.lt_of_le_of_lt (hl i 0) h64)
    exact (ptim_szR h2 (sz_one (sg i) (by unfold sg; split <;> decide))).mono (by omega)
theorem pdet_eq {n : Nat} {A : Px} {l : List Int} (hl : Nm l) (h : ∀ t, pev l t = det n (evm A t)) : l = pdet n A := hl.ext (pdet_nm _ _) fun t => by rw [h, ev_pdet]
def psu (A : Px) (rl cl : List Nat) : Px := fun i j => A (rl.getD i 0) (cl.getD j 0)
theorem ev_mi (A : Px) (s : Nat) (rl cl : List Nat) (t : Int) : pev (pdet s (psu A rl cl)) t = det s (sub' (evm A t) rl cl) := ev_pdet _ _ _
theorem psylv (A : Px) (s x y c k : Nat) (rl cl : List Nat) (hd : 0 < dg (pdet s (psu A rl cl))) (t : Int) :
    pev (pdet s (psu A rl cl)) t * pev (pdet (s + 2) (psu A (y :: x :: rl) (k :: c :: cl))) t =
      pev (pdet (s + 1) (psu A (x :: rl) (c :: cl))) t * pev (pdet (s + 1) (psu A (y :: rl) (k :: cl))) t - pev (pdet (s + 1) (psu A (y :: rl) (c :: cl))) t * pev (pdet (s + 1) (psu A (x :: rl) (k :: cl))) t := by
  have h := cancel hd (u := pmul (pdet s (psu A rl cl)) (pdet (s + 2) (psu A (y :: x :: rl) (k :: c :: cl))))
    (v := psub (pmul (pdet (s + 1) (psu A (x :: rl) (c :: cl))) (pdet (s + 1) (psu A (y :: rl) (k :: cl)))) (pmul (pdet (s + 1) (psu A (y :: rl) (c :: cl))) (pdet (s + 1) (psu A (x :: rl) (k :: cl)))))
    (fun z => by
      by_cases h0 : pev (pdet s (psu A rl cl)) z = 0
      · rw [h0, Int.zero_mul, Int.zero_mul]
      · congr 1
        rw [ev_pmul, ev_psub, ev_pmul, ev_pmul]
        simp only [ev_mi] at h0 ⊢
        exact sylv _ s x y c k rl cl h0) t
  rw [ev_pmul, ev_psub, ev_pmul, ev_pmul] at h
  exact h
def xc (s q i : Nat) : Nat := if i = s then q else if i = q then s else i
theorem xc_xc (s q i : Nat) : xc s q (xc s q i) = i := by unfold xc; split <;> split <;> (try split) <;> omega
theorem xc_lt {s q i N : Nat} (hs : s < N) (hq : q < N) (hi : i < N) : xc s q i < N := by unfold xc; split <;> (try split) <;> omega
theorem xc_ge {s q i : Nat} (hq : s ≤ q) (hi : s ≤ i) : s ≤ xc s q i := by unfold xc; split <;> (try split) <;> omega
theorem xc_low {s q i : Nat} (hq : s ≤ q) (hi : i < s) : xc s q i = i := by unfold xc; rw [if_neg (by omega), if_neg (by omega)]
theorem xc_at (s q : Nat) : xc s q s = q := if_pos rfl
/-- What holds at step s. -/
structure PInv (A : Px) (N : Nat) (x : Px) (last : List Int) (odd : Bool) (s : Nat) (rl cl : List Nat) (p : Nat → Nat) : Prop where
  le : s ≤ N
  into : ∀ i, i < N → p i < N
  onto : ∀ i, i < N → ∃ j, j < N ∧ p j = i
  rows : ∀ j, j < s → rl.getD j 0 = p (s - 1 - j)
  cols : ∀ j, j < s → cl.getD j 0 = s - 1 - j
  lst : last = pdet s (psu A rl cl)
  ne : 0 < dg last
  val : ∀ i k, s ≤ i → i < N → s ≤ k → k < N → x i k = pdet (s + 1) (psu A (p i :: rl) (k :: cl))
  sign : ∀ t, det N (fun i j => evm A t (p i) j) = (if odd then -1 else 1) * det N (evm A t)
theorem PInv.start {A : Px} {N : Nat} (h : ∀ i k, i < N → k < N → Nm (A i k)) : PInv A N A [1] false 0 [] [] (fun i => i) :=
  ⟨Nat.zero_le _, fun _ h => h, fun i h => ⟨i, h, rfl⟩, fun j h => absurd h (Nat.not_lt_zero _), fun j h => absurd h (Nat.not_lt_zero _), rfl, by decide,
    fun i k _ hi _ hk => pdet_eq (h i k hi hk) fun t => by simp [det, isum, sg, psu, evm], fun t => by simp⟩
/-- What is divided: there is an other side. -/
theorem PInv.dv {A : Px} {N : Nat} {x : Px} {last : List Int} {odd : Bool} {s : Nat} {rl cl : List Nat} {p : Nat → Nat} (h : PInv A N x last odd s rl cl p) {a b k : Nat} (ha : s ≤ a) (haN : a < N) (hb : s ≤ b) (hbN : b < N) (hs : s < N) (hk : s ≤ k) (hkN : k < N) (t : Int) :
    pev last t * pev (pdet (s + 2) (psu A (p b :: p a :: rl) (k :: s :: cl))) t = pev (x a s) t * pev (x b k) t - pev (x b s) t * pev (x a k) t := by
  rw [h.lst, h.val a s ha haN (Nat.le_refl _) hs, h.val b k hb hbN hk hkN, h.val b s hb hbN (Nat.le_refl _) hs, h.val a k ha haN hk hkN]
  exact psylv A s (p a) (p b) s k rl cl (by rw [← h.lst]; exact h.ne) t
theorem PInv.step {A : Px} {N : Nat} {x : Px} {last : List Int} {odd : Bool} {s : Nat} {rl cl : List Nat} {p : Nat → Nat} (h : PInv A N x last odd s rl cl p) {q : Nat} (hq : s ≤ q) (hqN : q < N) (h0 : x q s ≠ []) {z : Px}
    (hz : ∀ i k, s + 1 ≤ i → i < N → s + 1 ≤ k → k < N → z i k = pdet (s + 2) (psu A (p (xc s q i) :: p q :: rl) (k :: s :: cl))) :
    PInv A N z (x q s) (if q = s then odd else !odd) (s + 1) (p q :: rl) (s :: cl) (fun i => p (xc s q i)) := by
  have hs : s < N := by omega
  have hval := h.val q s hq hqN (Nat.le_refl _) hs
  refine ⟨by omega, fun i hi => h.into _ (xc_lt hs hqN hi), fun i hi => ?_, fun j hj => ?_, fun j hj => ?_, hval, ?_, hz, fun t => ?_⟩
  · obtain ⟨j, hj, e⟩ := h.onto i hi
    exact ⟨xc s q j, xc_lt hs hqN hj, by rw [xc_xc, e]⟩
  · cases j with
    | zero => rw [List.getD_cons_zero, show s + 1 - 1 - 0 = s by omega, xc_at]
    | succ j => rw [List.getD_cons_succ, h.rows j (by omega), show s + 1 - 1 - (j + 1) = s - 1 - j by omega, xc_low hq (by omega)]
  · cases j with
    | zero => rw [List.getD_cons_zero]; omega
    | succ j => rw [List.getD_cons_succ, h.cols j (by omega)]; omega
  · have hn : Nm (x q s) := by rw [hval]; exact pdet_nm _ _
    rw [dg_nm hn]
    exact List.length_pos_iff.2 h0
  · have hsg := h.sign t
    by_cases e : q = s
    · rw [if_pos e, ← hsg]
      refine det_congr fun i j _ _ => ?_
      have : xc s q i = i := by unfold xc; split <;> (try split) <;> omega
      rw [this]
    · rw [if_neg e]
      have hw := (det_form N).swap (A := fun i j => evm A t (p i) j) (r := s) (s := q) hs hqN (fun e' => e e'.symm)
      rw [hsg] at hw
      have : det N (fun i j => evm A t (p (xc s q i)) j) = - ((if odd = true then -1 else 1) * det N (evm A t)) := by
        rw [← hw]
        refine det_congr fun i j _ _ => ?_
        simp only [rw', xc]
        by_cases h1 : i = q
        · simp [h1, e]
        · by_cases h2 : i = s
          · have : ¬ s = q := fun e' => e e'.symm
            simp [h2, this]
          · simp [h1, h2]
      rw [this]
      cases odd <;> simp
theorem isum_beyond {f : Nat → Int} {m n : Nat} (hm : m ≤ n) (h : ∀ i, m ≤ i → f i = 0) : isum f n = isum f m := by
  induction hm with
  | refl => rfl
  | step hm ih => rw [isum, ih, h _ hm, Int.add_zero]
/-- No pivot: the determinant is 0. -/
theorem PInv.none {A : Px} {N : Nat} {x : Px} {last : List Int} {odd : Bool} {s : Nat} {rl cl : List Nat} {p : Nat → Nat} (h : PInv A N x last odd s rl cl p) (hs : s < N) (h0 : ∀ i, s ≤ i → i < N → x i s = []) : pdet N A = [] := by
  have key : ∀ t, pev last t * pev (pdet N A) t = 0 := fun t => by
    by_cases hl : pev last t = 0
    · rw [hl, Int.zero_mul]
    · rw [ev_pdet, ← det_tr]
      refine Int.mul_eq_zero.2 (.inr ?_)
      let B : Nat → Mx := fun a => sub' (evm A t) (a :: rl) (s :: cl)
      have hrow : ∀ a, a < N → det (s + 1) (B a) = 0 := fun a ha => by
        obtain ⟨i, hi, rfl⟩ := h.onto a ha
        by_cases his : s ≤ i
        · have h1 := h.val i s his hi (Nat.le_refl _) hs
          rw [h0 i his hi] at h1
          have h2 := ev_mi A (s + 1) (p i :: rl) (s :: cl) t
          rw [← h1] at h2
          exact h2.symm
        · refine (det_form (s + 1)).eqRows (r := 0) (s := s - 1 - i + 1) (by omega) (by omega) (by omega) fun j _ => ?_
          show evm A t (p i) _ = evm A t ((p i :: rl).getD (s - 1 - i + 1) 0) _
          rw [List.getD_cons_succ, h.rows _ (by omega), show s - 1 - (s - 1 - i) = i by omega]
      let u : Nat → Int := fun c => if c ≤ s then sg (s - c) * det s (cut (B 0) 0 (s - c)) else 0
      refine kernel_det (i := s) hs (u := u) ?_ fun a ha => ?_
      · show (if s ≤ s then sg (s - s) * det s (cut (B 0) 0 (s - s)) else 0) ≠ 0
        rw [if_pos (Nat.le_refl _), Nat.sub_self, sg_zero, Int.one_mul]
        intro e
        refine hl ?_
        rw [h.lst, ev_mi, ← e]
        exact det_congr fun i j _ _ => by simp [cut, B, sub', sk_zero]
      · have h1 := hrow a ha
        rw [det_row (B a) (i := 0) (by omega)] at h1
        rw [isum_beyond (m := s + 1) (by omega) fun i hi => by show (if i ≤ s then _ else (0 : Int)) * _ = 0; rw [if_neg (by omega), Int.zero_mul], ← isum_rev, ← h1]
        refine isum_congr fun j hj => ?_
        show (if s + 1 - 1 - j ≤ s then sg (s - (s + 1 - 1 - j)) * det s (cut (B 0) 0 (s - (s + 1 - 1 - j))) else 0) * evm A t a (s + 1 - 1 - j) = _
        rw [if_pos (by omega), show s - (s + 1 - 1 - j) = j by omega, Nat.zero_add]
        have e1 : det s (cut (B 0) 0 j) = det s (cut (B a) 0 j) := det_congr fun i k _ _ => by simp [cut, B, sub', sk_zero]
        have e2 : B a 0 j = evm A t a (s + 1 - 1 - j) := by
          show evm A t a ((s :: cl).getD j 0) = _
          congr 1
          cases j with
          | zero => rw [List.getD_cons_zero]; omega
          | succ j => rw [List.getD_cons_succ, h.cols j (by omega)]; omega
        rw [e1, e2]; grind
  rcases mul_zero' key with h1 | h1
  · have := h.ne; omega
  · rw [dg_nm (pdet_nm _ _)] at h1
    exact List.length_eq_zero_iff.1 h1
/-- All steps done: the determinant, but for its sign. -/
theorem PInv.done {A : Px} {N : Nat} {x : Px} {last : List Int} {odd : Bool} {rl cl : List Nat} {p : Nat → Nat} (h : PInv A N x last odd N rl cl p) (t : Int) : pev (pdet N A) t = if odd then - pev last t else pev last t := by
  have e : pev last t = det N (fun i j => evm A t (p i) j) := by
    rw [h.lst, ev_mi, ← det_rev N (fun i j => evm A t (p i) j)]
    refine det_congr fun i j hi hj => ?_
    simp only [sub', rev]
    rw [h.rows i hi, h.cols j hj]
  rw [e, h.sign t, ev_pdet]
  cases odd <;> simp
end Go.Proofs.Ytfkeohlpcjpkbaa

namespace Go.Proofs.Ytfkeohlpcjpkbaa
open Go.RowKit
theorem info_pp : (Try.prog.info? 62).map (fun i => (i.zero, i.size, i.bytes)) = some (some (.slice none 0 0), 1, 24) := by kernel_rfl
theorem info_p : (Try.prog.info? 28).map (fun i => (i.zero, i.size, i.bytes)) = some (some (.slice none 0 0), 1, 24) := by kernel_rfl
instance : TSl Try.prog 58 62 1 := ⟨Try.underlying58, by kernel_rfl⟩
instance : TOne Try.prog 62 := ⟨⟨_, Try.underlying62, trivial⟩, by kernel_rfl⟩
instance : TEl Try.prog 62 1 24 := tel info_pp rfl (by decide)
theorem tz_pp : TZero Try.prog 62 (.one (.slice none 0 0)) := tzero info_pp fun _ _ => ⟨rfl, rfl⟩
theorem tz_p : TZero Try.prog 28 (vd []) := tzero info_p fun S w => rd_nil S w 2 _
/-- Rows of polynomials of one's own. -/
def famP (vs : Nat → Value) (R C : Nat) (x : Px) : Own := ⟨R, vs, 1, fun _ => C, fun i k => vd (x i k)⟩
theorem load_famP {vs : Nat → Value} {R C : Nat} {x : Px} {os : List Own} {fs : List Fact} {K : Cont} (pos i j : Nat) (h : nthOwn os pos = some (famP vs R C x)) (hi : i < R) (hj : j < C) (a : List Int) (ha : x i j = a)
    (k : ∀ u, K u os ((u, vd a) :: fs)) : LoadK Try.prog 28 (eptr (vs i) (j * 1)) os fs K := by
  subst ha
  exact load_own (o := famP vs R C x) pos i h hi j 0 rfl hj (Part.refl _) (load_P _) k
theorem index_famP {kk : IntKind} {z : Int} {vs : Nat → Value} {R C : Nat} {x : Px} {os : List Own} {fs : List Fact} {K : Cont} (pos i : Nat) (h : nthOwn os pos = some (famP vs R C x)) (hi : i < R) (hs : isSl (vs i)) (j : Nat) (hz : z = (j : Int)) (hj : j < C)
    (k : K (eptr (vs i) (j * 1)) os fs) : IndexAddrK Try.prog 62 (vs i) (.int kk z) os fs K :=
  index_own (o := famP vs R C x) pos i h hi (fun r => by obtain ⟨a, n, c, e⟩ := hs; show vs i ≠ _; rw [e]; simp) j hz hj k
end Go.Proofs.Ytfkeohlpcjpkbaa

namespace Go.Proofs.Ytfkeohlpcjpkbaa
open Go.RowKit
/-- A row of Sylvester's matrix: F's coefficients from the highest on, at places a, a + 1 .. -/
def syRow (F : List (List Int)) (d a : Nat) (y : Nat) : List Int := if a ≤ y ∧ y < a + (d + 1) then F.getD (d - (y - a)) [] else []
def syX (A B : List (List Int)) (m n : Nat) : Px := fun i y => if i < n then syRow A m i y else syRow B n (i - n) y
def syPart (F : List (List Int)) (d a k : Nat) (y : Nat) : List Int := if a ≤ y ∧ y < a + k then F.getD (d - (y - a)) [] else []
theorem syPart_s (F : List (List Int)) {d a k : Nat} (y : Nat) : upd (fun y => vd (syPart F d a k y)) (a + k) (vd (F.getD (d - k) [])) y = vd (syPart F d a (k + 1) y) := by
  unfold upd syPart
  by_cases h : y = a + k
  · subst h
    rw [if_pos rfl, if_pos (by omega), show a + k - a = k by omega]
  · rw [if_neg h]
    show vd (if a ≤ y ∧ y < a + k then F.getD (d - (y - a)) [] else []) = _
    by_cases h2 : a ≤ y ∧ y < a + k
    · rw [if_pos h2, if_pos (by omega)]
    · rw [if_neg h2, if_neg (by omega)]
theorem gsylvester_meets (va vb : Value) (A B : List (List Int)) (m n : Nat) (hA : A.length = m + 1) (hB : B.length = n + 1) (hm : m ≤ 1048576) (hn : n ≤ 1048576) :
    Meets Try.prog 44 [va, vb, .int .i64 (m : Nat), .int .i64 (n : Nat)] [(va, wd A), (vb, wd B)] (fun r os fs => isSl r ∧ ∃ vs, (∀ i, i < m + n → isSl (vs i)) ∧ os = [famP vs (m + n) (m + n) (syX A B m n), outer r (m + n) vs] ∧ fs = []) := by
  refine meets_of_vc Try.func44 (by kernel_rfl) rfl (by kernel_rfl) (Nat.le_of_ble_eq_true rfl) ?_
  refine ar (n := ((m + n : Nat) : Int)) (by simp [arZ]) (by first | exact ⟨by omega, by omega⟩ | (simp only [inK]; omega)) ?_
  have tz := tz_pp
  have tzp := tz_p
  refine make_rule (t := 58) (d := .one (.slice none 0 0)) (m + n) rfl rfl (by omega) (by omega) fun v hv => ?_
  refine len_own 0 rfl hv fun _ => ?_
  refine loop_rule (X := Nat × (Nat → Value)) (fun x => ([(0, va), (1, vb), (2, .int .i64 (m : Nat)), (3, .int .i64 (n : Nat)), (9, v), (20, .int .i64 ((m + n : Nat) : Int)), (21, .int .i64 (x.1 : Nat))], [famP x.2 x.1 (m + n) (syX A B m n), outer v (m + n) x.2], [(va, wd A), (vb, wd B)]))
    (fun x => x.1 ≤ m + n ∧ ∀ i, i < x.1 → isSl (x.2 i)) (fun x => m + n - x.1) rfl ?_ ?_
  · exact again (0, fun _ => .slice none 0 0) ⟨Nat.zero_le _, fun i hi => absurd hi (Nat.not_lt_zero _)⟩ trivial (by repeat (first | exact trivial | refine ⟨rfl, ?_⟩ | refine ⟨i64_eq (by first | omega | (simp only; omega)), ?_⟩ | refine ⟨u64_eq (by first | omega | (simp only; omega)), ?_⟩)) (Seals.none _ rfl)
  · rintro ⟨i, vs⟩ ⟨h1, h2⟩
    simp only at h1 h2 ⊢
    refine cmp_split _ rfl (fun hi => ?_) (fun hi => ?_)
    · have hilt : i < m + n := by omega
      refine ar (n := ((m + n : Nat) : Int)) (by simp [arZ]) (by first | exact ⟨by omega, by omega⟩ | (simp only [inK]; omega)) ?_
      refine make_rule (t := 62) (d := vd []) (m + n) rfl rfl (by omega) (by omega) fun u hu => ?_
      refine index_elem 2 rfl hv i rfl hilt ?_
      refine StoreK.post (store_elem (d := .one u) 2 rfl i hilt rfl (by kernel_rfl) (Reads.one hu.one) ⟨_, _, Seals.own_cong (os := [_, _, _]) 2 (fun y => .one (if y = i then u else vs y)) rfl rfl (fun y _ => by simp only [upd]; split <;> rfl), ?_⟩)
      by_cases hin : i < n
      · refine cmp_false rfl (by omega) ?_
        have hrow : ∀ y, syX A B m n i y = syPart A m i (m + 1) y := fun y => by unfold syX; rw [if_pos hin]; rfl
        refine ar (n := ((m + 1 : Nat) : Int)) (by simp [arZ]) (by first | exact ⟨by omega, by omega⟩ | (simp only [inK]; omega)) ?_
        refine loop_rule (X := Nat) (fun k => ([(0, va), (1, vb), (2, .int .i64 (m : Nat)), (3, .int .i64 (n : Nat)), (9, v), (10, .int .i64 (i : Nat)), (11, va), (12, .int .i64 (m : Nat)), (13, .int .i64 ((i : Nat) : Int)), (20, .int .i64 ((m + n : Nat) : Int)), (21, .int .i64 (i : Nat)), (43, .int .i64 ((m + 1 : Nat) : Int)), (44, .int .i64 (k : Nat))],
          [own1 u 1 (m + n) (fun y => vd (syPart A m (i) k y)), famP vs i (m + n) (syX A B m n), outer v (m + n) fun y => if y = i then u else vs y], [(va, wd A), (vb, wd B)])) (fun k => k ≤ m + 1) (fun k => m + 1 - k) rfl ?_ ?_
        · exact again 0 (Nat.zero_le _) trivial (by repeat (first | exact trivial | refine ⟨rfl, ?_⟩ | refine ⟨i64_eq (by first | omega | (simp only; omega)), ?_⟩ | refine ⟨u64_eq (by first | omega | (simp only; omega)), ?_⟩)) (Seals.trans (Seals.own_cong (os := [_, _, _]) 0 (fun y => vd (syPart A m (i) 0 y)) rfl rfl fun y _ => by unfold syPart; rw [if_neg (by omega)]) (Seals.sub (by repeat (first | exact Sub.nil _ | refine Sub.cons (by repeat (first | exact List.Mem.head _ | apply List.Mem.tail)) ?_))))
        · rintro k hk
          refine cmp_split _ rfl (fun hc => ?_) (fun hc => ?_)
          · refine draw_rule [0, 1, 2, 3, 4, 5, 6, 7, 8, 9, 10, 11, 12, 13, 14] [0, 1, 2, 3, 4, 5, 6, 7, 8, 9, 10, 11, 12, 13, 14] (by kernel_rfl) (by kernel_rfl) ?_
            refine index_elem 2 rfl hv i rfl hilt ?_
            refine load_one_elem 2 rfl i hilt (u := u) (by simp) ?_
            refine ar (n := ((i + k : Nat) : Int)) (by simp only [arZ, Option.some.injEq]; omega) (by first | exact ⟨by omega, by omega⟩ | (simp only [inK]; omega)) ?_
            refine ar (n := ((m - k : Nat) : Int)) (by simp only [arZ, Option.some.injEq]; omega) (by first | exact ⟨by omega, by omega⟩ | (simp only [inK]; omega)) ?_
            refine index_wd (by repeat (first | exact List.Mem.head _ | apply List.Mem.tail)) (m - k) rfl (by omega) fun b1 => ?_
            refine load_fact (d := vd ((A).getD (m - k) [])) (by repeat (first | exact List.Mem.head _ | apply List.Mem.tail)) (load_V _) fun y1 => ?_
            refine index_elem 0 rfl hu (i + k) rfl (by omega) ?_
            refine StoreK.post (store_elem (d := vd ((A).getD (m - k) [])) 0 rfl (i + k) (by omega) rfl (by kernel_rfl) (Reads.fact (by repeat (first | exact List.Mem.head _ | apply List.Mem.tail))) ⟨_, _, Seals.own_cong (os := [_, _, _]) 0 (fun y => vd (syPart A m (i) (k + 1) y)) rfl rfl (fun y _ => syPart_s A y), ?_⟩)
            refine ar rfl (by first | exact ⟨by omega, by omega⟩ | (simp only [inK]; omega)) ?_
            exact again (k + 1) (by omega) (by simp only; omega) (by repeat (first | exact trivial | refine ⟨rfl, ?_⟩ | refine ⟨i64_eq (by first | omega | (simp only; omega)), ?_⟩ | refine ⟨u64_eq (by first | omega | (simp only; omega)), ?_⟩)) (Seals.sub (by repeat (first | exact Sub.nil _ | refine Sub.cons (by repeat (first | exact List.Mem.head _ | apply List.Mem.tail)) ?_)))
          · have hkd : k = m + 1 := by omega
            subst hkd
            refine ar rfl (by first | exact ⟨by omega, by omega⟩ | (simp only [inK]; omega)) ?_
            refine again (i + 1, fun y => if y = i then u else vs y) ⟨by simp only; omega, fun y hy => ?_⟩ (by simp only; omega) (by repeat (first | exact trivial | refine ⟨rfl, ?_⟩ | refine ⟨i64_eq (by first | omega | (simp only; omega)), ?_⟩ | refine ⟨u64_eq (by first | omega | (simp only; omega)), ?_⟩)) ?_
            · simp only at hy ⊢
              by_cases e : y = i
              · rw [if_pos e]; exact hu
              · rw [if_neg e]; exact h2 y (by omega)
            · refine Seals.trans (Seals.join (F' := famP (fun y => if y = i then u else vs y) (i + 1) (m + n) (syX A B m n)) rfl rfl rfl (fun y hy => ⟨?_, rfl, fun _ _ => rfl⟩) ⟨?_, rfl, fun y hy => ?_⟩) (Seals.sub (by repeat (first | exact Sub.nil _ | refine Sub.cons (by repeat (first | exact List.Mem.head _ | apply List.Mem.tail)) ?_)))
              · have hy' : y < i := hy
                show (if y = i then u else vs y) = vs y
                rw [if_neg (by omega)]
              · show (if i = i then u else vs i) = u
                rw [if_pos rfl]
              · exact congrArg vd (hrow y)
      · refine cmp_true rfl (by omega) ?_
        refine ar (n := ((i - n : Nat) : Int)) (by simp only [arZ, Option.some.injEq]; omega) (by first | exact ⟨by omega, by omega⟩ | (simp only [inK]; omega)) ?_
        have hrow : ∀ y, syX A B m n i y = syPart B n (i - n) (n + 1) y := fun y => by unfold syX; rw [if_neg hin]; rfl
        refine ar (n := ((n + 1 : Nat) : Int)) (by simp [arZ]) (by first | exact ⟨by omega, by omega⟩ | (simp only [inK]; omega)) ?_
        refine loop_rule (X := Nat) (fun k => ([(0, va), (1, vb), (2, .int .i64 (m : Nat)), (3, .int .i64 (n : Nat)), (9, v), (10, .int .i64 (i : Nat)), (11, vb), (12, .int .i64 (n : Nat)), (13, .int .i64 (((i - n) : Nat) : Int)), (20, .int .i64 ((m + n : Nat) : Int)), (21, .int .i64 (i : Nat)), (43, .int .i64 ((n + 1 : Nat) : Int)), (44, .int .i64 (k : Nat))],
          [own1 u 1 (m + n) (fun y => vd (syPart B n ((i - n)) k y)), famP vs i (m + n) (syX A B m n), outer v (m + n) fun y => if y = i then u else vs y], [(va, wd A), (vb, wd B)])) (fun k => k ≤ n + 1) (fun k => n + 1 - k) rfl ?_ ?_
        · exact again 0 (Nat.zero_le _) trivial (by repeat (first | exact trivial | refine ⟨rfl, ?_⟩ | refine ⟨i64_eq (by first | omega | (simp only; omega)), ?_⟩ | refine ⟨u64_eq (by first | omega | (simp only; omega)), ?_⟩)) (Seals.trans (Seals.own_cong (os := [_, _, _]) 0 (fun y => vd (syPart B n ((i - n)) 0 y)) rfl rfl fun y _ => by unfold syPart; rw [if_neg (by omega)]) (Seals.sub (by repeat (first | exact Sub.nil _ | refine Sub.cons (by repeat (first | exact List.Mem.head _ | apply List.Mem.tail)) ?_))))
        · rintro k hk
          refine cmp_split _ rfl (fun hc => ?_) (fun hc => ?_)
          · refine draw_rule [0, 1, 2, 3, 4, 5, 6, 7, 8, 9, 10, 11, 12, 13, 14] [0, 1, 2, 3, 4, 5, 6, 7, 8, 9, 10, 11, 12, 13, 14] (by kernel_rfl) (by kernel_rfl) ?_
            refine index_elem 2 rfl hv i rfl hilt ?_
            refine load_one_elem 2 rfl i hilt (u := u) (by simp) ?_
            refine ar (n := (((i - n) + k : Nat) : Int)) (by simp only [arZ, Option.some.injEq]; omega) (by first | exact ⟨by omega, by omega⟩ | (simp only [inK]; omega)) ?_
            refine ar (n := ((n - k : Nat) : Int)) (by simp only [arZ, Option.some.injEq]; omega) (by first | exact ⟨by omega, by omega⟩ | (simp only [inK]; omega)) ?_
            refine index_wd (by repeat (first | exact List.Mem.head _ | apply List.Mem.tail)) (n - k) rfl (by omega) fun b1 => ?_
            refine load_fact (d := vd ((B).getD (n - k) [])) (by repeat (first | exact List.Mem.head _ | apply List.Mem.tail)) (load_V _) fun y1 => ?_
            refine index_elem 0 rfl hu ((i - n) + k) rfl (by omega) ?_
            refine StoreK.post (store_elem (d := vd ((B).getD (n - k) [])) 0 rfl ((i - n) + k) (by omega) rfl (by kernel_rfl) (Reads.fact (by repeat (first | exact List.Mem.head _ | apply List.Mem.tail))) ⟨_, _, Seals.own_cong (os := [_, _, _]) 0 (fun y => vd (syPart B n ((i - n)) (k + 1) y)) rfl rfl (fun y _ => syPart_s B y), ?_⟩)
            refine ar rfl (by first | exact ⟨by omega, by omega⟩ | (simp only [inK]; omega)) ?_
            exact again (k + 1) (by omega) (by simp only; omega) (by repeat (first | exact trivial | refine ⟨rfl, ?_⟩ | refine ⟨i64_eq (by first | omega | (simp only; omega)), ?_⟩ | refine ⟨u64_eq (by first | omega | (simp only; omega)), ?_⟩)) (Seals.sub (by repeat (first | exact Sub.nil _ | refine Sub.cons (by repeat (first | exact List.Mem.head _ | apply List.Mem.tail)) ?_)))
          · have hkd : k = n + 1 := by omega
            subst hkd
            refine ar rfl (by first | exact ⟨by omega, by omega⟩ | (simp only [inK]; omega)) ?_
            refine again (i + 1, fun y => if y = i then u else vs y) ⟨by simp only; omega, fun y hy => ?_⟩ (by simp only; omega) (by repeat (first | exact trivial | refine ⟨rfl, ?_⟩ | refine ⟨i64_eq (by first | omega | (simp only; omega)), ?_⟩ | refine ⟨u64_eq (by first | omega | (simp only; omega)), ?_⟩)) ?_
            · simp only at hy ⊢
              by_cases e : y = i
              · rw [if_pos e]; exact hu
              · rw [if_neg e]; exact h2 y (by omega)
            · refine Seals.trans (Seals.join (F' := famP (fun y => if y = i then u else vs y) (i + 1) (m + n) (syX A B m n)) rfl rfl rfl (fun y hy => ⟨?_, rfl, fun _ _ => rfl⟩) ⟨?_, rfl, fun y hy => ?_⟩) (Seals.sub (by repeat (first | exact Sub.nil _ | refine Sub.cons (by repeat (first | exact List.Mem.head _ | apply List.Mem.tail)) ?_)))
              · have hy' : y < i := hy
                show (if y = i then u else vs y) = vs y
                rw [if_neg (by omega)]
              · show (if i = i then u else vs i) = u
                rw [if_pos rfl]
              · exact congrArg vd (hrow y)
    · have hiR : i = m + n := by omega
      subst hiR
      exact fin ⟨hv, vs, h2, rfl, rfl⟩ (Seals.sub (fun F hF => nomatch hF))
end Go.Proofs.Ytfkeohlpcjpkbaa

namespace Go.Proofs.Ytfkeohlpcjpkbaa
/-- A grid's value. -/
def gev (G : List (List Int)) (x y : Int) : Int := pev (gpy G y) x
theorem gpy_co (G : List (List Int)) (y : Int) (i : Nat) : (gpy G y).getD i 0 = pev (G.getD i []) y := by
  unfold gpy
  rw [co_nrm]
  by_cases h : i < G.length
  · simp [List.getD_eq_getElem?_getD, h]
  · rw [getD_end (l := G.map fun r => pev r y) (by rw [List.length_map]; omega), getD_end (l := G) (by omega)]; rfl
theorem Gn.ev_ext {G H : List (List Int)} (hG : Gn G) (hH : Gn H) (h : ∀ x y, gev G x y = gev H x y) : G = H :=
  hG.ext hH fun i j => by
    have h1 : ∀ y, pev (G.getD i []) y = pev (H.getD i []) y := fun y => by
      rw [← gpy_co, ← gpy_co]
      exact co_ext (fun x => h x y) i
    exact co_ext h1 j
theorem gev_co {G H : List (List Int)} (h : ∀ i j, gv G i j = gv H i j) (x y : Int) : gev G x y = gev H x y := by
  unfold gev
  refine same (fun i => ?_) x
  rw [gpy_co, gpy_co]
  exact same (fun j => h i j) y
where
  same {l m : List Int} (h : ∀ i, l.getD i 0 = m.getD i 0) (x : Int) : pev l x = pev m x := by
    rw [← ev_nrm l, ← ev_nrm m, nrm_ext h]
theorem ev_xsum (n : Nat) (f : Nat → Int) (x : Int) : pev (lst n f) x = isum (fun i => x ^ i * f i) n := by
  induction n with
  | zero => rfl
  | succ n ih =>
    have h : pev (lst (n + 1) f) x = pev (lst n f) x + x ^ n * f n := by
      have e : lst (n + 1) f = lst n f ++ [f n] := by simp [lst, List.range_succ]
      have ea : ∀ (l m : List Int), pev (l ++ m) x = pev l x + x ^ l.length * pev m x := fun l m => by
        induction l with
        | nil => simp [pev]
        | cons c l ih => simp only [List.cons_append, pev, List.length_cons, Int.pow_succ, ih]; grind
      rw [e, ea, lst_len]
      simp [pev]
    rw [h, ih]
    rfl
/-- A grid's value as a sum over its entries. -/
theorem gev_sum {G : List (List Int)} {n : Nat} (h1 : G.length ≤ n) (h2 : ∀ i, (G.getD i []).length ≤ n) (x y : Int) :
    gev G x y = isum (fun i => x ^ i * isum (fun j => y ^ j * gv G i j) n) n := by
  have e1 : gev G x y = pev (lst n fun i => pev (G.getD i []) y) x := by
    unfold gev
    refine gev_co.same (fun i => ?_) x
    rw [gpy_co]
    by_cases hi : i < n
    · rw [lst_get hi]
    · rw [getD_end (l := lst n _) (by rw [lst_len]; omega), getD_end (l := G) (by omega)]; rfl
  rw [e1, ev_xsum]
  congr 1
  funext i
  rw [← ev_lst (h2 i) y, ev_xsum]
  rfl
theorem grid_bound (G : List (List Int)) : ∃ n, G.length ≤ n ∧ ∀ i, (G.getD i []).length ≤ n := by
  induction G with
  | nil => exact ⟨0, Nat.le_refl _, fun i => by simp⟩
  | cons r G ih =>
    obtain ⟨n, h1, h2⟩ := ih
    refine ⟨max (n + 1) r.length, by simp only [List.length_cons]; omega, fun i => ?_⟩
    cases i with
    | zero => simp only [List.getD_cons_zero]; omega
    | succ i => have := h2 i; simp only [List.getD_cons_succ]; omega
end Go.Proofs.Ytfkeohlpcjpkbaa

namespace Go.Proofs.Ytfkeohlpcjpkbaa
/-- An entry's share of a value. -/
def etm (x y : Int) (t : Ent3) : Int := x ^ t.1 * (y ^ t.2.1 * jv t.2.2)
theorem esum_app (L M : List Ent3) (φ : Ent3 → Int) : esum (L ++ M) φ = esum L φ + esum M φ := by simp [esum]
theorem esum_tr (i : Nat) (r : Row) (n : Nat) (x y : Int) : esum (tr i r n) (etm x y) = x ^ i * isum (fun j => y ^ j * jv (r.getD j z0)) n := by
  induction n with
  | zero => simp [tr, esum, isum]
  | succ n ih =>
    simp only [tr, esum_app, isum, Int.mul_add, ih]
    split
    · rename_i h; rw [h, esum_nil, Int.mul_zero, Int.mul_zero]
    · simp [esum, etm]
theorem esum_tg (g : List Row) (n : Nat) (x y : Int) : esum (tg g n) (etm x y) = isum (fun i => x ^ i * pev (vv (g.getD i [])) y) n := by
  induction n with
  | zero => rfl
  | succ n ih =>
    simp only [tg, esum_app, isum, ih, esum_tr]
    congr 2
    rw [← ev_lst (l := vv (g.getD n [])) (Nat.le_refl _) y, ev_xsum, vv_len]
    refine isum_same fun j hj => ?_
    rw [vv_get _ _ hj]
where
  isum_same {f h : Nat → Int} : ∀ {n : Nat}, (∀ j, j < n → f j = h j) → isum f n = isum h n
    | 0, _ => rfl
    | n + 1, e => by simp only [isum]; rw [isum_same fun j hj => e j (by omega), e n (by omega)]
theorem gev_tg (g : List Row) (x y : Int) : gev (ww g) x y = esum (tg g g.length) (etm x y) := by
  rw [esum_tg]
  unfold gev
  have : pev (gpy (ww g) y) x = pev (lst g.length fun i => pev (vv (g.getD i [])) y) x := gev_co.same (fun i => by
    rw [gpy_co, ww_get]
    by_cases hi : i < g.length
    · rw [lst_get hi]
    · rw [getD_end (l := lst g.length _) (by rw [lst_len]; omega), getD_end (l := g) (by omega)]; rfl) x
  rw [this, ev_xsum]
theorem isum_zero' (n : Nat) : isum (fun _ => 0) n = 0 := by
  induction n with
  | zero => rfl
  | succ n ih => simp only [isum, ih]; rfl
theorem isum_add' (f h : Nat → Int) (n : Nat) : isum (fun i => f i + h i) n = isum f n + isum h n := by
  induction n with
  | zero => rfl
  | succ n ih => simp only [isum, ih]; omega
theorem isum_onep {n a : Nat} (ha : a < n) (f : Nat → Int) (hf : ∀ i, i ≠ a → f i = 0) : isum f n = f a := by
  induction n with
  | zero => omega
  | succ n ih =>
    simp only [isum]
    by_cases e : a = n
    · subst e
      rw [esum_tg.isum_same (h := fun _ => 0) fun i hi => hf i (by omega), isum_zero', Int.zero_add]
    · rw [ih (by omega), hf n (fun h => e h.symm), Int.add_zero]
/-- The value of a function of entries. -/
def fev (F : Nat → Nat → Int) (n : Nat) (x y : Int) : Int := isum (fun i => x ^ i * isum (fun j => y ^ j * F i j) n) n
theorem fev_add (F H : Nat → Nat → Int) (n : Nat) (x y : Int) : fev (fun i j => F i j + H i j) n x y = fev F n x y + fev H n x y := by
  unfold fev
  rw [← isum_add']
  congr 1
  funext i
  rw [← Int.mul_add, ← isum_add']
  congr 2
  funext j
  rw [Int.mul_add]
theorem fev_zero (n : Nat) (x y : Int) : fev (fun _ _ => 0) n x y = 0 := by
  unfold fev
  simp only [Int.mul_zero, isum_zero']
theorem fev_esum (L : List Ent3) (f : Ent3 → Nat → Nat → Int) (n : Nat) (x y : Int) : fev (fun i j => esum L fun t => f t i j) n x y = esum L fun t => fev (f t) n x y := by
  induction L with
  | nil => exact fev_zero n x y
  | cons t L ih =>
    have e : ∀ φ : Ent3 → Int, esum (t :: L) φ = φ t + esum L φ := fun φ => by simp [esum]
    simp only [e]
    rw [fev_add, ih]
theorem fev_con {s t : Ent3} {n : Nat} (h1 : s.1 + t.1 < n) (h2 : s.2.1 + t.2.1 < n) (x y : Int) : fev (con s t) n x y = etm x y s * etm x y t := by
  unfold fev
  rw [isum_onep h1 _ fun i hi => by
    have : (fun j => y ^ j * con s t i j) = fun _ => 0 := by
      funext j
      unfold con
      rw [if_neg fun e => hi e.1.symm, Int.mul_zero]
    rw [this, isum_zero', Int.mul_zero]]
  rw [isum_onep h2 _ fun j hj => by
    unfold con
    rw [if_neg fun e => hj e.2.symm, Int.mul_zero]]
  unfold con etm
  rw [if_pos ⟨rfl, rfl⟩, Int.pow_add, Int.pow_add]
  grind
theorem esum_mulr (L : List Ent3) (φ : Ent3 → Int) (c : Int) : esum L (fun t => φ t * c) = esum L φ * c := by
  induction L with
  | nil => simp [esum]
  | cons t L ih =>
    have e : ∀ φ : Ent3 → Int, esum (t :: L) φ = φ t + esum L φ := fun φ => by simp [esum]
    rw [e, e, ih, Int.add_mul]
theorem esum_mull (L : List Ent3) (φ : Ent3 → Int) (c : Int) : esum L (fun t => c * φ t) = c * esum L φ := by
  rw [Int.mul_comm c, ← esum_mulr]
  congr 1
  funext t
  rw [Int.mul_comm]
theorem esum_same {L : List Ent3} {φ ψ : Ent3 → Int} (h : ∀ t, t ∈ L → φ t = ψ t) : esum L φ = esum L ψ := by
  unfold esum
  rw [List.map_congr_left h]
theorem fev_pairs {A B : List Ent3} {n : Nat} (h : ∀ s t, s ∈ A → t ∈ B → s.1 + t.1 < n ∧ s.2.1 + t.2.1 < n) (x y : Int) : fev (pairs A B) n x y = esum A (etm x y) * esum B (etm x y) := by
  have e : fev (pairs A B) n x y = esum A fun s => fev (fun i j => esum B fun t => con s t i j) n x y := fev_esum A (fun s i j => esum B fun t => con s t i j) n x y
  rw [e, ← esum_mulr]
  refine esum_same fun s hs => ?_
  rw [fev_esum B (fun t => con s t), ← esum_mull]
  exact esum_same fun t ht => fev_con (h s t hs ht).1 (h s t hs ht).2 x y
theorem tg_deg {g : List Row} {t : Ent3} (h : t ∈ tg g g.length) : t.1 < gdx (ww g) ∧ t.2.1 < gdy (ww g) := by
  obtain ⟨_, _, h3, h4⟩ := tg_mem h
  refine Classical.byContradiction fun hn => h4 ?_
  have := gv_zero (G := ww g) hn
  rw [gv_ww, ← h3] at this
  exact this
theorem gev_nil (x y : Int) : gev [] x y = 0 := rfl
theorem gev_zero {G : List (List Int)} (h : gdx G = 0) (x y : Int) : gev G x y = 0 := by
  rw [gev_co (H := []) (fun i j => by rw [gdx_zero.1 h]; simp [gv]) x y, gev_nil]
theorem gev_gmuE (g h : List Row) (x y : Int) : gev (gmuE g h) x y = gev (ww g) x y * gev (ww h) x y := by
  unfold gmuE
  by_cases z1 : gdx (ww g) = 0
  · rw [if_pos (.inl z1), gev_zero z1, gev_nil, Int.zero_mul]
  by_cases z2 : gdx (ww h) = 0
  · rw [if_pos (.inr z2), gev_zero z2, gev_nil, Int.mul_zero]
  rw [if_neg fun e => e.elim z1 z2]
  have y1 := gdy_pos z1
  have y2 := gdy_pos z2
  have hv : ∀ i j, gv (gof (pairs (tg g g.length) (tg h h.length)) (gdx (ww g) + gdx (ww h) - 1) (gdy (ww g) + gdy (ww h) - 1)) i j = pairs (tg g g.length) (tg h h.length) i j := fun i j => by
    rw [gof_gv]
    split
    · rfl
    · rename_i hn
      have e : ∀ s, s ∈ tg g g.length → (esum (tg h h.length) fun t => con s t i j) = 0 := fun s hs => by
        have e2 : (esum (tg h h.length) fun t => con s t i j) = esum (tg h h.length) fun _ => 0 := esum_same fun t ht => by
          have h1 := tg_deg hs
          have h2 := tg_deg ht
          unfold con
          rw [if_neg fun e => hn ⟨by omega, by omega⟩]
        rw [e2, esum_zero]
      show 0 = esum _ _
      rw [esum_same e, esum_zero]
  obtain ⟨n1, b1, b2⟩ := grid_bound (gof (pairs (tg g g.length) (tg h h.length)) (gdx (ww g) + gdx (ww h) - 1) (gdy (ww g) + gdy (ww h) - 1))
  have hb := fun i => Nat.le_trans (b2 i) (Nat.le_add_right n1 (gdx (ww g) + gdx (ww h) + gdy (ww g) + gdy (ww h)))
  rw [gev_sum (n := n1 + (gdx (ww g) + gdx (ww h) + gdy (ww g) + gdy (ww h))) (by omega) hb]
  simp only [hv]
  rw [gev_tg, gev_tg]
  exact fev_pairs (fun s t hs ht => by
    have h1 := tg_deg hs
    have h2 := tg_deg ht
    omega) x y
where
  esum_zero {L : List Ent3} : (esum L fun _ => 0) = 0 := by
    induction L with
    | nil => rfl
    | cons t L ih =>
      have e : ∀ φ : Ent3 → Int, esum (t :: L) φ = φ t + esum L φ := fun φ => by simp [esum]
      rw [e, ih]; rfl
end Go.Proofs.Ytfkeohlpcjpkbaa

namespace Go.Proofs.Ytfkeohlpcjpkbaa
end Go.Proofs.Ytfkeohlpcjpkbaa

namespace Go.Proofs.Ytfkeohlpcjpkbaa
/-- The degree in y, at least 0. -/
def dy (G : List (List Int)) : Nat := (gtu G).length - 1
/-- The resultant in y. -/
def gel (G H : List (List Int)) : List Int :=
  if gtu G = [] ∨ gtu H = [] then [] else pdet (dy G + dy H) (syX (gtu G) (gtu H) (dy G) (dy H))
/-- A grid at x = t. -/
def gax (G : List (List Int)) (t : Int) : List Int := gpy (gtu G) t
theorem gel_none {G H : List (List Int)} (h : gtu G = [] ∨ gtu H = []) : gel G H = [] := if_pos h
theorem dy_len {G : List (List Int)} (h : gtu G ≠ []) : (gtu G).length = dy G + 1 := by
  have := List.length_pos_iff.2 h
  unfold dy; omega
section
variable {C D G H K : List (List Int)}
end
theorem gdy_some {G : List (List Int)} {n : Nat} (h : gdy G = n + 1) : ∃ i, gv G i n ≠ 0 := by
  have key : ∀ m, gdyN G m = n + 1 → ∃ i, gv G i n ≠ 0 := fun m => by
    induction m with
    | zero => intro h; simp [gdyN] at h
    | succ m ih =>
      intro h
      have h' : max (gdyN G m) (dg (G.getD m [])) = n + 1 := h
      by_cases e : gdyN G m = n + 1
      · exact ih e
      · have hd : dg (G.getD m []) = n + 1 := by omega
        have := ld_ne (l := G.getD m []) (by omega)
        unfold ld at this
        rw [hd] at this
        exact ⟨m, this⟩
  exact key _ h
theorem gtu_len (G : List (List Int)) : (gtu G).length = gdy G := by
  have h1 : (gtu G).length ≤ gdy G := by
    unfold gtu gof
    exact Nat.le_trans (gtr_len _) (by simp)
  refine Nat.le_antisymm h1 (Nat.le_of_not_lt fun hlt => ?_)
  obtain ⟨n, hn⟩ : ∃ n, gdy G = n + 1 := ⟨gdy G - 1, by omega⟩
  obtain ⟨i, hi⟩ := gdy_some hn
  rw [← gtu_gv] at hi
  refine hi ?_
  unfold gv
  rw [getD_end (l := gtu G) (by omega)]; rfl
end Go.Proofs.Ytfkeohlpcjpkbaa

namespace Go.Proofs.Ytfkeohlpcjpkbaa
open Go.RowKit
theorem store_px {u : Value} {vs : Nat → Value} {R C : Nat} {x : Px} {os : List Own} {fs : List Fact} {K : Cont} (pos i j : Nat) (h : nthOwn os pos = some (famP vs R C x)) (hi : i < R) (hj : j < C) (w : List Int) (x' : Px)
    (hu : Reads os fs u (vd w)) (hx : ∀ a b, a < R → b < C → x' a b = if a = i ∧ b = j then w else x a b) (k : K undef (setOwn os pos (famP vs R C x')) fs) :
    StoreK Try.prog 28 (eptr (vs i) (j * 1)) u os fs K :=
  store_fam (d := vd w) pos i (famP vs R C x') h hi j hj rfl (by kernel_rfl) hu rfl rfl (fun a ha => ⟨rfl, rfl, fun b hb => by
    show vd (x' a b) = if a = i ∧ b = j then vd w else vd (x a b)
    rw [hx a b ha hb]; split <;> rfl⟩) k
theorem Seals.pxcong {vs vs' : Nat → Value} {R C : Nat} {x x' : Px} {os : List Own} {fs : List Fact} (pos : Nat) (h : nthOwn os pos = some (famP vs R C x)) (s : Nat → Nat) (hs : ∀ i, i < R → s i < R ∧ vs' i = vs (s i) ∧ ∀ k, k < C → x' i k = x (s i) k)
    (hinj : ∀ i j, i < R → j < R → s i = s j → i = j) : Seals os fs (setOwn os pos (famP vs' R C x')) fs :=
  Seals.re (o' := famP vs' R C x') pos h s rfl (fun i hi => ⟨(hs i hi).1, (hs i hi).2.1, rfl, fun k hk => by
    show vd _ = vd _
    rw [(hs i hi).2.2 k hk]⟩) hinj
/-- Rows done: z; the others: y. -/
def pmix (z y : Px) (i k : Nat) : Px := fun a b => if a < i ∨ (a = i ∧ b < k) then z a b else y a b
def nextX (A : Px) (x : Px) (s q : Nat) (rl cl : List Nat) (p : Nat → Nat) : Px := fun i k =>
  if i ≤ s ∨ k ≤ s then x (xc s q i) k else pdet (s + 2) (psu A (p (xc s q i) :: p q :: rl) (k :: s :: cl))
theorem pouter_ex {vs : Nat → Value} {s p i : Nat} (h : p ≠ s) : upd (upd (fun i => .one (vs i)) p (.one (vs s))) s (.one (vs p)) i = .one (vs (xc s p i)) := by
  unfold upd xc
  by_cases h1 : i = s
  · simp [h1]
  · by_cases h2 : i = p
    · subst h2; simp [h]
    · simp [h1, h2]
theorem xc_inj {s p i j : Nat} (h : xc s p i = xc s p j) : i = j := by rw [← xc_xc s p i, h, xc_xc]
theorem xc_same (s i : Nat) : xc s s i = i := by unfold xc; split <;> (try split) <;> omega
/-- Division finds the next entry. -/
theorem PInv.quo {A : Px} {N : Nat} {x : Px} {last : List Int} {odd : Bool} {s : Nat} {rl cl : List Nat} {p : Nat → Nat} (h : PInv A N x last odd s rl cl p) {a b k : Nat} (ha : s ≤ a) (haN : a < N) (hb : s ≤ b) (hbN : b < N) (hs : s < N) (hk : s ≤ k) (hkN : k < N) {t : List Int} {e : Int}
    (hd : DivSpec (psub (pmul (x a s) (x b k)) (pmul (x b s) (x a k))) last t e) : t = pdet (s + 2) (psu A (p b :: p a :: rl) (k :: s :: cl)) := by
  have key := fun t => h.dv ha haN hb hbN hs hk hkN t
  have h1 := (hd.ok h.ne ⟨pdet (s + 2) (psu A (p b :: p a :: rl) (k :: s :: cl)), fun t => by rw [ev_psub, ev_pmul, ev_pmul, ← key]⟩).2
  exact hd.tn.ext (pdet_nm _ _) (cancel h.ne fun z => by rw [← h1 z, ev_psub, ev_pmul, ev_pmul]; exact (key z).symm)
def pdB (k l n : Nat) : Nat := 2 * pdk k n + 2 + (2 * (n * l + 1) + 2) * (pdk k n + 1)
structure PB (k l n : Nat) (A : Px) : Prop where
  z : ∀ i j, szR k (A i j)
  len : ∀ i j, (A i j).length ≤ l
  l30 : n * l + 1 ≤ 268435456
  big : pdB k l n ≤ 137438953472
theorem PB.minor {k l n m : Nat} {A : Px} (h : PB k l n A) (hm : m ≤ n) (h1 : 0 < n) (rl cl : List Nat) : szR (pdk k n) (pdet m (psu A rl cl)) ∧ (pdet m (psu A rl cl)).length ≤ n * l + 1 :=
  have h64 : l < 18446744073709551616 := by
    have := h.l30
    have : 1 * l ≤ n * l := Nat.mul_le_mul_right _ h1
    omega
  ⟨(pdet_sz (n := m) (A := psu A rl cl) (fun i j => h.z _ _) (fun i j => h.len _ _) h64).mono (pdk_mono k hm),
    Nat.le_trans (pdet_len (n := m) (A := psu A rl cl) fun i j => h.len _ _) (Nat.succ_le_succ (Nat.mul_le_mul_right _ hm))⟩
theorem syRow_b {F : List (List Int)} {k l : Nat} (h : ∀ i, szR k (F.getD i []) ∧ (F.getD i []).length ≤ l) (d a y : Nat) : szR k (syRow F d a y) ∧ (syRow F d a y).length ≤ l := by
  unfold syRow; split
  · exact h _
  · exact ⟨fun x hx => by simp at hx, Nat.zero_le _⟩
theorem syX_b {F E : List (List Int)} {k l : Nat} (h : ∀ i, szR k (F.getD i []) ∧ (F.getD i []).length ≤ l) (h' : ∀ i, szR k (E.getD i []) ∧ (E.getD i []).length ≤ l) (m n i y : Nat) : szR k (syX F E m n i y) ∧ (syX F E m n i y).length ≤ l := by
  unfold syX; split
  · exact syRow_b h _ _ _
  · exact syRow_b h' _ _ _
theorem syX_nm (G H : List (List Int)) (m n i y : Nat) : Nm (syX (gtu G) (gtu H) m n i y) := by
  have key : ∀ (G : List (List Int)) d a, Nm (syRow (gtu G) d a y) := fun G d a => by
    unfold syRow; split
    · by_cases hi : d - (y - a) < (gtu G).length
      · exact (gtu_gn G).2 _ (getD_mem [] hi)
      · rw [getD_end (l := gtu G) (by omega)]; exact Nm.nil
    · exact Nm.nil
  unfold syX; split
  · exact key _ _ _
  · exact key _ _ _
end Go.Proofs.Ytfkeohlpcjpkbaa

namespace Go.Proofs.Ytfkeohlpcjpkbaa
open Go.RowKit
structure Es where
  s : Nat
  odd : Bool
  last : List Int
  lv : Value
  x : Px
  vs : Nat → Value
theorem gEliminate_core (v w : Value) (g h : List Row) (k l n : Nat) (hg : Gf k g) (hh : Gf k h) (hk : k ≤ 137438953472) (hb : PB k l n (syX (gtu (ww g)) (gtu (ww h)) (dy (ww g)) (dy (ww h)))) (hn : dy (ww g) + dy (ww h) ≤ n) (h0 : 0 < n) :
    Meets Try.prog 13 [v, w] [(v, W g), (w, W h)] (fun r os fs => os = [] ∧ fs = [(r, vd (gel (ww g) (ww h)))]) := by
  have t1 := gTurn_meets v g ⟨hg.len, fun r hr => ⟨(hg.row r hr).1, (hg.row r hr).2.mono hk⟩⟩
  have t2 := gTurn_meets w h ⟨hh.len, fun r hr => ⟨(hh.row r hr).1, (hh.row r hr).2.mono hk⟩⟩
  have d1 : (gtu (ww g)).length ≤ 1048576 := by rw [gtu_len]; exact hg.dy
  have d2 : (gtu (ww h)).length ≤ 1048576 := by rw [gtu_len]; exact hh.dy
  have hgel : ∀ h1 : ¬ (gtu (ww g) = [] ∨ gtu (ww h) = []), gel (ww g) (ww h) = pdet (dy (ww g) + dy (ww h)) (syX (gtu (ww g)) (gtu (ww h)) (dy (ww g)) (dy (ww h))) := fun h1 => if_neg h1
  have hgn : gtu (ww g) = [] ∨ gtu (ww h) = [] → gel (ww g) (ww h) = [] := gel_none
  have hl1 := fun h1 : gtu (ww g) ≠ [] => dy_len h1
  have hl2 := fun h1 : gtu (ww h) ≠ [] => dy_len h1
  have hnm := syX_nm (ww g) (ww h) (dy (ww g)) (dy (ww h))
  change Meets _ _ _ _ (fun r os fs => os = [] ∧ fs = [(r, wd (gtu (ww g)))]) at t1
  change Meets _ _ _ _ (fun r os fs => os = [] ∧ fs = [(r, wd (gtu (ww h)))]) at t2
  generalize gel (ww g) (ww h) = E at *
  generalize dy (ww g) = m at *
  generalize dy (ww h) = m' at *
  generalize gtu (ww g) = A at *
  generalize gtu (ww h) = B at *
  have hbig := hb.big
  have hl30 := hb.l30
  have hE1 : 0 ≤ pdk k n := Nat.zero_le _
  refine meets_of_vc Try.func13 (by kernel_rfl) rfl (by kernel_rfl) (Nat.le_of_ble_eq_true rfl) ?_
  refine call_fn t1 (Seals.refl _ _) (by repeat (first | exact Sub.nil _ | refine Sub.cons (by repeat (first | exact List.Mem.head _ | apply List.Mem.tail)) ?_)) ?_
  rintro va _ _ ⟨rfl, rfl⟩
  refine call_fn t2 (Seals.refl _ _) (by repeat (first | exact Sub.nil _ | refine Sub.cons (by repeat (first | exact List.Mem.head _ | apply List.Mem.tail)) ?_)) ?_
  rintro vb _ _ ⟨rfl, rfl⟩
  refine len_wd (by repeat (first | exact List.Mem.head _ | apply List.Mem.tail)) ?_
  refine cmp_split _ rfl (fun hA => ?_) (fun hA => ?_)
  · rw [hgn (.inl (List.length_eq_zero_iff.1 (by omega)))]
    exact fin ⟨rfl, rfl⟩ (Seals.cons (Knw.nil 2 _) (Seals.nil _ _))
  refine len_wd (by repeat (first | exact List.Mem.head _ | apply List.Mem.tail)) ?_
  refine cmp_split _ rfl (fun hB => ?_) (fun hB => ?_)
  · rw [hgn (.inr (List.length_eq_zero_iff.1 (by omega)))]
    exact fin ⟨rfl, rfl⟩ (Seals.cons (Knw.nil 2 _) (Seals.nil _ _))
  have hA' : A ≠ [] := fun e => hA (by rw [e]; rfl)
  have hB' : B ≠ [] := fun e => hB (by rw [e]; rfl)
  have hE := hgel fun e => e.elim hA' hB'
  have la := hl1 hA'
  have lb := hl2 hB'
  refine call_fn (zof_meets 1 (by decide) (by decide)) (Seals.refl _ _) (by repeat (first | exact Sub.nil _ | refine Sub.cons (by repeat (first | exact List.Mem.head _ | apply List.Mem.tail)) ?_)) ?_
  rintro u0 _ _ ⟨rfl, rfl⟩
  refine lit_L (size := 2) (f := J) (z := z0) (e := 39) (cn 1) (by decide) (Reads.fact (by repeat (first | exact List.Mem.head _ | apply List.Mem.tail))) rfl fun l0 => ?_
  refine len_wd (by repeat (first | exact List.Mem.head _ | apply List.Mem.tail)) ?_
  refine ar (n := ((m : Nat) : Int)) (by simp only [arZ, Option.some.injEq]; omega) (by first | exact ⟨by omega, by omega⟩ | (simp only [inK]; omega)) ?_
  refine len_wd (by repeat (first | exact List.Mem.head _ | apply List.Mem.tail)) ?_
  refine ar (n := ((m' : Nat) : Int)) (by simp only [arZ, Option.some.injEq]; omega) (by first | exact ⟨by omega, by omega⟩ | (simp only [inK]; omega)) ?_
  refine call_fn (gsylvester_meets va vb A B m m' la lb (by omega) (by omega)) (Seals.refl _ _) (by repeat (first | exact Sub.nil _ | refine Sub.cons (by repeat (first | exact List.Mem.head _ | apply List.Mem.tail)) ?_)) ?_
  rintro v' _ _ ⟨hv', vs0, hvs0, rfl, rfl⟩
  refine len_own 1 rfl hv' fun _ => ?_
  generalize hN : m + m' = N at *
  generalize syX A B m m' = S at *
  have hminor := fun (q : Nat) (hq : q ≤ N) rl cl => hb.minor (m := q) (by omega) h0 rl cl
  refine loop_rule (X := Es) (fun x => ([(7, x.lv), (8, v'), (9, .bool x.odd), (39, .int .i64 (N : Nat)), (40, .int .i64 (x.s : Nat))], [famP x.vs N N x.x, outer v' N x.vs], [(x.lv, vd x.last)]))
    (fun x => (∀ i, i < N → isSl (x.vs i)) ∧ ∃ rl cl p, PInv S N x.x x.last x.odd x.s rl cl p) (fun x => N - x.s) rfl ?_ ?_
  · exact again ⟨0, false, [1], l0, S, vs0⟩ ⟨hvs0, [], [], fun i => i, PInv.start fun i k _ _ => hnm i k⟩ trivial (by repeat (first | exact trivial | refine ⟨rfl, ?_⟩ | refine ⟨i64_eq (by first | omega | (simp only; omega)), ?_⟩ | refine ⟨u64_eq (by first | omega | (simp only; omega)), ?_⟩)) (Seals.sub (by repeat (first | exact Sub.nil _ | refine Sub.cons (by repeat (first | exact List.Mem.head _ | apply List.Mem.tail)) ?_)))
  · rintro ⟨s, odd, last, lv, x, vs⟩ ⟨hvs, rl, cl, p, hP⟩
    simp only at hvs hP ⊢
    have hsle := hP.le
    have hlast : szR (pdk k n) last ∧ last.length ≤ n * l + 1 := by rw [hP.lst]; exact hminor s hsle rl cl
    refine cmp_split _ rfl (fun hs => ?_) (fun hs => ?_)
    rotate_left
    · have hsN : s = N := by omega
      subst hsN
      have hdone := hP.done
      rw [hE]
      cases odd with
      | true =>
        refine call_fn (zof_meets (-1) (by decide) (by decide)) (Seals.refl _ _) (by repeat (first | exact Sub.nil _ | refine Sub.cons (by repeat (first | exact List.Mem.head _ | apply List.Mem.tail)) ?_)) ?_
        rintro c1 _ _ ⟨rfl, rfl⟩
        refine call_fn (pTimesT lv c1 last (-1) (pdk k n) 1 hlast.1 (sz_one _ (by decide)) (by unfold pdB at hbig; omega) (by omega)) (Seals.refl _ _) (by repeat (first | exact Sub.nil _ | refine Sub.cons (by repeat (first | exact List.Mem.head _ | apply List.Mem.tail)) ?_)) ?_
        rintro r _ _ ⟨rfl, rfl⟩
        refine fin ⟨rfl, ?_⟩ (Seals.trans (Seals.drop 0 _ _) (Seals.trans (Seals.drop 0 _ _) (Seals.sub (fs' := [(r, vd (ptim (-1) last))]) (by repeat (first | exact Sub.nil _ | refine Sub.cons (by repeat (first | exact List.Mem.head _ | apply List.Mem.tail)) ?_)))))
        rw [show ptim (-1) last = pdet s S from (ptim_nm _ _).ext (pdet_nm _ _) fun t => by rw [ev_ptim, hdone t, if_pos rfl]; omega]
        rfl
      | false =>
        refine call_fn (pNormT lv last (hlast.1.mono (by unfold pdB at hbig; omega)) (by omega)) (Seals.refl _ _) (by repeat (first | exact Sub.nil _ | refine Sub.cons (by repeat (first | exact List.Mem.head _ | apply List.Mem.tail)) ?_)) ?_
        rintro r _ _ ⟨rfl, rfl⟩
        refine fin ⟨rfl, ?_⟩ (Seals.trans (Seals.drop 0 _ _) (Seals.trans (Seals.drop 0 _ _) (Seals.sub (fs' := [(r, vd (nrm last))]) (by repeat (first | exact Sub.nil _ | refine Sub.cons (by repeat (first | exact List.Mem.head _ | apply List.Mem.tail)) ?_)))))
        rw [show nrm last = pdet s S from (Nm.nrm _).ext (pdet_nm _ _) fun t => by rw [ev_nrm, hdone t]; rfl]
        rfl
    have hsN : s < N := by omega
    refine loop_rule (X := Nat) (fun q => ([(7, lv), (8, v'), (9, .bool odd), (10, .int .i64 (s : Nat)), (11, .int .i64 (q : Nat)), (39, .int .i64 (N : Nat)), (40, .int .i64 (s : Nat))], [famP vs N N x, outer v' N vs], [(lv, vd last)]))
      (fun q => s ≤ q ∧ q ≤ N ∧ ∀ i, s ≤ i → i < q → x i s = []) (fun q => N - q) rfl ?_ ?_
    · exact again s ⟨Nat.le_refl _, hsle, fun i h1 h2 => by omega⟩ trivial (by repeat (first | exact trivial | refine ⟨rfl, ?_⟩ | refine ⟨i64_eq (by first | omega | (simp only; omega)), ?_⟩ | refine ⟨u64_eq (by first | omega | (simp only; omega)), ?_⟩)) (Seals.sub (by repeat (first | exact Sub.nil _ | refine Sub.cons (by repeat (first | exact List.Mem.head _ | apply List.Mem.tail)) ?_)))
    · rintro q ⟨hq1, hq2, hqz⟩
      refine len_own 1 rfl hv' fun _ => ?_
      refine cmp_split _ rfl (fun hq => ?_) (fun hq => ?_)
      rotate_left
      · have hqN : q = N := by omega
        subst hqN
        refine len_own 1 rfl hv' fun _ => ?_
        refine cmp_true rfl rfl ?_
        rw [hE, hP.none hsN hqz]
        exact fin ⟨rfl, rfl⟩ (Seals.trans (Seals.drop 0 _ _) (Seals.trans (Seals.drop 0 _ _) (Seals.cons (Knw.nil 2 _) (Seals.nil _ _))))
      have hqN : q < N := by omega
      refine index_elem 1 rfl hv' q rfl (by omega) ?_
      refine load_one_elem 1 rfl q (by omega) (u := vs q) rfl ?_
      refine index_famP 0 q rfl (by omega) (hvs q (by omega)) s rfl (by omega) ?_
      refine load_famP 0 q s rfl (by omega) (by omega) (x q s) rfl fun u1 => ?_
      refine len_vd (by repeat (first | exact List.Mem.head _ | apply List.Mem.tail)) ?_
      refine cmp_split _ rfl (fun hz => ?_) (fun hz => ?_)
      · refine ar rfl (by first | exact ⟨by omega, by omega⟩ | (simp only [inK]; omega)) ?_
        refine again (q + 1) ⟨by omega, by omega, fun i h1 h2 => ?_⟩ (by simp only; omega) (by repeat (first | exact trivial | refine ⟨rfl, ?_⟩ | refine ⟨i64_eq (by first | omega | (simp only; omega)), ?_⟩ | refine ⟨u64_eq (by first | omega | (simp only; omega)), ?_⟩)) (Seals.sub (by repeat (first | exact Sub.nil _ | refine Sub.cons (by repeat (first | exact List.Mem.head _ | apply List.Mem.tail)) ?_)))
        by_cases e : i = q
        · rw [e]; exact List.length_eq_zero_iff.1 (by omega)
        · exact hqz i h1 (by omega)
      have hz0 : x q s ≠ [] := fun e => hz (by rw [e]; rfl)
      refine len_own 1 rfl hv' fun _ => ?_
      refine cmp_false rfl (by omega) ?_
      have hnext0 := hP.step hq1 hqN hz0 (z := nextX S x s q rl cl p) fun i k' h1 h2 h3 h4 => by unfold nextX; rw [if_neg (by omega)]
      have hquo0 : ∀ i k', s + 1 ≤ i → i < N → s + 1 ≤ k' → k' < N → ∀ {t : List Int} {e : Int}, DivSpec (psub (pmul (x (xc s q s) s) (x (xc s q i) k')) (pmul (x (xc s q i) s) (x (xc s q s) k'))) last t e → t = nextX S x s q rl cl p i k' := fun i k' h1 h2 h3 h4 t e hd => by
        unfold nextX; rw [if_neg (by omega)]
        rw [xc_at] at hd
        exact hP.quo hq1 hqN (xc_ge hq1 (by omega)) (xc_lt hsN hqN h2) hsN (by omega) h4 hd
      have hzy0 : ∀ a b, a ≤ s ∨ b ≤ s → nextX S x s q rl cl p a b = x (xc s q a) b := fun a b e => by unfold nextX; rw [if_pos e]
      have hys0 : ∀ i j, i < N → j < N → s ≤ i → s ≤ j → szR (pdk k n) (x (xc s q i) j) ∧ (x (xc s q i) j).length ≤ n * l + 1 := fun i j hi hj h1 h2 => by
        rw [hP.val _ j (xc_ge hq1 h1) (xc_lt hsN hqN hi) h2 hj]; exact hminor (s + 1) (by omega) _ _
      have hdiv : ∀ m, m ≤ 2 * (n * l + 1) → (pdk k n + pdk k n + 1 + 1) + (m + 1) * (pdk k n + 1) ≤ 137438953472 := fun m hm => by
        have : (m + 1) * (pdk k n + 1) ≤ (2 * (n * l + 1) + 2) * (pdk k n + 1) := Nat.mul_le_mul_right _ (by omega)
        unfold pdB at hbig
        omega
      have hbig2 : 2 * pdk k n + 2 ≤ 137438953472 := by unfold pdB at hbig; omega
      have hyx : ∀ i j, (fun a b => x (xc s q a) b : Px) i j = x (xc s q i) j := fun _ _ => rfl
      have hnext : ∀ od, (if q = s then odd else !odd) = od → (∀ i, i < N → isSl (vs (xc s q i))) ∧ ∃ rl' cl' p', PInv S N (nextX S x s q rl cl p) (x (xc s q s) s) od (s + 1) rl' cl' p' := fun od e => by
        rw [xc_at, ← e]
        exact ⟨fun i hi => hvs _ (xc_lt hsN hqN hi), _, _, _, hnext0⟩
      obtain ⟨y, hy⟩ : ∃ y : Px, ∀ a b, y a b = x (xc s q a) b := ⟨_, fun _ _ => rfl⟩
      obtain ⟨vs', hv's⟩ : ∃ vs' : Nat → Value, ∀ i, vs' i = vs (xc s q i) := ⟨_, fun _ => rfl⟩
      have hvs' : ∀ i, i < N → isSl (vs' i) := fun i hi => by rw [hv's]; exact hvs _ (xc_lt hsN hqN hi)
      simp only [← hy] at hquo0 hzy0 hys0 hnext
      generalize hz' : nextX S x s q rl cl p = z at *
      have hnext : ∀ od, (if q = s then odd else !odd) = od → (∀ i, i < N → isSl (vs' i)) ∧ ∃ rl' cl' p', PInv S N z (y s s) od (s + 1) rl' cl' p' := fun od e => ⟨hvs', (hnext od e).2⟩
      have hzy := hzy0
      have hys := hys0
      have hquo := hquo0
      have hpx : ∀ i, i < N → xc s q i < N ∧ vs' i = vs (xc s q i) ∧ ∀ j, j < N → pmix z y (s + 1) 0 i j = x (xc s q i) j := fun i hi => ⟨xc_lt hsN hqN hi, hv's i, fun j _ => by
        unfold pmix
        split
        · rw [hzy i j (by omega), hy]
        · rw [hy]⟩
      clear hnext0 hqz hz0 hz hminor hzy0 hys0 hquo0 hz'
      refine cmp_split _ rfl (fun hne => ?_) (fun hne => ?_)
      · have hqs : q ≠ s := by omega
        have hnext := hnext (!odd) (if_neg hqs)
        refine draw_rule [0, 1, 2, 3, 4, 5, 6, 7, 8, 9, 10, 11, 12, 13, 14, 15] [0, 1, 4, 5, 6, 7, 8, 9, 10, 11, 12, 13, 2, 3, 14, 15] (by kernel_rfl) (by kernel_rfl) ?_
        refine index_elem 1 rfl hv' s rfl (by omega) ?_
        refine load_one_elem 1 rfl s (by omega) (u := vs s) rfl ?_
        refine index_elem 1 rfl hv' q rfl (by omega) ?_
        refine load_one_elem 1 rfl q (by omega) (u := vs q) rfl ?_
        refine index_elem 1 rfl hv' q rfl (by omega) ?_
        refine store_elem (d := .one (vs s)) 1 rfl q (by omega) rfl (by kernel_rfl) (Reads.one (hvs s (by omega)).one) ?_
        refine index_elem 1 rfl hv' s rfl (by omega) ?_
        refine store_elem (d := .one (vs q)) 1 rfl s (by omega) rfl (by kernel_rfl) (Reads.one (hvs q (by omega)).one) ?_
        refine ar rfl (by first | exact ⟨by omega, by omega⟩ | (simp only [inK]; omega)) ?_
        refine loop_rule (X := Nat) (fun i => ([(7, lv), (8, v'), (9, .bool (!odd)), (10, .int .i64 (s : Nat)), (12, .int .i64 (i : Nat)), (39, .int .i64 (N : Nat)), (40, .int .i64 (s : Nat))], [famP vs' N N (pmix z y i 0), outer v' N vs'], [(lv, vd last)]))
          (fun i => s + 1 ≤ i ∧ i ≤ N) (fun i => N - i) rfl ?_ ?_
        · exact again (s + 1) ⟨Nat.le_refl _, by omega⟩ trivial (by repeat (first | exact trivial | refine ⟨rfl, ?_⟩ | refine ⟨i64_eq (by first | omega | (simp only; omega)), ?_⟩ | refine ⟨u64_eq (by first | omega | (simp only; omega)), ?_⟩)) (Seals.trans (Seals.own_cong (os := [_, _]) 1 (fun i => .one (vs' i)) rfl rfl fun i _ => by rw [pouter_ex hqs, hv's]) (Seals.trans (Seals.pxcong (os := [_, _]) 0 rfl (xc s q) hpx fun _ _ _ _ e => xc_inj e) (Seals.sub (by repeat (first | exact Sub.nil _ | refine Sub.cons (by repeat (first | exact List.Mem.head _ | apply List.Mem.tail)) ?_)))))
        · rintro i ⟨hi1, hi2⟩
          refine len_own 1 rfl hv' fun _ => ?_
          refine cmp_split _ rfl (fun hi => ?_) (fun hi => ?_)
          · have hiR : i < N := by omega
            refine ar rfl (by first | exact ⟨by omega, by omega⟩ | (simp only [inK]; omega)) ?_
            refine loop_rule (X := Nat) (fun k' => ([(7, lv), (8, v'), (9, .bool (!odd)), (10, .int .i64 (s : Nat)), (12, .int .i64 (i : Nat)), (13, .int .i64 (k' : Nat)), (39, .int .i64 (N : Nat)), (40, .int .i64 (s : Nat))], [famP vs' N N (pmix z y i k'), outer v' N vs'], [(lv, vd last)]))
              (fun k' => s + 1 ≤ k' ∧ k' ≤ N) (fun k' => N - k') rfl ?_ ?_
            · refine again (s + 1) ⟨Nat.le_refl _, by omega⟩ trivial (by repeat (first | exact trivial | refine ⟨rfl, ?_⟩ | refine ⟨i64_eq (by first | omega | (simp only; omega)), ?_⟩ | refine ⟨u64_eq (by first | omega | (simp only; omega)), ?_⟩)) (Seals.trans (Seals.pxcong (os := [_, _]) (x' := pmix z y i (s + 1)) 0 rfl (fun i => i) (fun a ha => ⟨ha, rfl, fun b hb => ?_⟩) fun _ _ _ _ e => e) (Seals.sub (by repeat (first | exact Sub.nil _ | refine Sub.cons (by repeat (first | exact List.Mem.head _ | apply List.Mem.tail)) ?_))))
              unfold pmix
              by_cases e : a < i ∨ (a = i ∧ b < 0)
              · rw [if_pos e, if_pos (by omega)]
              · rw [if_neg e]
                split
                · exact hzy _ _ (by omega)
                · rfl
            · rintro k' ⟨hk1, hk2⟩
              refine len_own 1 rfl hv' fun _ => ?_
              refine cmp_split _ rfl (fun hc2 => ?_) (fun hc2 => ?_)
              · have hkC : k' < N := by omega
                have y1 := hys s s hsN hsN (Nat.le_refl _) (Nat.le_refl _)
                have y2 := hys i k' hiR hkC (by omega) (by omega)
                have y3 := hys i s hiR hsN (by omega) (Nat.le_refl _)
                have y4 := hys s k' hsN hkC (Nat.le_refl _) (by omega)
                have m1 := y1.1.pmul y2.1 (by omega)
                have m2 := y3.1.pmul y4.1 (by omega)
                have l1 := pmul_len (y s s) (y i k')
                have l2 := pmul_len (y i s) (y s k')
                have l3 := psub_len (pmul (y s s) (y i k')) (pmul (y i s) (y s k'))
                refine draw_rule [0, 1, 2, 3, 4, 5, 6, 7, 8, 9, 10, 11, 12, 13, 15, 16, 17, 18, 19, 20, 21, 22, 23, 24, 25, 26, 27, 28, 14, 29, 30, 31] [0, 1, 2, 3, 4, 5, 6, 7, 8, 9, 10, 11, 12, 13, 14, 15, 16, 17, 18, 19, 20, 21, 22, 23, 24, 25, 26, 27, 28, 29, 30, 31] (by kernel_rfl) (by kernel_rfl) ?_
                refine index_elem 1 rfl hv' s rfl (by omega) ?_
                refine load_one_elem 1 rfl s (by omega) (u := vs' s) rfl ?_
                refine index_famP 0 s rfl (by omega) (hvs' s (by omega)) s rfl (by omega) ?_
                refine load_famP 0 s s rfl (by omega) (by omega) (y s s) ?_ fun u1 => ?_
                · unfold pmix; rw [if_pos (by omega), hzy _ _ (by omega)]
                refine index_elem 1 rfl hv' i rfl (by omega) ?_
                refine load_one_elem 1 rfl i (by omega) (u := vs' i) rfl ?_
                refine index_famP 0 i rfl (by omega) (hvs' i (by omega)) k' rfl (by omega) ?_
                refine load_famP 0 i k' rfl (by omega) (by omega) (y i k') ?_ fun u2 => ?_
                · unfold pmix; rw [if_neg (by omega)]
                refine index_elem 1 rfl hv' i rfl (by omega) ?_
                refine load_one_elem 1 rfl i (by omega) (u := vs' i) rfl ?_
                refine index_famP 0 i rfl (by omega) (hvs' i (by omega)) s rfl (by omega) ?_
                refine load_famP 0 i s rfl (by omega) (by omega) (y i s) ?_ fun u3 => ?_
                · unfold pmix; rw [if_pos (by omega), hzy _ _ (by omega)]
                refine index_elem 1 rfl hv' s rfl (by omega) ?_
                refine load_one_elem 1 rfl s (by omega) (u := vs' s) rfl ?_
                refine index_famP 0 s rfl (by omega) (hvs' s (by omega)) k' rfl (by omega) ?_
                refine load_famP 0 s k' rfl (by omega) (by omega) (y s k') ?_ fun u4 => ?_
                · unfold pmix; rw [if_pos (by omega), hzy _ _ (by omega)]
                refine call_fn (pMulT u1 u2 _ _ _ _ y1.1 y2.1 (by omega) (by omega) (by omega)) (Seals.refl _ _) (by repeat (first | exact Sub.nil _ | refine Sub.cons (by repeat (first | exact List.Mem.head _ | apply List.Mem.tail)) ?_)) ?_
                rintro w1 _ _ ⟨rfl, rfl⟩
                refine call_fn (pMulT u3 u4 _ _ _ _ y3.1 y4.1 (by omega) (by omega) (by omega)) (Seals.refl _ _) (by repeat (first | exact Sub.nil _ | refine Sub.cons (by repeat (first | exact List.Mem.head _ | apply List.Mem.tail)) ?_)) ?_
                rintro w2 _ _ ⟨rfl, rfl⟩
                refine call_fn (pSubT w1 w2 _ _ _ m1 m2 (by omega) (by omega) (by omega)) (Seals.refl _ _) (by repeat (first | exact Sub.nil _ | refine Sub.cons (by repeat (first | exact List.Mem.head _ | apply List.Mem.tail)) ?_)) ?_
                rintro w3 _ _ ⟨rfl, rfl⟩
                refine draw_rule [0, 1, 2, 3, 4, 5, 6, 7, 8, 9, 10, 11, 12] [0, 1, 2, 3, 4, 5, 6, 7, 8, 9, 11, 12, 10] (by kernel_rfl) (by kernel_rfl) ?_
                refine index_elem 1 rfl hv' i rfl (by omega) ?_
                refine load_one_elem 1 rfl i (by omega) (u := vs' i) rfl ?_
                refine call_fn (pDivideT w3 lv _ _ _ _ (m1.psub m2) hlast.1 (hdiv _ (by omega)) (by omega) (by omega)) (Seals.refl _ _) (by repeat (first | exact Sub.nil _ | refine Sub.cons (by repeat (first | exact List.Mem.head _ | apply List.Mem.tail)) ?_)) ?_
                rintro _ _ _ ⟨rfl, w4, t, e, rfl, hds, _, rfl⟩
                obtain rfl := hquo i k' hi1 hiR hk1 hkC hds
                refine index_famP 0 i rfl (by omega) (hvs' i (by omega)) k' rfl (by omega) ?_
                refine store_px 0 i k' rfl (by omega) (by omega) _ (pmix z y i (k' + 1)) (Reads.fact (by repeat (first | exact List.Mem.head _ | apply List.Mem.tail))) (fun a b ha hb => ?_) ?_
                · unfold pmix
                  by_cases e : a = i ∧ b = k'
                  · rw [if_pos e, e.1, e.2, if_pos (by omega)]
                  · rw [if_neg e]
                    by_cases e1 : a < i ∨ a = i ∧ b < k'
                    · rw [if_pos e1, if_pos (by omega)]
                    · rw [if_neg e1, if_neg (by omega)]
                refine ar rfl (by first | exact ⟨by omega, by omega⟩ | (simp only [inK]; omega)) ?_
                exact again (k' + 1) ⟨by omega, by omega⟩ (by simp only; omega) (by repeat (first | exact trivial | refine ⟨rfl, ?_⟩ | refine ⟨i64_eq (by first | omega | (simp only; omega)), ?_⟩ | refine ⟨u64_eq (by first | omega | (simp only; omega)), ?_⟩)) (Seals.sub (by repeat (first | exact Sub.nil _ | refine Sub.cons (by repeat (first | exact List.Mem.head _ | apply List.Mem.tail)) ?_)))
              · have hkC : k' = N := by omega
                subst hkC
                refine ar rfl (by first | exact ⟨by omega, by omega⟩ | (simp only [inK]; omega)) ?_
                refine again (i + 1) ⟨by omega, by omega⟩ (by simp only; omega) (by repeat (first | exact trivial | refine ⟨rfl, ?_⟩ | refine ⟨i64_eq (by first | omega | (simp only; omega)), ?_⟩ | refine ⟨u64_eq (by first | omega | (simp only; omega)), ?_⟩)) (Seals.trans (Seals.pxcong (os := [_, _]) (x' := pmix z y (i + 1) 0) 0 rfl (fun i => i) (fun a ha => ⟨ha, rfl, fun b hb => ?_⟩) fun _ _ _ _ e => e) (Seals.sub (by repeat (first | exact Sub.nil _ | refine Sub.cons (by repeat (first | exact List.Mem.head _ | apply List.Mem.tail)) ?_))))
                unfold pmix
                by_cases e : a < i ∨ a = i ∧ b < k'
                · rw [if_pos e, if_pos (by omega)]
                · rw [if_neg e, if_neg (by omega)]
          · have hiR : i = N := by omega
            subst hiR
            refine index_elem 1 rfl hv' s rfl (by omega) ?_
            refine load_one_elem 1 rfl s (by omega) (u := vs' s) rfl ?_
            refine index_famP 0 s rfl (by omega) (hvs' s (by omega)) s rfl (by omega) ?_
            refine load_famP 0 s s rfl (by omega) (by omega) (y s s) ?_ fun u1 => ?_
            · unfold pmix; rw [if_pos (by omega), hzy _ _ (by omega)]
            refine ar rfl (by first | exact ⟨by omega, by omega⟩ | (simp only [inK]; omega)) ?_
            refine again ⟨s + 1, (!odd), y s s, u1, z, vs'⟩ hnext (by simp only; omega) (by repeat (first | exact trivial | refine ⟨rfl, ?_⟩ | refine ⟨i64_eq (by first | omega | (simp only; omega)), ?_⟩ | refine ⟨u64_eq (by first | omega | (simp only; omega)), ?_⟩)) (Seals.trans (Seals.pxcong (os := [_, _]) (x' := z) 0 rfl (fun i => i) (fun a ha => ⟨ha, rfl, fun b hb => ?_⟩) fun _ _ _ _ e => e) (Seals.sub (by repeat (first | exact Sub.nil _ | refine Sub.cons (by repeat (first | exact List.Mem.head _ | apply List.Mem.tail)) ?_))))
            unfold pmix; rw [if_pos (by omega)]
      · have hqs : q = s := by omega
        have hnext := hnext odd (if_pos hqs)
        refine ar rfl (by first | exact ⟨by omega, by omega⟩ | (simp only [inK]; omega)) ?_
        refine loop_rule (X := Nat) (fun i => ([(7, lv), (8, v'), (9, .bool (odd)), (10, .int .i64 (s : Nat)), (12, .int .i64 (i : Nat)), (39, .int .i64 (N : Nat)), (40, .int .i64 (s : Nat))], [famP vs' N N (pmix z y i 0), outer v' N vs'], [(lv, vd last)]))
          (fun i => s + 1 ≤ i ∧ i ≤ N) (fun i => N - i) rfl ?_ ?_
        · exact again (s + 1) ⟨Nat.le_refl _, by omega⟩ trivial (by repeat (first | exact trivial | refine ⟨rfl, ?_⟩ | refine ⟨i64_eq (by first | omega | (simp only; omega)), ?_⟩ | refine ⟨u64_eq (by first | omega | (simp only; omega)), ?_⟩)) (Seals.trans (Seals.own_cong (os := [_, _]) 1 (fun i => .one (vs' i)) rfl rfl fun i _ => by rw [hv's, hqs, xc_same]) (Seals.trans (Seals.pxcong (os := [_, _]) 0 rfl (xc s q) hpx fun _ _ _ _ e => xc_inj e) (Seals.sub (by repeat (first | exact Sub.nil _ | refine Sub.cons (by repeat (first | exact List.Mem.head _ | apply List.Mem.tail)) ?_)))))
        · rintro i ⟨hi1, hi2⟩
          refine len_own 1 rfl hv' fun _ => ?_
          refine cmp_split _ rfl (fun hi => ?_) (fun hi => ?_)
          · have hiR : i < N := by omega
            refine ar rfl (by first | exact ⟨by omega, by omega⟩ | (simp only [inK]; omega)) ?_
            refine loop_rule (X := Nat) (fun k' => ([(7, lv), (8, v'), (9, .bool (odd)), (10, .int .i64 (s : Nat)), (12, .int .i64 (i : Nat)), (13, .int .i64 (k' : Nat)), (39, .int .i64 (N : Nat)), (40, .int .i64 (s : Nat))], [famP vs' N N (pmix z y i k'), outer v' N vs'], [(lv, vd last)]))
              (fun k' => s + 1 ≤ k' ∧ k' ≤ N) (fun k' => N - k') rfl ?_ ?_
            · refine again (s + 1) ⟨Nat.le_refl _, by omega⟩ trivial (by repeat (first | exact trivial | refine ⟨rfl, ?_⟩ | refine ⟨i64_eq (by first | omega | (simp only; omega)), ?_⟩ | refine ⟨u64_eq (by first | omega | (simp only; omega)), ?_⟩)) (Seals.trans (Seals.pxcong (os := [_, _]) (x' := pmix z y i (s + 1)) 0 rfl (fun i => i) (fun a ha => ⟨ha, rfl, fun b hb => ?_⟩) fun _ _ _ _ e => e) (Seals.sub (by repeat (first | exact Sub.nil _ | refine Sub.cons (by repeat (first | exact List.Mem.head _ | apply List.Mem.tail)) ?_))))
              unfold pmix
              by_cases e : a < i ∨ (a = i ∧ b < 0)
              · rw [if_pos e, if_pos (by omega)]
              · rw [if_neg e]
                split
                · exact hzy _ _ (by omega)
                · rfl
            · rintro k' ⟨hk1, hk2⟩
              refine len_own 1 rfl hv' fun _ => ?_
              refine cmp_split _ rfl (fun hc2 => ?_) (fun hc2 => ?_)
              · have hkC : k' < N := by omega
                have y1 := hys s s hsN hsN (Nat.le_refl _) (Nat.le_refl _)
                have y2 := hys i k' hiR hkC (by omega) (by omega)
                have y3 := hys i s hiR hsN (by omega) (Nat.le_refl _)
                have y4 := hys s k' hsN hkC (Nat.le_refl _) (by omega)
                have m1 := y1.1.pmul y2.1 (by omega)
                have m2 := y3.1.pmul y4.1 (by omega)
                have l1 := pmul_len (y s s) (y i k')
                have l2 := pmul_len (y i s) (y s k')
                have l3 := psub_len (pmul (y s s) (y i k')) (pmul (y i s) (y s k'))
                refine draw_rule [0, 1, 2, 3, 4, 5, 6, 7, 8, 9, 10, 11, 12, 13, 15, 16, 17, 18, 19, 20, 21, 22, 23, 24, 25, 26, 27, 28, 14, 29, 30, 31] [0, 1, 2, 3, 4, 5, 6, 7, 8, 9, 10, 11, 12, 13, 14, 15, 16, 17, 18, 19, 20, 21, 22, 23, 24, 25, 26, 27, 28, 29, 30, 31] (by kernel_rfl) (by kernel_rfl) ?_
                refine index_elem 1 rfl hv' s rfl (by omega) ?_
                refine load_one_elem 1 rfl s (by omega) (u := vs' s) rfl ?_
                refine index_famP 0 s rfl (by omega) (hvs' s (by omega)) s rfl (by omega) ?_
                refine load_famP 0 s s rfl (by omega) (by omega) (y s s) ?_ fun u1 => ?_
                · unfold pmix; rw [if_pos (by omega), hzy _ _ (by omega)]
                refine index_elem 1 rfl hv' i rfl (by omega) ?_
                refine load_one_elem 1 rfl i (by omega) (u := vs' i) rfl ?_
                refine index_famP 0 i rfl (by omega) (hvs' i (by omega)) k' rfl (by omega) ?_
                refine load_famP 0 i k' rfl (by omega) (by omega) (y i k') ?_ fun u2 => ?_
                · unfold pmix; rw [if_neg (by omega)]
                refine index_elem 1 rfl hv' i rfl (by omega) ?_
                refine load_one_elem 1 rfl i (by omega) (u := vs' i) rfl ?_
                refine index_famP 0 i rfl (by omega) (hvs' i (by omega)) s rfl (by omega) ?_
                refine load_famP 0 i s rfl (by omega) (by omega) (y i s) ?_ fun u3 => ?_
                · unfold pmix; rw [if_pos (by omega), hzy _ _ (by omega)]
                refine index_elem 1 rfl hv' s rfl (by omega) ?_
                refine load_one_elem 1 rfl s (by omega) (u := vs' s) rfl ?_
                refine index_famP 0 s rfl (by omega) (hvs' s (by omega)) k' rfl (by omega) ?_
                refine load_famP 0 s k' rfl (by omega) (by omega) (y s k') ?_ fun u4 => ?_
                · unfold pmix; rw [if_pos (by omega), hzy _ _ (by omega)]
                refine call_fn (pMulT u1 u2 _ _ _ _ y1.1 y2.1 (by omega) (by omega) (by omega)) (Seals.refl _ _) (by repeat (first | exact Sub.nil _ | refine Sub.cons (by repeat (first | exact List.Mem.head _ | apply List.Mem.tail)) ?_)) ?_
                rintro w1 _ _ ⟨rfl, rfl⟩
                refine call_fn (pMulT u3 u4 _ _ _ _ y3.1 y4.1 (by omega) (by omega) (by omega)) (Seals.refl _ _) (by repeat (first | exact Sub.nil _ | refine Sub.cons (by repeat (first | exact List.Mem.head _ | apply List.Mem.tail)) ?_)) ?_
                rintro w2 _ _ ⟨rfl, rfl⟩
                refine call_fn (pSubT w1 w2 _ _ _ m1 m2 (by omega) (by omega) (by omega)) (Seals.refl _ _) (by repeat (first | exact Sub.nil _ | refine Sub.cons (by repeat (first | exact List.Mem.head _ | apply List.Mem.tail)) ?_)) ?_
                rintro w3 _ _ ⟨rfl, rfl⟩
                refine draw_rule [0, 1, 2, 3, 4, 5, 6, 7, 8, 9, 10, 11, 12] [0, 1, 2, 3, 4, 5, 6, 7, 8, 9, 11, 12, 10] (by kernel_rfl) (by kernel_rfl) ?_
                refine index_elem 1 rfl hv' i rfl (by omega) ?_
                refine load_one_elem 1 rfl i (by omega) (u := vs' i) rfl ?_
                refine call_fn (pDivideT w3 lv _ _ _ _ (m1.psub m2) hlast.1 (hdiv _ (by omega)) (by omega) (by omega)) (Seals.refl _ _) (by repeat (first | exact Sub.nil _ | refine Sub.cons (by repeat (first | exact List.Mem.head _ | apply List.Mem.tail)) ?_)) ?_
                rintro _ _ _ ⟨rfl, w4, t, e, rfl, hds, _, rfl⟩
                obtain rfl := hquo i k' hi1 hiR hk1 hkC hds
                refine index_famP 0 i rfl (by omega) (hvs' i (by omega)) k' rfl (by omega) ?_
                refine store_px 0 i k' rfl (by omega) (by omega) _ (pmix z y i (k' + 1)) (Reads.fact (by repeat (first | exact List.Mem.head _ | apply List.Mem.tail))) (fun a b ha hb => ?_) ?_
                · unfold pmix
                  by_cases e : a = i ∧ b = k'
                  · rw [if_pos e, e.1, e.2, if_pos (by omega)]
                  · rw [if_neg e]
                    by_cases e1 : a < i ∨ a = i ∧ b < k'
                    · rw [if_pos e1, if_pos (by omega)]
                    · rw [if_neg e1, if_neg (by omega)]
                refine ar rfl (by first | exact ⟨by omega, by omega⟩ | (simp only [inK]; omega)) ?_
                exact again (k' + 1) ⟨by omega, by omega⟩ (by simp only; omega) (by repeat (first | exact trivial | refine ⟨rfl, ?_⟩ | refine ⟨i64_eq (by first | omega | (simp only; omega)), ?_⟩ | refine ⟨u64_eq (by first | omega | (simp only; omega)), ?_⟩)) (Seals.sub (by repeat (first | exact Sub.nil _ | refine Sub.cons (by repeat (first | exact List.Mem.head _ | apply List.Mem.tail)) ?_)))
              · have hkC : k' = N := by omega
                subst hkC
                refine ar rfl (by first | exact ⟨by omega, by omega⟩ | (simp only [inK]; omega)) ?_
                refine again (i + 1) ⟨by omega, by omega⟩ (by simp only; omega) (by repeat (first | exact trivial | refine ⟨rfl, ?_⟩ | refine ⟨i64_eq (by first | omega | (simp only; omega)), ?_⟩ | refine ⟨u64_eq (by first | omega | (simp only; omega)), ?_⟩)) (Seals.trans (Seals.pxcong (os := [_, _]) (x' := pmix z y (i + 1) 0) 0 rfl (fun i => i) (fun a ha => ⟨ha, rfl, fun b hb => ?_⟩) fun _ _ _ _ e => e) (Seals.sub (by repeat (first | exact Sub.nil _ | refine Sub.cons (by repeat (first | exact List.Mem.head _ | apply List.Mem.tail)) ?_))))
                unfold pmix
                by_cases e : a < i ∨ a = i ∧ b < k'
                · rw [if_pos e, if_pos (by omega)]
                · rw [if_neg e, if_neg (by omega)]
          · have hiR : i = N := by omega
            subst hiR
            refine index_elem 1 rfl hv' s rfl (by omega) ?_
            refine load_one_elem 1 rfl s (by omega) (u := vs' s) rfl ?_
            refine index_famP 0 s rfl (by omega) (hvs' s (by omega)) s rfl (by omega) ?_
            refine load_famP 0 s s rfl (by omega) (by omega) (y s s) ?_ fun u1 => ?_
            · unfold pmix; rw [if_pos (by omega), hzy _ _ (by omega)]
            refine ar rfl (by first | exact ⟨by omega, by omega⟩ | (simp only [inK]; omega)) ?_
            refine again ⟨s + 1, (odd), y s s, u1, z, vs'⟩ hnext (by simp only; omega) (by repeat (first | exact trivial | refine ⟨rfl, ?_⟩ | refine ⟨i64_eq (by first | omega | (simp only; omega)), ?_⟩ | refine ⟨u64_eq (by first | omega | (simp only; omega)), ?_⟩)) (Seals.trans (Seals.pxcong (os := [_, _]) (x' := z) 0 rfl (fun i => i) (fun a ha => ⟨ha, rfl, fun b hb => ?_⟩) fun _ _ _ _ e => e) (Seals.sub (by repeat (first | exact Sub.nil _ | refine Sub.cons (by repeat (first | exact List.Mem.head _ | apply List.Mem.tail)) ?_))))
            unfold pmix; rw [if_pos (by omega)]
end Go.Proofs.Ytfkeohlpcjpkbaa
