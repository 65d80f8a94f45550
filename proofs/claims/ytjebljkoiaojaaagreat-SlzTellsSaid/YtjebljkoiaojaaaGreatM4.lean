/- Towards the statement, part 4 of 8: contracts of functions, and what they rest on. Conditions: each theorem names its own. -/
import Derived.Test.YtjebljkoiaojaaaGreatM3
set_option linter.unusedVariables false
set_option linter.unusedSimpArgs false
namespace Go.Proofs.YtjebljkoiaojaaaGreat
open Go.RowKit
theorem info_psl : (Tryz.prog.info? 23).map (fun i => (i.zero, i.size, i.bytes)) = some (some (.slice none 0 0), 1, 24) := by kernel_rfl
instance iCPb1 : TEl Tryz.prog 23 1 24 := tel info_psl rfl (by decide)
instance iCPb2 : TSl Tryz.prog 109 23 1 := ⟨Tryz.underlying109, by kernel_rfl⟩
theorem lit2_L {α : Type} {P : Program} {t e : TypeId} {size bytes : Nat} {os : List Own} {fs : List Fact} {K : Cont} [ht : TSl P t e size] [he : TEl P e size bytes] {x y : Value} (f : α → Dat) (z : α) (a b : α) (hsz : size ≤ 16) (hx : Reads os fs x (f a)) (hy : Reads os fs y (f b)) (hc : (f a).cells = size) (hc' : (f b).cells = size)
    (k : ∀ v, K v os ((v, LD size f z [a, b]) :: fs)) : BuildSliceK P t 2 [(0, x), (1, y)] os fs K := by
  have h1 := buildSlice_fact (P := P) (t := t) (os := os) (fs := fs) (K := fun u os' fs' => ∃ os'' fs'', Seals os' fs' os'' fs'' ∧ K u os'' fs'') (n := 2) [x, y] [f a, f b] rfl rfl (by decide) hsz ⟨hx, hc, hy, hc', trivial⟩
  refine ⟨Grw.sealed (h1 fun v => ⟨_, _, ?_, k v⟩).out⟩
  exact Seals.knw_cong rfl fun i hi => by
    have : i = 0 ∨ i = 1 := by omega
    rcases this with rfl | rfl <;> rfl
theorem pNorm_meets (v : Value) (p : Row) (hp : Fit 137438953472 p) (lp : p.length ≤ 1099511627776) :
    Meets Tryz.prog 55 [v] [(v, V p)] (fun r os fs => os = [] ∧ fs = [(r, vd (nrm (vv p)))]) :=
  (pNormO_meets v p hp lp).closed fun r os fs ⟨h1, h2, h3⟩ => ⟨_, _, ⟨rfl, rfl⟩, by
    subst h2 h3
    exact Seals.toldL h1⟩
theorem szR.fit {k : Nat} {l : List Int} (h : szR k l) : Fit k (l.map cn) := Fit_cn h
theorem szR.mono {k k' : Nat} {l : List Int} (h : szR k l) (hk : k ≤ k') : szR k' l := fun x hx => (h x hx).mono hk
theorem szR.get {k : Nat} {l : List Int} (h : szR k l) (i : Nat) : sz (l.getD i 0) k := by
  by_cases hi : i < l.length
  · exact h _ (getD_mem 0 hi)
  · rw [getD_none (by omega)]; exact sz_zero _
theorem Fit.szR {k : Nat} {p : Row} (h : Fit k p) : Go.Proofs.YtjebljkoiaojaaaGreat.szR k (vv p) := fun x hx => by
  obtain ⟨y, hy, rfl⟩ := List.mem_map.1 hx
  exact sz_jv (h y hy).1 (h y hy).2
theorem mem_nrm {l : List Int} {x : Int} (h : x ∈ nrm l) : x ∈ l := by
  induction l with
  | nil => exact h
  | cons c l ih =>
    rw [nrm_cons] at h
    split at h
    · simp at h
    · rcases List.mem_cons.1 h with rfl | h
      · exact .head _
      · exact .tail _ (ih h)
theorem szR.nrm {k : Nat} {l : List Int} (h : szR k l) : szR k (nrm l) := fun x hx => h x (mem_nrm hx)
theorem szR.lst {k n : Nat} {f : Nat → Int} (h : ∀ i, i < n → sz (f i) k) : szR k (lst n f) := fun x hx => by
  obtain ⟨i, hi, rfl⟩ := mem_lst hx
  exact h i hi
theorem pNormT (v : Value) (l : List Int) (hl : szR 137438953472 l) (ll : l.length ≤ 1099511627776) :
    Meets Tryz.prog 55 [v] [(v, vd l)] (fun r os fs => os = [] ∧ fs = [(r, vd (nrm l))]) := by
  have h := pNorm_meets v (l.map cn) hl.fit (by rw [List.length_map]; exact ll)
  rw [vv_cn] at h
  exact h
theorem pNormOT (v : Value) (l : List Int) (hl : szR 137438953472 l) (ll : l.length ≤ 1099511627776) :
    Meets Tryz.prog 55 [v] [(v, vd l)] (fun r os fs => isSl r ∧ os = [ownL 2 J z0 r ((nrm l).map cn)] ∧ fs = []) := by
  have h := pNormO_meets v (l.map cn) hl.fit (by rw [List.length_map]; exact ll)
  rw [vv_cn] at h
  exact h
theorem pLead_meets (v : Value) (p : Row) :
    Meets Tryz.prog 121 [v] [(v, V p)] (fun r os fs => os = [] ∧ fs = [(r, J (p.getD (p.length - 1) z0))]) := by
  refine meets_of_vc Tryz.func121 (by kernel_rfl) rfl (by kernel_rfl) (Nat.le_of_ble_eq_true rfl) ?_
  refine alloc_rule (d := I false []) fun o ho => ?_
  refine len_fact qM fun _ => ?_
  refine cmp_split _ rfl (fun h => ?_) (fun h => ?_)
  · have h0 : p = [] := List.length_eq_zero_iff.1 (by omega)
    subst h0
    refine build0 (da := .one (.bool false)) (db := U []) (fun S w => ⟨[.bool false], [.slice none 0 0], rfl, rd_false S w, rd_nil S w 1 _⟩) fun z => ?_
    refine store_box (d := J z0) 0 rfl ho rfl (by kernel_rfl) ?_ ?_; exact Reads.fact qM
    refine load_box (d := J z0) 0 rfl ho rfl (load_J _) fun r => ?_
    exact fin ⟨rfl, rfl⟩ (Seals.trans (Seals.drop 0 _ _) (Seals.sub qS))
  · refine len_fact qM fun _ => ?_
    refine ar rfl qI ?_
    refine index_fact qM (p.length - 1) (by omega) (by omega) fun a1 => ?_
    refine load_fact (d := J (p.getD (p.length - 1) z0)) qM (load_J _) fun x1 => ?_
    refine store_box (d := J (p.getD (p.length - 1) z0)) 0 rfl ho rfl (by kernel_rfl) ?_ ?_; exact Reads.fact qM
    refine load_box (d := J (p.getD (p.length - 1) z0)) 0 rfl ho rfl (load_J _) fun r => ?_
    exact fin ⟨rfl, rfl⟩ (Seals.trans (Seals.drop 0 _ _) (Seals.sub qS))
theorem pLeadT (v : Value) (l : List Int) (h0 : l ≠ []) :
    Meets Tryz.prog 121 [v] [(v, vd l)] (fun r os fs => os = [] ∧ fs = [(r, zd (l.getD (l.length - 1) 0))]) := by
  have h := pLead_meets v (l.map cn)
  have h1 : 0 < l.length := List.length_pos_iff.2 h0
  rw [List.length_map, map_cn_get (by omega)] at h
  exact h
theorem rai_0 (s : Nat) (c : Int) (g : Nat → Int) (y : Nat) : I false [] = zd (if y < s then 0 else if y < s + 0 then c * g (y - s) else 0) := by
  rw [zero_zd]
  congr 1
  by_cases h1 : y < s
  · rw [if_pos h1]
  · rw [if_neg h1, if_neg (by omega)]
theorem rai_n (s n : Nat) (c : Int) (g : Nat → Int) (y : Nat) (hy : y < s + n) : zd (if y < s then 0 else if y < s + n then c * g (y - s) else 0) = zd (if y < s then 0 else c * g (y - s)) := by
  congr 1
  by_cases h1 : y < s
  · rw [if_pos h1, if_pos h1]
  · rw [if_neg h1, if_neg h1, if_pos hy]
theorem upd_zd {G H : Nat → Int} {j : Nat} {v : Int} (h1 : H j = v) (h2 : ∀ y, y ≠ j → G y = H y) (y : Nat) : upd (fun y => zd (G y)) j (zd v) y = zd (H y) := by
  unfold upd
  by_cases hy : y = j
  · subst hy
    rw [if_pos rfl, h1]
  · rw [if_neg hy]
    show zd (G y) = zd (H y)
    rw [h2 y hy]
theorem rai_s (s i : Nat) (c : Int) (g : Nat → Int) (y : Nat) : upd (fun y => zd (if y < s then 0 else if y < s + i then c * g (y - s) else 0)) (s + i) (zd (c * g i)) y = zd (if y < s then 0 else if y < s + (i + 1) then c * g (y - s) else 0) :=
  upd_zd (G := fun y => if y < s then 0 else if y < s + i then c * g (y - s) else 0) (H := fun y => if y < s then 0 else if y < s + (i + 1) then c * g (y - s) else 0) (by
    rw [if_neg (by omega), if_pos (by omega), Nat.add_sub_cancel_left]) (fun y hy => by
    by_cases h1 : y < s
    · rw [if_pos h1, if_pos h1]
    · rw [if_neg h1, if_neg h1]
      by_cases h2 : y < s + i
      · rw [if_pos h2, if_pos (by omega)]
      · rw [if_neg h2, if_neg (by omega)]) y
theorem pRaisedJO (v w : Value) (p : Row) (cj : Bool × List Nat) (s : Nat) (k a : Nat) (hp : Fit k p) (hcl : Lim cj.2) (hca : cj.2.length ≤ a) (hk : k + a ≤ 137438953472) (lp : p.length ≤ 1073741824) (ls : s ≤ 1073741824) :
    Meets Tryz.prog 120 [v, w, .int .i64 (s : Nat)] [(v, V p), (w, J cj)] (fun r os fs => isSl r ∧ os = [ownL 2 J z0 r ((prai (jv cj) s (vv p)).map cn)] ∧ fs = []) := by
  have hc : sz (jv cj) a := sz_jv hcl hca
  obtain ⟨c, hcj⟩ : ∃ c, jv cj = c := ⟨_, rfl⟩
  rw [hcj] at hc ⊢
  have hel : ∀ i, i < p.length → sz (c * (vv p).getD i 0) (k + a) := fun i _ => by rw [Nat.add_comm]; exact hc.mul (hp.szR.get i)
  have hfin : prai c s (vv p) = nrm (lst (s + p.length) fun y => if y < s then 0 else c * (vv p).getD (y - s) 0) := by
    unfold prai
    rw [show (vv p).map (fun y => c * y) = lst p.length fun i => c * (vv p).getD i 0 from ?_, up_lst]
    refine List.ext_getElem? fun i => ?_
    by_cases hi : i < p.length
    · simp [lst, hi, vv_len, List.getD_eq_getElem?_getD]
    · simp [lst, hi, vv_len]
  have hszL : szR (k + a) (lst (s + p.length) fun y => if y < s then 0 else c * (vv p).getD (y - s) 0) := szR.lst fun i hi => by
    split
    · exact sz_zero _
    · exact hel _ (by omega)
  refine meets_of_vc Tryz.func120 (by kernel_rfl) rfl (by kernel_rfl) (Nat.le_of_ble_eq_true rfl) ?_
  refine box_fact (Reads.fact (d := J cj) qM) fun q => ?_
  refine len_fact qM fun _ => ?_
  refine ar rfl qI ?_
  refine make_rule (t := 23) (d := I false []) (s + p.length) (by omega) (by omega) (by omega) (by omega) fun u hu => ?_
  refine len_fact qM fun _ => ?_
  refine loop_rule (X := Nat) (fun i => ([(0, v), (2, .int .i64 (s : Nat)), (4, q), (7, u), (15, .int .i64 (p.length : Nat)), (16, .int .i64 (i : Nat))], [own1 u 2 (s + p.length) (fun y => zd (if y < s then 0 else if y < s + i then c * (vv p).getD (y - s) 0 else 0))], [(v, V p), (q, .ptr (J cj))])) (fun i => i ≤ p.length) (fun i => p.length - i) rfl ?_ ?_
  · exact again 0 (Nat.zero_le _) trivial qF (Seals.trans (Seals.own_cong (os := [_]) 0 _ rfl rfl fun y _ => rai_0 s c (fun i => (vv p).getD i 0) y) (Seals.sub qS))
  · rintro i hi
    refine cmp_split _ rfl (fun hlt => ?_) (fun hlt => ?_)
    · have hin : i < p.length := by omega
      have hpi := hp.get i
      have hgi := vv_get p i (by omega)
      refine draw_rule [0, 1, 2, 3, 4, 5, 6, 7, 8, 9, 10, 11] [0, 1, 2, 3, 4, 5, 6, 7, 8, 9, 10, 11] (by kernel_rfl) (by kernel_rfl) ?_
      refine ar rfl qI ?_
      refine load_fact (d := J cj) qM (load_J _) fun y1 => ?_
      refine index_fact qM i rfl hin fun b1 => ?_
      refine load_fact (d := J (p.getD i z0)) qM (load_J _) fun y2 => ?_
      have hmul := zMulJ y1 y2 cj (p.getD i z0) hcl (by omega) hpi.1 (by omega)
      rw [hcj, ← hgi] at hmul
      refine call_fn hmul (Seals.refl _ _) qS ?_
      rintro y3 _ _ ⟨rfl, rfl⟩
      refine index_elem 0 rfl hu (s + i) (by omega) (by omega) ?_
      refine StoreK.post (store_elem (d := zd (c * (vv p).getD i 0)) 0 rfl (s + i) (by omega) rfl (by kernel_rfl) (Reads.fact qM) ⟨_, _, Seals.own_cong (os := [_]) 0 (fun y => zd (if y < s then 0 else if y < s + (i + 1) then c * (vv p).getD (y - s) 0 else 0)) rfl rfl (fun y _ => rai_s s i c (fun i => (vv p).getD i 0) y), ?_⟩)
      refine ar rfl qI ?_
      exact again (i + 1) (by omega) (by simp only; omega) qF (Seals.sub qS)
    · have hip : i = p.length := by omega
      subst hip
      have hn := pNormOT u (lst (s + p.length) fun y => if y < s then 0 else c * (vv p).getD (y - s) 0) (hszL.mono hk) (by rw [lst_len]; omega)
      rw [← hfin] at hn
      refine call_fn hn (Seals.told (g := fun y => if y < s then 0 else c * (vv p).getD (y - s) 0) hu fun y hy => rai_n s _ c (fun i => (vv p).getD i 0) y hy) qS ?_
      rintro r _ _ ⟨hr, rfl, rfl⟩
      exact fin ⟨hr, rfl, rfl⟩ (Seals.nil _ _)
theorem pRaisedJ (v w : Value) (p : Row) (cj : Bool × List Nat) (s : Nat) (k a : Nat) (hp : Fit k p) (hcl : Lim cj.2) (hca : cj.2.length ≤ a) (hk : k + a ≤ 137438953472) (lp : p.length ≤ 1073741824) (ls : s ≤ 1073741824) :
    Meets Tryz.prog 120 [v, w, .int .i64 (s : Nat)] [(v, V p), (w, J cj)] (fun r os fs => os = [] ∧ fs = [(r, vd (prai (jv cj) s (vv p)))]) :=
  (pRaisedJO v w p cj s k a hp hcl hca hk lp ls).closed fun r os fs ⟨h1, h2, h3⟩ => ⟨_, _, ⟨rfl, rfl⟩, by subst h2 h3; exact Seals.toldL h1⟩
theorem pRaised_meets (v w : Value) (p : Row) (c : Int) (s : Nat) (k a : Nat) (hp : Fit k p) (hc : sz c a) (hk : k + a ≤ 137438953472) (lp : p.length ≤ 1073741824) (ls : s ≤ 1073741824) :
    Meets Tryz.prog 120 [v, w, .int .i64 (s : Nat)] [(v, V p), (w, zd c)] (fun r os fs => os = [] ∧ fs = [(r, vd (prai c s (vv p)))]) := by
  have h := pRaisedJ v w p (cn c) s k a hp (Lim_lims _) hc.len hk lp ls
  rw [jv_cn] at h
  exact h
theorem pRaisedT (v w : Value) (l : List Int) (c : Int) (s : Nat) (k a : Nat) (hp : szR k l) (hc : sz c a) (hk : k + a ≤ 137438953472) (lp : l.length ≤ 1073741824) (ls : s ≤ 1073741824) :
    Meets Tryz.prog 120 [v, w, .int .i64 (s : Nat)] [(v, vd l), (w, zd c)] (fun r os fs => os = [] ∧ fs = [(r, vd (prai c s l))]) := by
  have h := pRaised_meets v w (l.map cn) c s k a hp.fit hc hk (by rw [List.length_map]; exact lp) ls
  rw [vv_cn] at h
  exact h
open Go.RowKit
theorem load_elem' {P : Program} {t : TypeId} {v : Value} {size n : Nat} {e : Nat → Dat} {os : List Own} {fs : List Fact} {K : Cont} (pos : Nat) (h : nthOwn os pos = some (own1 v size n e)) (j : Nat)
    (hj : j < n) {d : Dat} (hd : e j = d) (ht : LoadAs P t d) (k' : ∀ u, K u os ((u, d) :: fs)) : LoadK P t (eptr v (j * size)) os fs K := by
  subst hd
  exact load_elem pos h j hj ht k'
theorem zAddJ (v w : Value) (x y : Bool × List Nat) (hx : Lim x.2) (lx : x.2.length ≤ 137438953472) (hy : Lim y.2) (ly : y.2.length ≤ 137438953472) :
    Meets Tryz.prog 97 [v, w] [(v, J x), (w, J y)] (fun r os fs => os = [] ∧ fs = [(r, zd (jv x + jv y))]) := zadd_meets v w x.1 y.1 x.2 y.2 hx hy lx ly
def sumco (ps : List Row) (i y : Nat) : Int := isum (fun t => (vv (ps.getD t [])).getD y 0) i
theorem sumco_sz {ps : List Row} {k i : Nat} (h : Fits k ps) (hi : i < 18446744073709551616) (y : Nat) : sz (sumco ps i y) (k + 1) := isum_sz (fun t _ => (h.get t).szR.get y) hi
def mxl (ps : List Row) : Nat → Nat
  | 0 => 0
  | i + 1 => max (mxl ps i) (ps.getD i []).length
theorem mxl_le {ps : List Row} {n m : Nat} (h : ∀ i, (ps.getD i []).length ≤ m) : mxl ps n ≤ m := by
  induction n with
  | zero => exact Nat.zero_le _
  | succ n ih => exact Nat.max_le.2 ⟨ih, h n⟩
theorem le_mxl {ps : List Row} {n i : Nat} (h : i < n) : (ps.getD i []).length ≤ mxl ps n := by
  induction n with
  | zero => omega
  | succ n ih =>
    by_cases e : i = n
    · subst e; exact Nat.le_max_right _ _
    · exact Nat.le_trans (ih (by omega)) (Nat.le_max_left _ _)
theorem sum_s (a b : Nat → Int) (j y : Nat) : upd (fun y => zd (a y + if y < j then b y else 0)) j (zd (a j + b j)) y = zd (a y + if y < j + 1 then b y else 0) :=
  upd_zd (G := fun y => a y + if y < j then b y else 0) (H := fun y => a y + if y < j + 1 then b y else 0) (by
    rw [if_pos (by omega)]) (fun y hy => by
    by_cases h2 : y < j
    · rw [if_pos h2, if_pos (by omega)]
    · rw [if_neg h2, if_neg (by omega)]) y
theorem pSumO_meets (v : Value) (ps : List Row) (k : Nat) (hf : Fits k ps) (hk : k + 1 ≤ 137438953472) (lp : ps.length ≤ 1048576) (ln : ∀ i, (ps.getD i []).length ≤ 4294967296) :
    Meets Tryz.prog 119 [v] [(v, W ps)] (fun r os fs => isSl r ∧ os = [ownL 2 J z0 r ((nrm (lst (mxl ps ps.length) (sumco ps ps.length))).map cn)] ∧ fs = []) := by
  have hM : mxl ps ps.length ≤ 4294967296 := mxl_le ln
  have hss : ∀ i y, i ≤ ps.length → sz (sumco ps i y) (k + 1) := fun i y hi => sumco_sz hf (by omega) y
  have hle : ∀ i, i < ps.length → (ps.getD i []).length ≤ mxl ps ps.length := fun i hi => le_mxl hi
  generalize hMe : mxl ps ps.length = M at *
  refine meets_of_vc Tryz.func119 (by kernel_rfl) rfl (by kernel_rfl) (Nat.le_of_ble_eq_true rfl) ?_
  refine len_fact qM fun _ => ?_
  refine loop_rule (X := Nat) (fun i => ([(0, v), (3, .int .i64 (mxl ps i : Nat)), (11, v), (12, .int .i64 (ps.length : Nat)), (13, .int .i64 (i : Nat))], [], [(v, W ps)])) (fun i => i ≤ ps.length) (fun i => ps.length - i) rfl ?_ ?_
  · exact again 0 (Nat.zero_le _) trivial qF (Seals.sub qS)
  · rintro i hi
    refine cmp_split _ rfl (fun hlt => ?_) (fun hlt => ?_)
    · have hin : i < ps.length := by omega
      refine index_fact qM i rfl hin fun a1 => ?_
      refine load_fact (d := V (ps.getD i [])) qM (load_P _) fun x1 => ?_
      refine len_fact qM fun _ => ?_
      refine max2_rule ?_
      refine ar rfl qI ?_
      have hmx : mxl ps (i + 1) = max (mxl ps i) (ps.getD i []).length := rfl
      exact again (i + 1) (by omega) (by simp only; omega) qF (Seals.sub qS)
    · have hip : i = ps.length := by omega
      subst hip
      rw [hMe]
      refine make_rule (t := 23) (d := I false []) M rfl rfl (by omega) (by omega) fun u hu => ?_
      refine len_fact qM fun _ => ?_
      refine loop_rule (X := Nat) (fun i => ([(6, u), (24, v), (25, .int .i64 (ps.length : Nat)), (26, .int .i64 (i : Nat))], [own1 u 2 M (fun y => zd (sumco ps i y))], [(v, W ps)])) (fun i => i ≤ ps.length) (fun i => ps.length - i) rfl ?_ ?_
      · exact again 0 (Nat.zero_le _) trivial qF (Seals.trans (Seals.own_cong (os := [_]) 0 (fun y => zd (sumco ps 0 y)) rfl rfl fun y _ => zero_zd) (Seals.sub qS))
      · rintro i hi
        refine cmp_split _ rfl (fun hlt => ?_) (fun hlt => ?_)
        · have hin : i < ps.length := by omega
          have hli := hle i hin
          have hfi := hf.get i
          refine index_fact qM i rfl hin fun a1 => ?_
          refine load_fact (d := V (ps.getD i [])) qM (load_P _) fun x1 => ?_
          refine len_fact qM fun _ => ?_
          have hnext : ∀ y, sumco ps (i + 1) y = sumco ps i y + (vv (ps.getD i [])).getD y 0 := fun y => rfl
          generalize hp : ps.getD i [] = p at *
          refine loop_rule (X := Nat) (fun j => ([(6, u), (24, v), (25, .int .i64 (ps.length : Nat)), (26, .int .i64 (i : Nat)), (30, x1), (31, .int .i64 (p.length : Nat)), (32, .int .i64 (j : Nat))],
            [own1 u 2 M (fun y => zd (sumco ps i y + if y < j then (vv p).getD y 0 else 0))], [(v, W ps), (x1, V p)])) (fun j => j ≤ p.length) (fun j => p.length - j) rfl ?_ ?_
          · exact again 0 (Nat.zero_le _) trivial qF (Seals.trans (Seals.own_cong (os := [_]) 0 (fun y => zd (sumco ps i y + if y < 0 then (vv p).getD y 0 else 0)) rfl rfl fun y _ => by rw [if_neg (Nat.not_lt_zero _), Int.add_zero]) (Seals.sub qS))
          · rintro j hj
            refine cmp_split _ rfl (fun hlj => ?_) (fun hlj => ?_)
            · have hjn : j < p.length := by omega
              have hpj := hfi.get j
              have hgj := vv_get p j hjn
              have hsj := hss i j hi
              refine index_fact qM j rfl hjn fun b1 => ?_
              refine load_fact (d := J (p.getD j z0)) qM (load_J _) fun y1 => ?_
              refine alloc_rule (d := I false []) fun q hq => ?_
              refine store_box (d := J (p.getD j z0)) 0 rfl hq rfl (by kernel_rfl) ?_ ?_; exact Reads.fact qM
              refine draw_rule [0, 1, 2, 3, 4, 5, 6, 7, 8, 9] [0, 1, 2, 3, 4, 5, 6, 7, 8, 9] (by kernel_rfl) (by kernel_rfl) ?_
              refine index_elem 1 rfl hu j rfl (by omega) ?_
              refine load_elem' (d := zd (sumco ps i j)) 1 rfl j (by omega) (by simp) (load_I _ _) fun y2 => ?_
              refine load_box (d := J (p.getD j z0)) 0 rfl hq rfl (load_J _) fun y3 => ?_
              have hadd := zAddJ y2 y3 (cn (sumco ps i j)) (p.getD j z0) (Lim_lims _) (Nat.le_trans hsj.len (by omega)) hpj.1 (by omega)
              rw [jv_cn, ← hgj] at hadd
              refine call_fn hadd (Seals.refl _ _) qS ?_
              rintro y4 _ _ ⟨rfl, rfl⟩
              refine index_elem 1 rfl hu j rfl (by omega) ?_
              refine StoreK.post (store_elem (d := zd (sumco ps i j + (vv p).getD j 0)) 1 rfl j (by omega) rfl (by kernel_rfl) (Reads.fact qM) ⟨_, _, Seals.own_cong (os := [_, _]) 1 (fun y => zd (sumco ps i y + if y < j + 1 then (vv p).getD y 0 else 0)) rfl rfl (fun y _ => sum_s (sumco ps i) (fun y => (vv p).getD y 0) j y), ?_⟩)
              refine ar rfl qI ?_
              exact again (j + 1) (by omega) (by simp only; omega) qF (Seals.trans (Seals.drop 0 _ _) (Seals.sub qS))
            · have hend : ∀ y, zd (sumco ps i y + if y < j then (vv p).getD y 0 else 0) = zd (sumco ps (i + 1) y) := fun y => by
                rw [hnext]
                by_cases h2 : y < j
                · rw [if_pos h2]
                · rw [if_neg h2, getD_none (by rw [vv_len]; omega)]
              refine ar rfl qI ?_
              refine again (i + 1) (by omega) (by simp only; omega) qF (Seals.trans (Seals.own_cong (os := [_]) 0 (fun y => zd (sumco ps (i + 1) y)) rfl rfl fun y _ => hend y) (Seals.sub qS))
        · have hip : i = ps.length := by omega
          subst hip
          refine call_fn (pNormOT u (lst M (sumco ps ps.length)) (szR.lst fun y _ => (hss _ y (Nat.le_refl _)).mono hk) (by rw [lst_len]; omega)) (Seals.told (g := sumco ps ps.length) hu fun y hy => rfl) qS ?_
          rintro r _ _ ⟨hr, rfl, rfl⟩
          exact fin ⟨hr, rfl, rfl⟩ (Seals.nil _ _)
theorem padd_eq (p q : Row) : nrm (lst (mxl [p, q] 2) (sumco [p, q] 2)) = padd (vv p) (vv q) := by
  unfold padd
  have h1 : mxl [p, q] 2 = max (vv p).length (vv q).length := by
    rw [vv_len, vv_len]
    show max (max 0 p.length) q.length = _
    omega
  rw [h1]
  congr 1
  refine lst_congr fun i _ => ?_
  show 0 + (vv p).getD i 0 + (vv q).getD i 0 = _
  omega
theorem pSum2O_meets (v : Value) (p q : Row) (k : Nat) (hp : Fit k p) (hq : Fit k q) (hk : k + 1 ≤ 137438953472) (lp : p.length ≤ 4294967296) (lq : q.length ≤ 4294967296) :
    Meets Tryz.prog 119 [v] [(v, W [p, q])] (fun r os fs => isSl r ∧ os = [ownL 2 J z0 r ((padd (vv p) (vv q)).map cn)] ∧ fs = []) := by
  have h := pSumO_meets v [p, q] k (fun r hr => by
    rcases List.mem_cons.1 hr with rfl | hr
    · exact hp
    · rcases List.mem_cons.1 hr with rfl | hr
      · exact hq
      · simp at hr) hk (by show 2 ≤ 1048576; omega) (fun i => by
    match i with
    | 0 => exact lp
    | 1 => exact lq
    | i + 2 => show 0 ≤ _; omega)
  have e : nrm (lst (mxl [p, q] [p, q].length) (sumco [p, q] [p, q].length)) = padd (vv p) (vv q) := padd_eq p q
  rw [e] at h
  exact h
theorem pSum2_meets (v : Value) (p q : Row) (k : Nat) (hp : Fit k p) (hq : Fit k q) (hk : k + 1 ≤ 137438953472) (lp : p.length ≤ 4294967296) (lq : q.length ≤ 4294967296) :
    Meets Tryz.prog 119 [v] [(v, W [p, q])] (fun r os fs => os = [] ∧ fs = [(r, vd (padd (vv p) (vv q)))]) :=
  (pSum2O_meets v p q k hp hq hk lp lq).closed fun r os fs ⟨h1, h2, h3⟩ => ⟨_, _, ⟨rfl, rfl⟩, by subst h2 h3; exact Seals.toldL h1⟩
open Go.RowKit
theorem prai_zero (c : Int) (l : List Int) : prai c 0 l = ptim c l := rfl
theorem szR.map {k a : Nat} {c : Int} {l : List Int} (h : szR k l) (hc : sz c a) : szR (k + a) (l.map fun y => c * y) := fun x hx => by
  obtain ⟨y, hy, rfl⟩ := List.mem_map.1 hx
  rw [Nat.add_comm]; exact hc.mul (h y hy)
theorem szR.prai {k a : Nat} {c : Int} {l : List Int} (h : szR k l) (hc : sz c a) (s : Nat) : szR (k + a) (prai c s l) := szR.nrm fun x hx => by
  rcases List.mem_append.1 hx with h1 | h1
  · rw [(List.mem_replicate.1 h1).2]; exact sz_zero _
  · exact h.map hc x h1
theorem prai_len (c : Int) (s : Nat) (l : List Int) : (prai c s l).length ≤ s + l.length := Nat.le_trans (nrm_length_le _) (by rw [up_len, List.length_map]; exact Nat.le_refl _)
theorem szR.padd {k : Nat} {l m : List Int} (h : szR k l) (h' : szR k m) : szR (k + 1) (padd l m) := szR.nrm (szR.lst fun i _ => by
  have := sz_sub (h.get i) ((h'.get i).neg)
  rwa [Int.sub_neg] at this)
theorem padd_len (l m : List Int) : (padd l m).length ≤ max l.length m.length := Nat.le_trans (nrm_length_le _) (by rw [lst_len]; exact Nat.le_refl _)
theorem szR.psub {k : Nat} {l m : List Int} (h : szR k l) (h' : szR k m) : szR (k + 1) (psub l m) := szR.nrm (szR.lst fun i _ => sz_sub (h.get i) (h'.get i))
theorem psub_len (l m : List Int) : (psub l m).length ≤ max l.length m.length := Nat.le_trans (nrm_length_le _) (by rw [lst_len]; exact Nat.le_refl _)
theorem szR.neg {k : Nat} {l : List Int} (h : szR k l) : szR k (Go.Proofs.YtjebljkoiaojaaaGreat.prai (-1) 0 l) := szR.nrm fun x hx => by
  rcases List.mem_append.1 hx with h1 | h1
  · rw [(List.mem_replicate.1 h1).2]; exact sz_zero _
  · obtain ⟨y, hy, rfl⟩ := List.mem_map.1 h1
    have := (h y hy).neg
    rwa [← Int.neg_one_mul] at this
theorem padd_neg (l m : List Int) : padd l (prai (-1) 0 m) = psub l m := (padd_nm _ _).ext (psub_nm _ _) fun x => by
  rw [ev_padd, ev_prai, ev_psub, Int.pow_zero]; omega
theorem sz_one (x : Int) (h : x.natAbs ≤ 1) : sz x 1 := by
  unfold sz; omega
theorem pTimesJO (v w : Value) (p : Row) (cj : Bool × List Nat) (k a : Nat) (hp : Fit k p) (hcl : Lim cj.2) (hca : cj.2.length ≤ a) (hk : k + a ≤ 137438953472) (lp : p.length ≤ 1073741824) :
    Meets Tryz.prog 81 [v, w] [(v, V p), (w, J cj)] (fun r os fs => isSl r ∧ os = [ownL 2 J z0 r ((ptim (jv cj) (vv p)).map cn)] ∧ fs = []) := by
  have hr := fun u => pRaisedJO v u p cj 0 k a hp hcl hca hk lp (by omega)
  simp only [prai_zero] at hr
  refine meets_of_vc Tryz.func81 (by kernel_rfl) rfl (by kernel_rfl) (Nat.le_of_ble_eq_true rfl) ?_
  refine box_fact (Reads.fact (d := J cj) qM) fun q => ?_
  refine load_fact (d := J cj) qM (load_J _) fun y1 => ?_
  refine call_fn (hr y1) (Seals.refl _ _) qS ?_
  rintro r _ _ ⟨hr, rfl, rfl⟩
  exact fin ⟨hr, rfl, rfl⟩ (Seals.nil _ _)
theorem pTimesJ (v w : Value) (p : Row) (cj : Bool × List Nat) (k a : Nat) (hp : Fit k p) (hcl : Lim cj.2) (hca : cj.2.length ≤ a) (hk : k + a ≤ 137438953472) (lp : p.length ≤ 1073741824) :
    Meets Tryz.prog 81 [v, w] [(v, V p), (w, J cj)] (fun r os fs => os = [] ∧ fs = [(r, vd (ptim (jv cj) (vv p)))]) :=
  (pTimesJO v w p cj k a hp hcl hca hk lp).closed fun r os fs ⟨h1, h2, h3⟩ => ⟨_, _, ⟨rfl, rfl⟩, by subst h2 h3; exact Seals.toldL h1⟩
theorem pTimes_meets (v w : Value) (p : Row) (c : Int) (k a : Nat) (hp : Fit k p) (hc : sz c a) (hk : k + a ≤ 137438953472) (lp : p.length ≤ 1073741824) :
    Meets Tryz.prog 81 [v, w] [(v, V p), (w, zd c)] (fun r os fs => os = [] ∧ fs = [(r, vd (ptim c (vv p)))]) := by
  have h := pTimesJ v w p (cn c) k a hp (Lim_lims _) hc.len hk lp
  rw [jv_cn] at h
  exact h
theorem pTimesT (v w : Value) (l : List Int) (c : Int) (k a : Nat) (hp : szR k l) (hc : sz c a) (hk : k + a ≤ 137438953472) (lp : l.length ≤ 1073741824) :
    Meets Tryz.prog 81 [v, w] [(v, vd l), (w, zd c)] (fun r os fs => os = [] ∧ fs = [(r, vd (ptim c l))]) := by
  have h := pTimes_meets v w (l.map cn) c k a hp.fit hc hk (by rw [List.length_map]; exact lp)
  rw [vv_cn] at h
  exact h
theorem pSubO_meets (v w : Value) (p q : Row) (k : Nat) (hp : Fit k p) (hq : Fit k q) (hk : k + 1 ≤ 137438953472) (lp : p.length ≤ 1073741824) (lq : q.length ≤ 1073741824) :
    Meets Tryz.prog 78 [v, w] [(v, V p), (w, V q)] (fun r os fs => isSl r ∧ os = [ownL 2 J z0 r ((psub (vv p) (vv q)).map cn)] ∧ fs = []) := by
  have hr := fun u => pRaised_meets w u q (-1) 0 k 1 hq (sz_one _ (by decide)) hk lq (by omega)
  have hs := fun u => pSum2O_meets u p ((prai (-1) 0 (vv q)).map cn) k hp hq.szR.neg.fit hk (by omega) (by
    have := prai_len (-1) 0 (vv q)
    rw [vv_len] at this
    rw [List.length_map]; omega)
  simp only [vv_cn, padd_neg] at hs
  refine meets_of_vc Tryz.func78 (by kernel_rfl) rfl (by kernel_rfl) (Nat.le_of_ble_eq_true rfl) ?_
  refine call_fn (zof_meets (-1) (by decide) (by decide)) (Seals.refl _ _) qS ?_
  rintro x1 _ _ ⟨rfl, rfl⟩
  refine call_fn (hr x1) (Seals.refl _ _) qS ?_
  rintro x2 _ _ ⟨rfl, rfl⟩
  refine lit2_L (size := 1) (f := V) (z := []) (e := 23) p ((prai (-1) 0 (vv q)).map cn) (by decide) (Reads.fact qM) (Reads.fact qM) rfl rfl fun x3 => ?_
  refine call_fn (hs x3) (Seals.refl _ _) qS ?_
  rintro r _ _ ⟨hr, rfl, rfl⟩
  exact fin ⟨hr, rfl, rfl⟩ (Seals.nil _ _)
theorem pSub_meets (v w : Value) (p q : Row) (k : Nat) (hp : Fit k p) (hq : Fit k q) (hk : k + 1 ≤ 137438953472) (lp : p.length ≤ 1073741824) (lq : q.length ≤ 1073741824) :
    Meets Tryz.prog 78 [v, w] [(v, V p), (w, V q)] (fun r os fs => os = [] ∧ fs = [(r, vd (psub (vv p) (vv q)))]) :=
  (pSubO_meets v w p q k hp hq hk lp lq).closed fun r os fs ⟨h1, h2, h3⟩ => ⟨_, _, ⟨rfl, rfl⟩, by subst h2 h3; exact Seals.toldL h1⟩
theorem pSubT (v w : Value) (l m : List Int) (k : Nat) (hl : szR k l) (hm : szR k m) (hk : k + 1 ≤ 137438953472) (ll : l.length ≤ 1073741824) (lm : m.length ≤ 1073741824) :
    Meets Tryz.prog 78 [v, w] [(v, vd l), (w, vd m)] (fun r os fs => os = [] ∧ fs = [(r, vd (psub l m))]) := by
  have h := pSub_meets v w (l.map cn) (m.map cn) k hl.fit hm.fit hk (by rw [List.length_map]; exact ll) (by rw [List.length_map]; exact lm)
  rw [vv_cn, vv_cn] at h
  exact h
theorem pSumT (v : Value) (l m : List Int) (k : Nat) (hl : szR k l) (hm : szR k m) (hk : k + 1 ≤ 137438953472) (ll : l.length ≤ 4294967296) (lm : m.length ≤ 4294967296) :
    Meets Tryz.prog 119 [v] [(v, W [l.map cn, m.map cn])] (fun r os fs => os = [] ∧ fs = [(r, vd (padd l m))]) := by
  have h := pSum2_meets v (l.map cn) (m.map cn) k hl.fit hm.fit hk (by rw [List.length_map]; exact ll) (by rw [List.length_map]; exact lm)
  rw [vv_cn, vv_cn] at h
  exact h
theorem pSubOT (v w : Value) (l m : List Int) (k : Nat) (hl : szR k l) (hm : szR k m) (hk : k + 1 ≤ 137438953472) (ll : l.length ≤ 1073741824) (lm : m.length ≤ 1073741824) :
    Meets Tryz.prog 78 [v, w] [(v, vd l), (w, vd m)] (fun r os fs => isSl r ∧ os = [ownL 2 J z0 r ((psub l m).map cn)] ∧ fs = []) := by
  have h := pSubO_meets v w (l.map cn) (m.map cn) k hl.fit hm.fit hk (by rw [List.length_map]; exact ll) (by rw [List.length_map]; exact lm)
  rw [vv_cn, vv_cn] at h
  exact h
theorem pRaisedOT (v w : Value) (l : List Int) (c : Int) (s : Nat) (k a : Nat) (hp : szR k l) (hc : sz c a) (hk : k + a ≤ 137438953472) (lp : l.length ≤ 1073741824) (ls : s ≤ 1073741824) :
    Meets Tryz.prog 120 [v, w, .int .i64 (s : Nat)] [(v, vd l), (w, zd c)] (fun r os fs => isSl r ∧ os = [ownL 2 J z0 r ((prai c s l).map cn)] ∧ fs = []) := by
  have h := pRaisedJO v w (l.map cn) (cn c) s k a hp.fit (Lim_lims _) hc.len hk (by rw [List.length_map]; exact lp) ls
  rw [vv_cn, jv_cn] at h
  exact h
theorem pTimesOT (v w : Value) (l : List Int) (c : Int) (k a : Nat) (hp : szR k l) (hc : sz c a) (hk : k + a ≤ 137438953472) (lp : l.length ≤ 1073741824) :
    Meets Tryz.prog 81 [v, w] [(v, vd l), (w, zd c)] (fun r os fs => isSl r ∧ os = [ownL 2 J z0 r ((ptim c l).map cn)] ∧ fs = []) := by
  have h := pTimesJO v w (l.map cn) (cn c) k a hp.fit (Lim_lims _) hc.len hk (by rw [List.length_map]; exact lp)
  rw [vv_cn, jv_cn] at h
  exact h
open Go.RowKit
theorem conv_succ (a b : List Int) (i y : Nat) : conv a b (i + 1) y = conv a b i y + if i ≤ y then a.getD i 0 * b.getD (y - i) 0 else 0 := rfl
theorem conv_sz {a b : List Int} {k l m : Nat} (ha : szR k a) (hb : szR l b) (hm : m < 18446744073709551616) (y : Nat) : sz (conv a b m y) (k + l + 1) := isum_sz (fun t _ => by
  split
  · exact (ha.get t).mul (hb.get _)
  · exact sz_zero _) hm
def mst (a b : List Int) (i k y : Nat) : Int := conv a b i y + if i ≤ y ∧ y < i + k then a.getD i 0 * b.getD (y - i) 0 else 0
theorem mst_0 (a b : List Int) (i y : Nat) : mst a b i 0 y = conv a b i y := by unfold mst; rw [if_neg (by omega)]; omega
theorem mst_at (a b : List Int) (i k : Nat) : mst a b i k (i + k) = conv a b i (i + k) := by unfold mst; rw [if_neg (by omega)]; omega
theorem mst_n (a b : List Int) (i y : Nat) : mst a b i b.length y = conv a b (i + 1) y := by
  unfold mst
  rw [conv_succ]
  by_cases h : i ≤ y
  · by_cases h2 : y < i + b.length
    · rw [if_pos ⟨h, h2⟩, if_pos h]
    · rw [if_neg (by omega), if_pos h, getD_none (l := b) (by omega)]; simp
  · rw [if_neg (by omega), if_neg h]
theorem mst_s (a b : List Int) (i k y : Nat) : upd (fun y => zd (mst a b i k y)) (i + k) (zd (conv a b i (i + k) + a.getD i 0 * b.getD k 0)) y = zd (mst a b i (k + 1) y) :=
  upd_zd (G := fun y => mst a b i k y) (H := fun y => mst a b i (k + 1) y) (by
    unfold mst
    rw [if_pos (by omega), Nat.add_sub_cancel_left]) (fun y hy => by
    unfold mst
    congr 1
    by_cases h : i ≤ y ∧ y < i + k
    · rw [if_pos h, if_pos (by omega)]
    · rw [if_neg h, if_neg (by omega)]) y
theorem pMul_meets (v w : Value) (p q : Row) (k l : Nat) (hp : Fit k p) (hq : Fit l q) (hk : k + l + 1 ≤ 137438953472) (lp : p.length ≤ 1073741824) (lq : q.length ≤ 1073741824) :
    Meets Tryz.prog 79 [v, w] [(v, V p), (w, V q)] (fun r os fs => os = [] ∧ fs = [(r, vd (pmul (vv p) (vv q)))]) := by
  have h1 := pNorm_meets v p (hp.mono (by omega)) (by omega)
  have h2 := pNorm_meets w q (hq.mono (by omega)) (by omega)
  have sa := hp.szR.nrm
  have sb := hq.szR.nrm
  have la : (nrm (vv p)).length ≤ 1073741824 := Nat.le_trans (nrm_length_le _) (by rw [vv_len]; exact lp)
  have lb : (nrm (vv q)).length ≤ 1073741824 := Nat.le_trans (nrm_length_le _) (by rw [vv_len]; exact lq)
  have hdef : pmul (vv p) (vv q) = if nrm (vv p) = [] ∨ nrm (vv q) = [] then [] else nrm (lst ((nrm (vv p)).length + (nrm (vv q)).length - 1) fun y => conv (nrm (vv p)) (nrm (vv q)) (nrm (vv p)).length y) := rfl
  generalize hPM : pmul (vv p) (vv q) = PM at *
  generalize hA : nrm (vv p) = A at *
  generalize hB : nrm (vv q) = B at *
  have hcs : ∀ i y, i ≤ A.length → sz (conv A B i y) (k + l + 1) := fun i y hi => conv_sz sa sb (by omega) y
  have h3 := fun u (hne : PM = nrm (lst (A.length + B.length - 1) fun y => conv A B A.length y)) => pNormT u (lst (A.length + B.length - 1) fun y => conv A B A.length y) ((szR.lst fun y _ => hcs _ y (Nat.le_refl _)).mono hk) (by rw [lst_len]; omega)
  refine meets_of_vc Tryz.func79 (by kernel_rfl) rfl (by kernel_rfl) (Nat.le_of_ble_eq_true rfl) ?_
  refine call_fn h1 (Seals.refl _ _) qS ?_
  rintro x1 _ _ ⟨rfl, rfl⟩
  refine call_fn h2 (Seals.refl _ _) qS ?_
  rintro x2 _ _ ⟨rfl, rfl⟩
  refine len_vd qM ?_
  refine cmp_split _ rfl (fun hz => ?_) (fun hz => ?_)
  · have : A = [] := List.length_eq_zero_iff.1 (by omega)
    rw [if_pos (.inl this)] at hdef
    exact fin ⟨rfl, rfl⟩ (by rw [hdef]; exact Seals.cons (Knw.nil 2 _) (Seals.nil _ _))
  refine len_vd qM ?_
  refine cmp_split _ rfl (fun hy => ?_) (fun hy => ?_)
  · have : B = [] := List.length_eq_zero_iff.1 (by omega)
    rw [if_pos (.inr this)] at hdef
    exact fin ⟨rfl, rfl⟩ (by rw [hdef]; exact Seals.cons (Knw.nil 2 _) (Seals.nil _ _))
  have hne : ¬ (A = [] ∨ B = []) := by
    rintro (h | h)
    · rw [h] at hz; simp at hz
    · rw [h] at hy; simp at hy
  rw [if_neg hne] at hdef
  refine len_vd qM ?_
  refine len_vd qM ?_
  refine ar rfl qI ?_
  refine ar rfl qI ?_
  refine make_rule (t := 23) (d := I false []) (A.length + B.length - 1) (by omega) (by omega) (by omega) (by omega) fun u hu => ?_
  refine len_vd qM ?_
  refine loop_rule (X := Nat) (fun i => ([(5, x1), (6, x2), (7, u), (31, x1), (32, .int .i64 (A.length : Nat)), (33, .int .i64 (i : Nat))], [own1 u 2 (A.length + B.length - 1) (fun y => zd (conv A B i y))], [(x1, vd A), (x2, vd B)])) (fun i => i ≤ A.length) (fun i => A.length - i) rfl ?_ ?_
  · exact again 0 (Nat.zero_le _) trivial qF (Seals.trans (Seals.own_cong (os := [_]) 0 (fun y => zd (conv A B 0 y)) rfl rfl fun y _ => zero_zd) (Seals.sub qS))
  · rintro i hi
    refine cmp_split _ rfl (fun hlt => ?_) (fun hlt => ?_)
    · have hin : i < A.length := by omega
      have hai := sa.get i
      refine index_vd qM i rfl hin fun b1 => ?_
      refine load_fact (d := zd (A.getD i 0)) qM (load_I _ _) fun y1 => ?_
      refine alloc_rule (d := I false []) fun q1 hq1 => ?_
      refine store_box (d := zd (A.getD i 0)) 0 rfl hq1 rfl (by kernel_rfl) ?_ ?_; exact Reads.fact qM
      refine len_vd qM ?_
      refine loop_rule (X := Nat) (fun j => ([(5, x1), (6, x2), (7, u), (31, x1), (32, .int .i64 (A.length : Nat)), (33, .int .i64 (i : Nat)), (8, .int .i64 (i : Nat)), (9, q1), (38, x2), (39, .int .i64 (B.length : Nat)), (40, .int .i64 (j : Nat))],
        [own1 q1 2 1 (fun _ => zd (A.getD i 0)), own1 u 2 (A.length + B.length - 1) (fun y => zd (mst A B i j y))], [(x1, vd A), (x2, vd B)])) (fun j => j ≤ B.length) (fun j => B.length - j) rfl ?_ ?_
      · exact again 0 (Nat.zero_le _) trivial qF (Seals.trans (Seals.box0 rfl) (Seals.trans (Seals.own_cong (os := [_, _]) 1 (fun y => zd (mst A B i 0 y)) rfl rfl fun y _ => by rw [mst_0]) (Seals.sub qS)))
      · rintro j hj
        refine cmp_split _ rfl (fun hlj => ?_) (fun hlj => ?_)
        · have hjn : j < B.length := by omega
          have hbj := sb.get j
          have hcj := hcs i (i + j) hi
          refine index_vd qM j rfl hjn fun b2 => ?_
          refine load_fact (d := zd (B.getD j 0)) qM (load_I _ _) fun y2 => ?_
          refine alloc_rule (d := I false []) fun q2 hq2 => ?_
          refine store_box (d := zd (B.getD j 0)) 0 rfl hq2 rfl (by kernel_rfl) ?_ ?_; exact Reads.fact qM
          refine draw_rule [0, 1, 2, 3, 4, 5, 6, 7, 8, 9, 10, 11, 12, 13, 14, 15] [0, 1, 2, 3, 4, 5, 6, 7, 8, 9, 10, 11, 12, 13, 14, 15] (by kernel_rfl) (by kernel_rfl) ?_
          refine ar rfl qI ?_
          refine ar rfl qI ?_
          refine index_elem 2 rfl hu (i + j) (by omega) (by omega) ?_
          refine load_elem' (d := zd (conv A B i (i + j))) 2 rfl (i + j) (by omega) (by rw [mst_at]) (load_I _ _) fun y3 => ?_
          refine load_box (d := zd (A.getD i 0)) 1 rfl hq1 rfl (load_I _ _) fun y4 => ?_
          refine load_box (d := zd (B.getD j 0)) 0 rfl hq2 rfl (load_I _ _) fun y5 => ?_
          refine call_fn (zMulZ y4 y5 _ _ _ _ hai hbj (by omega) (by omega)) (Seals.refl _ _) qS ?_
          rintro y6 _ _ ⟨rfl, rfl⟩
          refine call_fn (zAddZ y3 y6 _ _ _ _ hcj (hai.mul hbj) (by omega) (by omega)) (Seals.refl _ _) qS ?_
          rintro y7 _ _ ⟨rfl, rfl⟩
          refine index_elem 2 rfl hu (i + j) (by omega) (by omega) ?_
          refine StoreK.post (store_elem (d := zd (conv A B i (i + j) + A.getD i 0 * B.getD j 0)) 2 rfl (i + j) (by omega) rfl (by kernel_rfl) (Reads.fact qM) ⟨_, _, Seals.own_cong (os := [_, _, _]) 2 (fun y => zd (mst A B i (j + 1) y)) rfl rfl (fun y _ => mst_s A B i j y), ?_⟩)
          refine ar rfl qI ?_
          exact again (j + 1) (by omega) (by simp only; omega) qF (Seals.trans (Seals.drop 0 _ _) (Seals.sub qS))
        · have hjB : j = B.length := by omega
          subst hjB
          refine ar rfl qI ?_
          exact again (i + 1) (by omega) (by simp only; omega) qF (Seals.trans (Seals.drop 0 _ _) (Seals.trans (Seals.own_cong (os := [_]) 0 (fun y => zd (conv A B (i + 1) y)) rfl rfl fun y _ => by rw [mst_n]) (Seals.sub qS)))
    · have hip : i = A.length := by omega
      subst hip
      have h3' := h3 u hdef
      rw [← hdef] at h3'
      refine call_fn h3' (Seals.told (g := fun y => conv A B A.length y) hu fun y hy => rfl) qS ?_
      rintro r _ _ ⟨rfl, rfl⟩
      exact fin ⟨rfl, rfl⟩ (Seals.sub qS)
theorem pMulT (v w : Value) (p q : List Int) (k l : Nat) (hp : szR k p) (hq : szR l q) (hk : k + l + 1 ≤ 137438953472) (lp : p.length ≤ 1073741824) (lq : q.length ≤ 1073741824) :
    Meets Tryz.prog 79 [v, w] [(v, vd p), (w, vd q)] (fun r os fs => os = [] ∧ fs = [(r, vd (pmul p q))]) := by
  have h := pMul_meets v w (p.map cn) (q.map cn) k l hp.fit hq.fit hk (by rw [List.length_map]; exact lp) (by rw [List.length_map]; exact lq)
  rw [vv_cn, vv_cn] at h
  exact h
theorem ev_sz {l : List Int} {x : Int} {k a : Nat} (h : szR k l) (hx : sz x a) : sz (pev l x) (k + l.length * (a + 1)) := by
  induction l with
  | nil => exact sz_zero _
  | cons c l ih =>
    have h1 := ih fun y hy => h y (.tail _ hy)
    have h2 := hx.mul h1
    have h3 : sz c (a + (k + l.length * (a + 1))) := (h c (.head _)).mono (by omega)
    have h4 := sz_sub h3 h2.neg
    rw [Int.sub_neg] at h4
    refine h4.mono ?_
    rw [List.length_cons, Nat.succ_mul]; omega
theorem ev_drop {l : List Int} {i : Nat} (h : i < l.length) (x : Int) : pev (l.drop i) x = l.getD i 0 + x * pev (l.drop (i + 1)) x := by
  rw [List.drop_eq_getElem_cons h]
  simp [pev, List.getD_eq_getElem?_getD, h]
theorem szR.drop {k : Nat} {l : List Int} (h : szR k l) (i : Nat) : szR k (l.drop i) := fun x hx => h x (List.mem_of_mem_drop hx)
theorem zMulZJ (v w : Value) (x : Int) (y : Bool × List Nat) (a : Nat) (hx : sz x a) (ha : a ≤ 137438953472) (hy : Lim y.2) (ly : y.2.length ≤ 137438953472) :
    Meets Tryz.prog 98 [v, w] [(v, zd x), (w, J y)] (fun r os fs => os = [] ∧ fs = [(r, zd (x * jv y))]) := by
  have h := zMulJ v w (cn x) y (Lim_lims _) (Nat.le_trans hx.len ha) hy ly
  rw [jv_cn] at h
  exact h
theorem zMulJZ (v w : Value) (x : Bool × List Nat) (y : Int) (a : Nat) (hx : Lim x.2) (lx : x.2.length ≤ 137438953472) (hy : sz y a) (ha : a ≤ 137438953472) :
    Meets Tryz.prog 98 [v, w] [(v, J x), (w, zd y)] (fun r os fs => os = [] ∧ fs = [(r, zd (jv x * y))]) := by
  have h := zMulJ v w x (cn y) hx lx (Lim_lims _) (Nat.le_trans hy.len ha)
  rw [jv_cn] at h
  exact h
theorem pValueJ (v w : Value) (p : Row) (xj : Bool × List Nat) (k a : Nat) (hp : Fit k p) (hxl : Lim xj.2) (hxa : xj.2.length ≤ a) (hk : k + (p.length + 1) * (a + 1) ≤ 137438953472) (lp : p.length ≤ 1073741824) :
    Meets Tryz.prog 53 [v, w] [(v, V p), (w, J xj)] (fun r os fs => os = [] ∧ fs = [(r, zd (pev (vv p) (jv xj)))]) := by
  have hx : sz (jv xj) a := sz_jv hxl hxa
  obtain ⟨x, hxj⟩ : ∃ x, jv xj = x := ⟨_, rfl⟩
  rw [hxj] at hx ⊢
  have hm1 : (p.length + 1) * (a + 1) = p.length * (a + 1) + (a + 1) := Nat.succ_mul _ _
  have h1 := pNorm_meets v p (hp.mono (by omega)) (by omega)
  have sa := hp.szR.nrm
  have la : (nrm (vv p)).length ≤ p.length := Nat.le_trans (nrm_length_le _) (by rw [vv_len]; exact Nat.le_refl _)
  rw [← ev_nrm (vv p)]
  generalize hA : nrm (vv p) = A at *
  have hs : ∀ i, sz (pev (A.drop i) x) (k + p.length * (a + 1)) := fun i => (ev_sz (sa.drop i) hx).mono (by
    have : (A.drop i).length * (a + 1) ≤ p.length * (a + 1) := Nat.mul_le_mul_right _ (by rw [List.length_drop]; omega)
    omega)
  have hlast : pev (A.drop A.length) x = 0 := by rw [List.drop_length]; rfl
  have hstep : ∀ i, i < A.length → pev (A.drop (A.length - i)) x * x + A.getD (A.length - 1 - i) 0 = pev (A.drop (A.length - (i + 1))) x := fun i hi => by
    rw [ev_drop (i := A.length - (i + 1)) (by omega), show A.length - (i + 1) + 1 = A.length - i by omega, show A.length - (i + 1) = A.length - 1 - i by omega, Int.mul_comm]; omega
  have hfin : pev (A.drop (A.length - A.length)) x = pev A x := by rw [Nat.sub_self, List.drop_zero]
  generalize hV : (fun i => pev (A.drop (A.length - i)) x) = Vf
  have hs' : ∀ i, sz (Vf i) (k + p.length * (a + 1)) := fun i => by rw [← hV]; exact hs _
  have hstep' : ∀ i, i < A.length → Vf i * x + A.getD (A.length - 1 - i) 0 = Vf (i + 1) := fun i hi => by rw [← hV]; exact hstep i hi
  have h0' : Vf 0 = 0 := by rw [← hV]; exact hlast
  have hfin' : Vf A.length = pev A x := by rw [← hV]; exact hfin
  refine meets_of_vc Tryz.func53 (by kernel_rfl) rfl (by kernel_rfl) (Nat.le_of_ble_eq_true rfl) ?_
  refine box_fact (Reads.fact (d := J xj) qM) fun px => ?_
  refine alloc_rule (d := I false []) fun o ho => ?_
  refine build0 (da := .one (.bool false)) (db := U (lims 0)) (fun S w => ⟨[.bool false], [.slice none 0 0], rfl, rd_false S w, by rw [lims_zero]; exact rd_nil S w 1 _⟩) fun z => ?_
  refine alloc_rule (d := I false []) fun s hs1 => ?_
  refine store_box (d := zd 0) 0 rfl hs1 rfl (by kernel_rfl) ?_ ?_; exact Reads.fact qM
  refine call_fn h1 (Seals.refl _ _) qS ?_
  rintro x1 _ _ ⟨rfl, rfl⟩
  refine len_vd qM ?_
  refine loop_rule (X := Nat) (fun i => ([(3, px), (4, o), (5, s), (6, x1), (12, .int .i64 (A.length : Nat)), (13, .int .i64 (i : Nat))], [own1 s 2 1 (fun _ => zd (Vf i)), own1 o 2 1 (fun _ => I false [])], [(x1, vd A), (px, .ptr (J xj))])) (fun i => i ≤ A.length) (fun i => A.length - i) rfl ?_ ?_
  · exact again 0 (Nat.zero_le _) trivial qF (Seals.trans (Seals.box0 (by rw [h0']; rfl)) (Seals.sub qS))
  · rintro i hi
    refine cmp_split _ rfl (fun hlt => ?_) (fun hlt => ?_)
    · have hin : i < A.length := by omega
      have hsi := hs' i
      have hsi1 := hstep' i hin
      have hai := sa.get (A.length - 1 - i)
      refine draw_rule [0, 1, 3, 4, 5, 6, 7, 8, 9, 10, 2, 11, 12] [0, 1, 2, 3, 4, 5, 6, 7, 8, 9, 10, 11, 12] (by kernel_rfl) (by kernel_rfl) ?_
      refine load_box (d := zd (Vf i)) 0 rfl hs1 rfl (load_I _ _) fun y1 => ?_
      refine load_fact (d := J xj) qM (load_J _) fun y2 => ?_
      refine len_vd qM ?_
      refine ar rfl qI ?_
      refine ar rfl qI ?_
      refine index_vd qM (A.length - 1 - i) (by omega) (by omega) fun b1 => ?_
      refine load_fact (d := zd (A.getD (A.length - 1 - i) 0)) qM (load_I _ _) fun y4 => ?_
      have hmul := zMulZJ y1 y2 _ xj _ hsi (by omega) hxl (by omega)
      rw [hxj] at hmul
      refine call_fn hmul (Seals.refl _ _) qS ?_
      rintro y3 _ _ ⟨rfl, rfl⟩
      have hadd := zAddZ y3 y4 _ _ _ _ (hsi.mul hx) hai (by omega) (by omega)
      rw [hsi1] at hadd
      refine call_fn hadd (Seals.refl _ _) qS ?_
      rintro y5 _ _ ⟨rfl, rfl⟩
      refine store_box (d := zd (Vf (i + 1))) 0 rfl hs1 rfl (by kernel_rfl) ?_ ?_; exact Reads.fact qM
      refine ar rfl qI ?_
      exact again (i + 1) (by omega) (by simp only; omega) qF (Seals.trans (Seals.box0 rfl) (Seals.sub qS))
    · have hip : i = A.length := by omega
      subst hip
      have hsn := hs' A.length
      rw [hfin'] at hsn
      rw [hfin']
      refine load_box (d := zd (pev A x)) 0 rfl hs1 rfl (load_I _ _) fun y1 => ?_
      refine call_fn (zNormZ y1 _ _ hsn (by omega)) (Seals.refl _ _) qS ?_
      rintro y2 _ _ ⟨rfl, rfl⟩
      refine store_box (d := zd (pev A x)) 1 rfl ho rfl (by kernel_rfl) ?_ ?_; exact Reads.fact qM
      refine load_box (d := zd (pev A x)) 1 rfl ho rfl (load_I _ _) fun r => ?_
      exact fin ⟨rfl, rfl⟩ (Seals.trans (Seals.drop 0 _ _) (Seals.trans (Seals.drop 0 _ _) (Seals.sub qS)))
open Go.RowKit
theorem cont_snoc (l : List Int) (c : Int) : cont (l ++ [c]) = Nat.gcd (cont l) c.natAbs := by
  induction l with
  | nil => show Nat.gcd c.natAbs 0 = Nat.gcd 0 c.natAbs; simp
  | cons d l ih =>
    show Nat.gcd d.natAbs (cont (l ++ [c])) = Nat.gcd (Nat.gcd d.natAbs (cont l)) c.natAbs
    rw [ih, Nat.gcd_assoc]
theorem cont_sz {l : List Int} {k : Nat} (h : szR k l) : sz (cont l : Nat) k := by
  unfold sz
  rw [Int.natAbs_natCast]
  induction l with
  | nil => exact Nat.pow_pos (by decide)
  | cons c l ih =>
    have h1 := ih fun y hy => h y (.tail _ hy)
    have h2 := h c (.head _)
    show Nat.gcd c.natAbs (cont l) < _
    by_cases e : c.natAbs = 0
    · rw [e, Nat.gcd_zero_left]; exact h1
    · exact Nat.lt_of_le_of_lt (Nat.gcd_le_left _ (Nat.pos_of_ne_zero e)) h2
theorem szR.take {k : Nat} {l : List Int} (h : szR k l) (i : Nat) : szR k (l.take i) := fun x hx => h x (List.mem_of_mem_take hx)
theorem cont_take {l : List Int} {i : Nat} (h : i < l.length) : cont (l.take (i + 1)) = Nat.gcd (cont (l.take i)) (l.getD i 0).natAbs := by
  rw [take_snoc' 0 h, cont_snoc]
theorem jv_abs (x : Bool × List Nat) : (jv x).natAbs = nv x.2 := iv_abs _ _
theorem zGcdJ (v w : Value) (x y : Bool × List Nat) (hx : Lim x.2) (lx : x.2.length ≤ 137438953472) (hy : Lim y.2) (ly : y.2.length ≤ 137438953472) :
    Meets Tryz.prog 198 [v, w] [(v, J x), (w, J y)] (fun r os fs => os = [] ∧ fs = [(r, zd (Nat.gcd (jv x).natAbs (jv y).natAbs : Nat))]) := by
  rw [jv_abs, jv_abs]
  exact zgcd_meets v w x.1 y.1 x.2 y.2 hx hy lx ly
theorem zGcdZ (v w : Value) (x y : Int) (a b : Nat) (hx : sz x a) (hy : sz y b) (ha : a ≤ 137438953472) (hb : b ≤ 137438953472) :
    Meets Tryz.prog 198 [v, w] [(v, zd x), (w, zd y)] (fun r os fs => os = [] ∧ fs = [(r, zd (Nat.gcd x.natAbs y.natAbs : Nat))]) := by
  have h := zGcdJ v w (cn x) (cn y) (Lim_lims _) (Nat.le_trans hx.len ha) (Lim_lims _) (Nat.le_trans hy.len hb)
  rw [jv_cn, jv_cn] at h
  exact h
theorem zAbsZ (v : Value) (x : Int) (a : Nat) (hx : sz x a) (ha : a ≤ 137438953472) :
    Meets Tryz.prog 144 [v] [(v, zd x)] (fun r os fs => os = [] ∧ fs = [(r, zd (x.natAbs : Nat))]) := by
  have h := zabs_meets v (decide (x < 0)) (lims x.natAbs) (Lim_lims _) (Nat.le_trans hx.len ha)
  rw [nv_lims] at h
  exact h
theorem pContent_meets (v : Value) (p : Row) (k : Nat) (hp : Fit k p) (hk : k ≤ 137438953472) :
    Meets Tryz.prog 182 [v] [(v, V p)] (fun r os fs => os = [] ∧ fs = [(r, zd (cont (vv p) : Nat))]) := by
  have hs : ∀ i, sz (cont ((vv p).take i) : Nat) k := fun i => cont_sz (hp.szR.take i)
  have hst : ∀ i, i < p.length → Nat.gcd (cont ((vv p).take i)) (jv (p.getD i z0)).natAbs = cont ((vv p).take (i + 1)) := fun i hi => by
    rw [cont_take (by rw [vv_len]; exact hi), vv_get p i hi]
  have hlast : cont ((vv p).take p.length) = cont (vv p) := by rw [List.take_of_length_le (by rw [vv_len]; exact Nat.le_refl _)]
  have h00 : cont ((vv p).take 0) = 0 := rfl
  generalize hC : (fun i => cont ((vv p).take i)) = C
  have hs' : ∀ i, sz (C i : Nat) k := fun i => by rw [← hC]; exact hs i
  have hst' : ∀ i, i < p.length → Nat.gcd (C i) (jv (p.getD i z0)).natAbs = C (i + 1) := fun i hi => by rw [← hC]; exact hst i hi
  have hlast' : C p.length = cont (vv p) := by rw [← hC]; exact hlast
  have h0' : C 0 = 0 := by rw [← hC]; exact h00
  refine meets_of_vc Tryz.func182 (by kernel_rfl) rfl (by kernel_rfl) (Nat.le_of_ble_eq_true rfl) ?_
  refine alloc_rule (d := I false []) fun o ho => ?_
  refine build0 (da := .one (.bool false)) (db := U (lims 0)) (fun S w => ⟨[.bool false], [.slice none 0 0], rfl, rd_false S w, by rw [lims_zero]; exact rd_nil S w 1 _⟩) fun z => ?_
  refine alloc_rule (d := I false []) fun s hs1 => ?_
  refine store_box (d := zd 0) 0 rfl hs1 rfl (by kernel_rfl) ?_ ?_; exact Reads.fact qM
  refine len_fact qM fun _ => ?_
  refine loop_rule (X := Nat) (fun i => ([(2, o), (3, s), (7, v), (8, .int .i64 (p.length : Nat)), (9, .int .i64 (i : Nat))], [own1 s 2 1 (fun _ => zd (C i : Nat)), own1 o 2 1 (fun _ => I false [])], [(v, V p)])) (fun i => i ≤ p.length) (fun i => p.length - i) rfl ?_ ?_
  · exact again 0 (Nat.zero_le _) trivial qF (Seals.trans (Seals.box0 (by rw [h0']; rfl)) (Seals.sub qS))
  · rintro i hi
    refine cmp_split _ rfl (fun hlt => ?_) (fun hlt => ?_)
    · have hin : i < p.length := by omega
      have hsi := hs' i
      have hpi := hp.get i
      refine index_fact qM i rfl hin fun b1 => ?_
      refine load_fact (d := J (p.getD i z0)) qM (load_J _) fun y1 => ?_
      refine alloc_rule (d := I false []) fun q hq => ?_
      refine store_box (d := J (p.getD i z0)) 0 rfl hq rfl (by kernel_rfl) ?_ ?_; exact Reads.fact qM
      refine load_box (d := zd (C i : Nat)) 1 rfl hs1 rfl (load_I _ _) fun y2 => ?_
      refine load_box (d := J (p.getD i z0)) 0 rfl hq rfl (load_J _) fun y3 => ?_
      have hg := zGcdJ y2 y3 (cn (C i : Nat)) (p.getD i z0) (Lim_lims _) (Nat.le_trans hsi.len hk) hpi.1 (by omega)
      rw [jv_cn, Int.natAbs_natCast, hst' i hin] at hg
      refine call_fn hg (Seals.refl _ _) qS ?_
      rintro y4 _ _ ⟨rfl, rfl⟩
      refine store_box (d := zd (C (i + 1) : Nat)) 1 rfl hs1 rfl (by kernel_rfl) ?_ ?_; exact Reads.fact qM
      refine ar rfl qI ?_
      exact again (i + 1) (by omega) (by simp only; omega) qF (Seals.trans (Seals.drop 0 _ _) (Seals.trans (Seals.box0 rfl) (Seals.sub qS)))
    · have hip : i = p.length := by omega
      subst hip
      have hsn := hs' p.length
      rw [hlast'] at hsn
      rw [hlast']
      have hab := fun y => zAbsZ y _ _ hsn hk
      simp only [Int.natAbs_natCast] at hab
      refine load_box (d := zd (cont (vv p) : Nat)) 0 rfl hs1 rfl (load_I _ _) fun y1 => ?_
      refine call_fn (hab y1) (Seals.refl _ _) qS ?_
      rintro y2 _ _ ⟨rfl, rfl⟩
      refine store_box (d := zd (cont (vv p) : Nat)) 1 rfl ho rfl (by kernel_rfl) ?_ ?_; exact Reads.fact qM
      refine load_box (d := zd (cont (vv p) : Nat)) 1 rfl ho rfl (load_I _ _) fun r => ?_
      exact fin ⟨rfl, rfl⟩ (Seals.trans (Seals.drop 0 _ _) (Seals.trans (Seals.drop 0 _ _) (Seals.sub qS)))
theorem content_call {K : Cont} {os : List Own} {fs : List Fact} (pos : Nat) {v : Value} {l : List Int} {k : Nat} (h : nthOwn os pos = some (ownL 2 J z0 v (l.map cn))) (hs : isSl v) (hp : szR k l) (hk : k ≤ 137438953472)
    (kk : ∀ r, K r os ((r, zd (cont l : Nat)) :: fs)) : CallK Tryz.prog false (.func (.func 182) #[] #[]) [v] os fs K := by
  have hs0 : ∀ i, sz (cont (l.take i) : Nat) k := fun i => cont_sz (hp.take i)
  have hst : ∀ i, i < l.length → Nat.gcd (cont (l.take i)) (l.getD i 0).natAbs = cont (l.take (i + 1)) := fun i hi => by
    rw [cont_take hi]
  have hlast : cont (l.take l.length) = cont l := by rw [List.take_of_length_le (Nat.le_refl _)]
  have h00 : cont (l.take 0) = 0 := rfl
  generalize hC : (fun i => cont (l.take i)) = C
  have hs' : ∀ i, sz (C i : Nat) k := fun i => by rw [← hC]; exact hs0 i
  have hst' : ∀ i, i < l.length → Nat.gcd (C i) (l.getD i 0).natAbs = C (i + 1) := fun i hi => by rw [← hC]; exact hst i hi
  have hlast' : C l.length = cont l := by rw [← hC]; exact hlast
  have h0' : C 0 = 0 := by rw [← hC]; exact h00
  have hml : (l.map cn).length = l.length := List.length_map _
  refine call_inline Tryz.func182 (by kernel_rfl) rfl (by kernel_rfl) (Nat.le_of_ble_eq_true rfl) ?_
  refine alloc_rule (d := I false []) fun o ho => ?_
  refine build0 (da := .one (.bool false)) (db := U (lims 0)) (fun S w => ⟨[.bool false], [.slice none 0 0], rfl, rd_false S w, by rw [lims_zero]; exact rd_nil S w 1 _⟩) fun z => ?_
  refine alloc_rule (d := I false []) fun s hs1 => ?_
  refine store_box (d := zd 0) 0 rfl hs1 rfl (by kernel_rfl) ?_ ?_; exact Reads.fact qM
  refine len_own (pos + 2) h hs fun _ => ?_
  refine loop_rule (X := Nat) (fun i => ([(2, o), (3, s), (7, v), (8, .int .i64 ((l.map cn).length : Nat)), (9, .int .i64 (i : Nat))], own1 s 2 1 (fun _ => zd (C i : Nat)) :: own1 o 2 1 (fun _ => I false []) :: os, fs)) (fun i => i ≤ l.length) (fun i => l.length - i) rfl ?_ ?_
  · exact again 0 (Nat.zero_le _) trivial qF (Seals.trans (Seals.box0 (by rw [h0']; rfl)) (Seals.sub qD))
  · rintro i hi
    refine cmp_split _ rfl (fun hlt => ?_) (fun hlt => ?_)
    · have hin : i < l.length := by omega
      have hsi := hs' i
      have hpi := hp.get i
      refine index_elem (pos + 2) h hs i rfl (by omega) ?_
      refine load_elem' (d := zd (l.getD i 0)) (pos + 2) h i (by omega) (by rw [map_cn_get hin]; rfl) (load_I _ _) fun y1 => ?_
      refine alloc_rule (d := I false []) fun q hq => ?_
      refine store_box (d := zd (l.getD i 0)) 0 rfl hq rfl (by kernel_rfl) ?_ ?_; exact Reads.fact qM
      refine load_box (d := zd (C i : Nat)) 1 rfl hs1 rfl (load_I _ _) fun y2 => ?_
      refine load_box (d := zd (l.getD i 0)) 0 rfl hq rfl (load_I _ _) fun y3 => ?_
      have hg := zGcdZ y2 y3 _ _ _ _ hsi hpi hk hk
      rw [Int.natAbs_natCast, hst' i hin] at hg
      refine call_fn hg (Seals.refl _ _) qS ?_
      rintro y4 _ _ ⟨rfl, rfl⟩
      refine store_box (d := zd (C (i + 1) : Nat)) 1 rfl hs1 rfl (by kernel_rfl) ?_ ?_; exact Reads.fact qM
      refine ar rfl qI ?_
      exact again (i + 1) (by omega) (by simp only; omega) qF (Seals.trans (Seals.drop 0 _ _) (Seals.trans (Seals.box0 rfl) (Seals.sub qD)))
    · have hip : i = l.length := by omega
      subst hip
      have hsn := hs' l.length
      rw [hlast'] at hsn
      rw [hlast']
      have hab := fun y => zAbsZ y _ _ hsn hk
      simp only [Int.natAbs_natCast] at hab
      refine load_box (d := zd (cont l : Nat)) 0 rfl hs1 rfl (load_I _ _) fun y1 => ?_
      refine call_fn (hab y1) (Seals.refl _ _) qS ?_
      rintro y2 _ _ ⟨rfl, rfl⟩
      refine store_box (d := zd (cont l : Nat)) 1 rfl ho rfl (by kernel_rfl) ?_ ?_; exact Reads.fact qM
      refine load_box (d := zd (cont l : Nat)) 1 rfl ho rfl (load_I _ _) fun r => ?_
      exact fin (kk r) (Seals.trans (Seals.drop 0 _ _) (Seals.trans (Seals.drop 0 _ _) (Seals.sub (fun F hF => by
        rcases List.mem_cons.1 hF with rfl | hF
        · exact List.Mem.head _
        · repeat (first | exact hF | apply List.Mem.tail)))))
theorem lead_call {K : Cont} {os : List Own} {fs : List Fact} (pos : Nat) {v : Value} {l : List Int} (h : nthOwn os pos = some (ownL 2 J z0 v (l.map cn))) (hs : isSl v)
    (kk : ∀ r, K r os ((r, zd (l.getD (l.length - 1) 0)) :: fs)) : CallK Tryz.prog false (.func (.func 121) #[] #[]) [v] os fs K := by
  have hml : (l.map cn).length = l.length := List.length_map _
  refine call_inline Tryz.func121 (by kernel_rfl) rfl (by kernel_rfl) (Nat.le_of_ble_eq_true rfl) ?_
  refine alloc_rule (d := I false []) fun o ho => ?_
  refine len_own (pos + 1) h hs fun _ => ?_
  refine cmp_split _ rfl (fun h0 => ?_) (fun h0 => ?_)
  · have h0 : l = [] := List.length_eq_zero_iff.1 (by omega)
    subst h0
    refine build0 (da := .one (.bool false)) (db := U (lims 0)) (fun S w => ⟨[.bool false], [.slice none 0 0], rfl, rd_false S w, by rw [lims_zero]; exact rd_nil S w 1 _⟩) fun z => ?_
    refine store_box (d := zd 0) 0 rfl ho rfl (by kernel_rfl) ?_ ?_; exact Reads.fact qM
    refine load_box (d := zd 0) 0 rfl ho rfl (load_I _ _) fun r => ?_
    exact fin (kk r) (Seals.trans (Seals.drop 0 _ _) (Seals.sub (fun F hF => by
        rcases List.mem_cons.1 hF with rfl | hF
        · exact List.Mem.head _
        · repeat (first | exact hF | apply List.Mem.tail))))
  · refine len_own (pos + 1) h hs fun _ => ?_
    refine ar rfl qI ?_
    refine index_elem (pos + 1) h hs (l.length - 1) (by omega) (by omega) ?_
    refine load_elem' (d := zd (l.getD (l.length - 1) 0)) (pos + 1) h (l.length - 1) (by omega) (by rw [map_cn_get (by omega)]; rfl) (load_I _ _) fun y1 => ?_
    refine store_box (d := zd (l.getD (l.length - 1) 0)) 0 rfl ho rfl (by kernel_rfl) ?_ ?_; exact Reads.fact qM
    refine load_box (d := zd (l.getD (l.length - 1) 0)) 0 rfl ho rfl (load_I _ _) fun r => ?_
    exact fin (kk r) (Seals.trans (Seals.drop 0 _ _) (Seals.sub (fun F hF => by
        rcases List.mem_cons.1 hF with rfl | hF
        · exact List.Mem.head _
        · repeat (first | exact hF | apply List.Mem.tail))))
open Go.RowKit
theorem sign_lt {x : Int} : x.sign < 0 ↔ x < 0 := by
  rcases Int.lt_trichotomy x 0 with h | h | h
  · rw [Int.sign_eq_neg_one_of_neg h]; omega
  · rw [h]; simp
  · rw [Int.sign_eq_one_of_pos h]; omega
theorem ld_nrm (l : List Int) : (nrm l).getD ((nrm l).length - 1) 0 = ld l := by rw [co_nrm]; rfl
theorem cont_nrm (l : List Int) : cont (nrm l) = cont l := cont_ext (ev_nrm l)
theorem div_s (A : List Int) (g : Int) (i y : Nat) : upd (fun y => zd (if y < i then A.getD y 0 / g else A.getD y 0)) i (zd (A.getD i 0 / g)) y = zd (if y < i + 1 then A.getD y 0 / g else A.getD y 0) :=
  upd_zd (G := fun y => if y < i then A.getD y 0 / g else A.getD y 0) (H := fun y => if y < i + 1 then A.getD y 0 / g else A.getD y 0) (by
    rw [if_pos (by omega)]) (fun y hy => by
    by_cases h2 : y < i
    · rw [if_pos h2, if_pos (by omega)]
    · rw [if_neg h2, if_neg (by omega)]) y
theorem lst_map (A : List Int) (f : Int → Int) : lst A.length (fun i => f (A.getD i 0)) = A.map f := by
  refine List.ext_getElem? fun i => ?_
  by_cases h : i < A.length
  · simp [lst, h]
  · simp [lst, h]
theorem pPrimitive_meets (v : Value) (p : Row) (k : Nat) (hp : Fit k p) (hk : k ≤ 137438953472) (lp : p.length ≤ 1073741824) :
    Meets Tryz.prog 180 [v] [(v, V p)] (fun r os fs => os = [] ∧ fs = [(r, vd (pprim (vv p)))]) := by
  have h1 := pNormO_meets v p (hp.mono (by omega)) (by omega)
  have sa := hp.szR.nrm
  have la : (nrm (vv p)).length ≤ p.length := Nat.le_trans (nrm_length_le _) (by rw [vv_len]; exact Nat.le_refl _)
  have hcn := cont_nrm (vv p)
  have hld := ld_nrm (vv p)
  have hdef : pprim (vv p) = nrm ((nrm (vv p)).map fun y => y / scont (vv p)) := rfl
  have hsc : scont (vv p) = if ld (vv p) < 0 then - (cont (vv p) : Int) else cont (vv p) := rfl
  have hne : 0 < (nrm (vv p)).length → scont (vv p) ≠ 0 := fun h e => by
    have h2 := scont_natAbs (vv p)
    rw [e] at h2
    have h3 := cont_zero.1 h2.symm
    unfold dg at h3; omega
  have hgs : sz (scont (vv p)) k := by
    unfold sz
    rw [scont_natAbs]
    have := cont_sz hp.szR
    unfold sz at this
    rwa [Int.natAbs_natCast] at this
  have hcs : sz (cont (vv p) : Nat) k := cont_sz hp.szR
  rw [hdef]
  generalize hA : nrm (vv p) = A at *
  generalize hg : scont (vv p) = g at *
  have hml : (A.map cn).length = A.length := List.length_map _
  have hcv : ∀ y, y < A.length → J ((A.map cn).getD y z0) = zd (if y < 0 then A.getD y 0 / g else A.getD y 0) := fun y hy => by rw [map_cn_get hy, if_neg (Nat.not_lt_zero _)]; rfl
  have hn : ∀ r, Meets Tryz.prog 55 [r] [(r, vd (lst A.length fun y => A.getD y 0 / g))] (fun r os fs => os = [] ∧ fs = [(r, vd (nrm (A.map fun y => y / g)))]) := fun r => by
    rw [← lst_map A fun y => y / g]
    exact pNormT r (lst A.length fun y => A.getD y 0 / g) ((szR.lst fun i _ => sz_div (sa.get i)).mono hk) (by rw [lst_len]; omega)
  refine meets_of_vc Tryz.func180 (by kernel_rfl) rfl (by kernel_rfl) (Nat.le_of_ble_eq_true rfl) ?_
  refine call_fn h1 (Seals.refl _ _) qS ?_
  rintro r _ _ ⟨hr, rfl, rfl⟩
  refine content_call 0 rfl hr sa hk fun x1 => ?_
  rw [hcn]
  refine alloc_rule (d := I false []) fun c hc => ?_
  refine store_box (d := zd (cont (vv p) : Nat)) 0 rfl hc rfl (by kernel_rfl) ?_ ?_; exact Reads.fact qM
  refine lead_call 1 rfl hr fun x2 => ?_
  rw [hld]
  refine call_fn (zSignZ x2 (ld (vv p)) k (by rw [← hld]; exact sa.get _) hk) (Seals.refl _ _) qS ?_
  rintro _ _ _ ⟨rfl, rfl, rfl⟩
  refine cmp_split _ rfl (fun hz => ?_) (fun hz => ?_)
  · rw [if_pos (sign_lt.1 hz)] at hsc
    have hneg := fun y => zNegZ y _ k hcs hk
    rw [← hsc] at hneg
    refine load_box (d := zd (cont (vv p) : Nat)) 0 rfl hc rfl (load_I _ _) fun y1 => ?_
    refine call_fn (hneg y1) (Seals.refl _ _) qS ?_
    rintro y2 _ _ ⟨rfl, rfl⟩
    refine store_box (d := zd g) 0 rfl hc rfl (by kernel_rfl) ?_ ?_; exact Reads.fact qM
    refine len_own 1 rfl hr fun _ => ?_
    refine loop_rule (X := Nat) (fun i => ([(3, r), (4, c), (17, .int .i64 ((A.map cn).length : Nat)), (18, .int .i64 (i : Nat))], [own1 c 2 1 (fun _ => zd g), own1 r 2 A.length (fun y => zd (if y < i then A.getD y 0 / g else A.getD y 0))], [])) (fun i => i ≤ A.length) (fun i => A.length - i) rfl ?_ ?_
    · exact again 0 (Nat.zero_le _) trivial qF (Seals.trans (Seals.box0 rfl) (Seals.trans (Seals.own_cong (os := [_, ownL 2 J z0 r (A.map cn)]) 1 (n' := A.length) (fun y => zd (if y < 0 then A.getD y 0 / g else A.getD y 0)) rfl (by rw [List.length_map]) fun y hy => hcv y (by rw [List.length_map] at hy; exact hy)) (Seals.sub qS)))
    · rintro i hi
      refine cmp_split _ rfl (fun hlt => ?_) (fun hlt => ?_)
      · have hin : i < A.length := by omega
        have hai := sa.get i
        have hg0 := hne (by omega)
        refine draw_ord [0, 1, 2, 3, 4, 5, 6, 7, 8, 9, 12, 13, 10, 11] (by kernel_rfl) ?_
        refine ord_split 10 13 (by kernel_rfl) (by kernel_rfl) (by kernel_rfl) ?_ ?_
        · refine ord_split 11 13 (by kernel_rfl) (by kernel_rfl) (by kernel_rfl) ?_ ?_
          ·
            refine ord_go [0, 1, 2, 3, 4, 5, 6, 7, 8, 9, 10, 11, 12, 13] (by kernel_rfl) (by kernel_rfl) ?_
            refine index_elem 1 rfl hr i rfl (by omega) ?_
            refine load_elem' (d := zd (A.getD i 0)) 1 rfl i (by omega) (by rw [if_neg (by omega)]) (load_I _ _) fun y1 => ?_
            refine load_box (d := zd g) 0 rfl hc rfl (load_I _ _) fun y2 => ?_
            refine call_fn (zDivModZ y1 y2 _ _ _ _ hai hgs (by omega) (by omega) hg0) (Seals.refl _ _) qS ?_
            rintro _ _ _ ⟨rfl, y3, y4, rfl, rfl⟩
            refine index_elem 1 rfl hr i rfl (by omega) ?_
            refine StoreK.post (store_elem (d := zd (A.getD i 0 / g)) 1 rfl i (by omega) rfl (by kernel_rfl) (Reads.fact qM) ⟨_, _, Seals.own_cong (os := [_, _]) 1 (fun y => zd (if y < i + 1 then A.getD y 0 / g else A.getD y 0)) rfl rfl (fun y _ => div_s A g i y), ?_⟩)
            refine ar rfl qI ?_
            exact again (i + 1) (by omega) (by simp only; omega) qF (Seals.trans (Seals.box0 rfl) (Seals.sub qS))
          ·
            refine ord_go [0, 1, 2, 3, 4, 5, 6, 7, 8, 9, 10, 12, 13, 11] (by kernel_rfl) (by kernel_rfl) ?_
            refine index_elem 1 rfl hr i rfl (by omega) ?_
            refine load_elem' (d := zd (A.getD i 0)) 1 rfl i (by omega) (by rw [if_neg (by omega)]) (load_I _ _) fun y1 => ?_
            refine load_box (d := zd g) 0 rfl hc rfl (load_I _ _) fun y2 => ?_
            refine call_fn (zDivModZ y1 y2 _ _ _ _ hai hgs (by omega) (by omega) hg0) (Seals.refl _ _) qS ?_
            rintro _ _ _ ⟨rfl, y3, y4, rfl, rfl⟩
            refine index_elem 1 rfl hr i rfl (by omega) ?_
            refine StoreK.post (store_elem (d := zd (A.getD i 0 / g)) 1 rfl i (by omega) rfl (by kernel_rfl) (Reads.fact qM) ⟨_, _, Seals.own_cong (os := [_, _]) 1 (fun y => zd (if y < i + 1 then A.getD y 0 / g else A.getD y 0)) rfl rfl (fun y _ => div_s A g i y), ?_⟩)
            refine ar rfl qI ?_
            exact again (i + 1) (by omega) (by simp only; omega) qF (Seals.trans (Seals.box0 rfl) (Seals.sub qS))
        · refine ord_split 11 13 (by kernel_rfl) (by kernel_rfl) (by kernel_rfl) ?_ ?_
          ·
            refine ord_go [0, 1, 2, 3, 4, 5, 6, 7, 8, 9, 11, 12, 13, 10] (by kernel_rfl) (by kernel_rfl) ?_
            refine index_elem 1 rfl hr i rfl (by omega) ?_
            refine load_elem' (d := zd (A.getD i 0)) 1 rfl i (by omega) (by rw [if_neg (by omega)]) (load_I _ _) fun y1 => ?_
            refine load_box (d := zd g) 0 rfl hc rfl (load_I _ _) fun y2 => ?_
            refine call_fn (zDivModZ y1 y2 _ _ _ _ hai hgs (by omega) (by omega) hg0) (Seals.refl _ _) qS ?_
            rintro _ _ _ ⟨rfl, y3, y4, rfl, rfl⟩
            refine index_elem 1 rfl hr i rfl (by omega) ?_
            refine StoreK.post (store_elem (d := zd (A.getD i 0 / g)) 1 rfl i (by omega) rfl (by kernel_rfl) (Reads.fact qM) ⟨_, _, Seals.own_cong (os := [_, _]) 1 (fun y => zd (if y < i + 1 then A.getD y 0 / g else A.getD y 0)) rfl rfl (fun y _ => div_s A g i y), ?_⟩)
            refine ar rfl qI ?_
            exact again (i + 1) (by omega) (by simp only; omega) qF (Seals.trans (Seals.box0 rfl) (Seals.sub qS))
          ·
            refine ord_go [0, 1, 2, 3, 4, 5, 6, 7, 8, 9, 12, 13, 10, 11] (by kernel_rfl) (by kernel_rfl) ?_
            refine index_elem 1 rfl hr i rfl (by omega) ?_
            refine load_elem' (d := zd (A.getD i 0)) 1 rfl i (by omega) (by rw [if_neg (by omega)]) (load_I _ _) fun y1 => ?_
            refine load_box (d := zd g) 0 rfl hc rfl (load_I _ _) fun y2 => ?_
            refine call_fn (zDivModZ y1 y2 _ _ _ _ hai hgs (by omega) (by omega) hg0) (Seals.refl _ _) qS ?_
            rintro _ _ _ ⟨rfl, y3, y4, rfl, rfl⟩
            refine index_elem 1 rfl hr i rfl (by omega) ?_
            refine StoreK.post (store_elem (d := zd (A.getD i 0 / g)) 1 rfl i (by omega) rfl (by kernel_rfl) (Reads.fact qM) ⟨_, _, Seals.own_cong (os := [_, _]) 1 (fun y => zd (if y < i + 1 then A.getD y 0 / g else A.getD y 0)) rfl rfl (fun y _ => div_s A g i y), ?_⟩)
            refine ar rfl qI ?_
            exact again (i + 1) (by omega) (by simp only; omega) qF (Seals.trans (Seals.box0 rfl) (Seals.sub qS))
      · have hip : i = A.length := by omega
        subst hip
        refine call_fn (hn r) (Seals.trans (Seals.drop 0 _ _) (Seals.told (g := fun y => A.getD y 0 / g) hr fun y hy => by rw [if_pos hy])) qS ?_
        rintro u _ _ ⟨rfl, rfl⟩
        exact fin ⟨rfl, rfl⟩ (Seals.sub qS)
  · rw [if_neg fun h => hz (sign_lt.2 h)] at hsc
    rw [← hsc]
    refine len_own 1 rfl hr fun _ => ?_
    refine loop_rule (X := Nat) (fun i => ([(3, r), (4, c), (17, .int .i64 ((A.map cn).length : Nat)), (18, .int .i64 (i : Nat))], [own1 c 2 1 (fun _ => zd g), own1 r 2 A.length (fun y => zd (if y < i then A.getD y 0 / g else A.getD y 0))], [])) (fun i => i ≤ A.length) (fun i => A.length - i) rfl ?_ ?_
    · exact again 0 (Nat.zero_le _) trivial qF (Seals.trans (Seals.box0 rfl) (Seals.trans (Seals.own_cong (os := [_, ownL 2 J z0 r (A.map cn)]) 1 (n' := A.length) (fun y => zd (if y < 0 then A.getD y 0 / g else A.getD y 0)) rfl (by rw [List.length_map]) fun y hy => hcv y (by rw [List.length_map] at hy; exact hy)) (Seals.sub qS)))
    · rintro i hi
      refine cmp_split _ rfl (fun hlt => ?_) (fun hlt => ?_)
      · have hin : i < A.length := by omega
        have hai := sa.get i
        have hg0 := hne (by omega)
        refine draw_ord [0, 1, 2, 3, 4, 5, 6, 7, 8, 9, 12, 13, 10, 11] (by kernel_rfl) ?_
        refine ord_split 10 13 (by kernel_rfl) (by kernel_rfl) (by kernel_rfl) ?_ ?_
        · refine ord_split 11 13 (by kernel_rfl) (by kernel_rfl) (by kernel_rfl) ?_ ?_
          ·
            refine ord_go [0, 1, 2, 3, 4, 5, 6, 7, 8, 9, 10, 11, 12, 13] (by kernel_rfl) (by kernel_rfl) ?_
            refine index_elem 1 rfl hr i rfl (by omega) ?_
            refine load_elem' (d := zd (A.getD i 0)) 1 rfl i (by omega) (by rw [if_neg (by omega)]) (load_I _ _) fun y1 => ?_
            refine load_box (d := zd g) 0 rfl hc rfl (load_I _ _) fun y2 => ?_
            refine call_fn (zDivModZ y1 y2 _ _ _ _ hai hgs (by omega) (by omega) hg0) (Seals.refl _ _) qS ?_
            rintro _ _ _ ⟨rfl, y3, y4, rfl, rfl⟩
            refine index_elem 1 rfl hr i rfl (by omega) ?_
            refine StoreK.post (store_elem (d := zd (A.getD i 0 / g)) 1 rfl i (by omega) rfl (by kernel_rfl) (Reads.fact qM) ⟨_, _, Seals.own_cong (os := [_, _]) 1 (fun y => zd (if y < i + 1 then A.getD y 0 / g else A.getD y 0)) rfl rfl (fun y _ => div_s A g i y), ?_⟩)
            refine ar rfl qI ?_
            exact again (i + 1) (by omega) (by simp only; omega) qF (Seals.trans (Seals.box0 rfl) (Seals.sub qS))
          ·
            refine ord_go [0, 1, 2, 3, 4, 5, 6, 7, 8, 9, 10, 12, 13, 11] (by kernel_rfl) (by kernel_rfl) ?_
            refine index_elem 1 rfl hr i rfl (by omega) ?_
            refine load_elem' (d := zd (A.getD i 0)) 1 rfl i (by omega) (by rw [if_neg (by omega)]) (load_I _ _) fun y1 => ?_
            refine load_box (d := zd g) 0 rfl hc rfl (load_I _ _) fun y2 => ?_
            refine call_fn (zDivModZ y1 y2 _ _ _ _ hai hgs (by omega) (by omega) hg0) (Seals.refl _ _) qS ?_
            rintro _ _ _ ⟨rfl, y3, y4, rfl, rfl⟩
            refine index_elem 1 rfl hr i rfl (by omega) ?_
            refine StoreK.post (store_elem (d := zd (A.getD i 0 / g)) 1 rfl i (by omega) rfl (by kernel_rfl) (Reads.fact qM) ⟨_, _, Seals.own_cong (os := [_, _]) 1 (fun y => zd (if y < i + 1 then A.getD y 0 / g else A.getD y 0)) rfl rfl (fun y _ => div_s A g i y), ?_⟩)
            refine ar rfl qI ?_
            exact again (i + 1) (by omega) (by simp only; omega) qF (Seals.trans (Seals.box0 rfl) (Seals.sub qS))
        · refine ord_split 11 13 (by kernel_rfl) (by kernel_rfl) (by kernel_rfl) ?_ ?_
          ·
            refine ord_go [0, 1, 2, 3, 4, 5, 6, 7, 8, 9, 11, 12, 13, 10] (by kernel_rfl) (by kernel_rfl) ?_
            refine index_elem 1 rfl hr i rfl (by omega) ?_
            refine load_elem' (d := zd (A.getD i 0)) 1 rfl i (by omega) (by rw [if_neg (by omega)]) (load_I _ _) fun y1 => ?_
            refine load_box (d := zd g) 0 rfl hc rfl (load_I _ _) fun y2 => ?_
            refine call_fn (zDivModZ y1 y2 _ _ _ _ hai hgs (by omega) (by omega) hg0) (Seals.refl _ _) qS ?_
            rintro _ _ _ ⟨rfl, y3, y4, rfl, rfl⟩
            refine index_elem 1 rfl hr i rfl (by omega) ?_
            refine StoreK.post (store_elem (d := zd (A.getD i 0 / g)) 1 rfl i (by omega) rfl (by kernel_rfl) (Reads.fact qM) ⟨_, _, Seals.own_cong (os := [_, _]) 1 (fun y => zd (if y < i + 1 then A.getD y 0 / g else A.getD y 0)) rfl rfl (fun y _ => div_s A g i y), ?_⟩)
            refine ar rfl qI ?_
            exact again (i + 1) (by omega) (by simp only; omega) qF (Seals.trans (Seals.box0 rfl) (Seals.sub qS))
          ·
            refine ord_go [0, 1, 2, 3, 4, 5, 6, 7, 8, 9, 12, 13, 10, 11] (by kernel_rfl) (by kernel_rfl) ?_
            refine index_elem 1 rfl hr i rfl (by omega) ?_
            refine load_elem' (d := zd (A.getD i 0)) 1 rfl i (by omega) (by rw [if_neg (by omega)]) (load_I _ _) fun y1 => ?_
            refine load_box (d := zd g) 0 rfl hc rfl (load_I _ _) fun y2 => ?_
            refine call_fn (zDivModZ y1 y2 _ _ _ _ hai hgs (by omega) (by omega) hg0) (Seals.refl _ _) qS ?_
            rintro _ _ _ ⟨rfl, y3, y4, rfl, rfl⟩
            refine index_elem 1 rfl hr i rfl (by omega) ?_
            refine StoreK.post (store_elem (d := zd (A.getD i 0 / g)) 1 rfl i (by omega) rfl (by kernel_rfl) (Reads.fact qM) ⟨_, _, Seals.own_cong (os := [_, _]) 1 (fun y => zd (if y < i + 1 then A.getD y 0 / g else A.getD y 0)) rfl rfl (fun y _ => div_s A g i y), ?_⟩)
            refine ar rfl qI ?_
            exact again (i + 1) (by omega) (by simp only; omega) qF (Seals.trans (Seals.box0 rfl) (Seals.sub qS))
      · have hip : i = A.length := by omega
        subst hip
        refine call_fn (hn r) (Seals.trans (Seals.drop 0 _ _) (Seals.told (g := fun y => A.getD y 0 / g) hr fun y hy => by rw [if_pos hy])) qS ?_
        rintro u _ _ ⟨rfl, rfl⟩
        exact fin ⟨rfl, rfl⟩ (Seals.sub qS)
theorem pPrimitiveT (v : Value) (p : List Int) (k : Nat) (hp : szR k p) (hk : k ≤ 137438953472) (lp : p.length ≤ 1073741824) :
    Meets Tryz.prog 180 [v] [(v, vd p)] (fun r os fs => os = [] ∧ fs = [(r, vd (pprim p))]) := by
  have h := pPrimitive_meets v (p.map cn) k hp.fit hk (by rw [List.length_map]; exact lp)
  rw [vv_cn] at h
  exact h
open Go.RowKit
theorem ld_nm {l : List Int} (h : Nm l) : ld l = l.getD (l.length - 1) 0 := by unfold ld; rw [dg_nm h]
theorem pLeadN (v : Value) (l : List Int) (hl : Nm l) (h0 : 0 < l.length) :
    Meets Tryz.prog 121 [v] [(v, vd l)] (fun r os fs => os = [] ∧ fs = [(r, zd (ld l))]) := by
  rw [ld_nm hl]
  exact pLeadT v l (List.length_pos_iff.1 h0)
structure RestSpec (p q t r : List Int) : Prop where
  tn : Nm t
  rn : Nm r
  low : dg r < dg q
  eq : ∀ x, ld q ^ (dg p + 1 - dg q) * pev p x = pev q x * pev t x + pev r x
def rT (D T R : List Int) : List Int := padd (prai (ld D) 0 T) (prai (ld R) (R.length - D.length) [1])
def rR (D R : List Int) : List Int := psub (prai (ld D) 0 R) (prai (ld R) (R.length - D.length) D)
theorem rest_step {D T R P : List Int} {j : Nat} (hD : Nm D) (hR : Nm R) (h0 : 0 < D.length) (hl : D.length ≤ R.length) (e : ∀ x, ld D ^ j * pev P x = pev D x * pev T x + pev R x) :
    (∀ x, ld D ^ (j + 1) * pev P x = pev D x * pev (rT D T R) x + pev (rR D R) x) ∧ (rR D R).length < R.length := by
  constructor
  · intro x
    have h := e x
    rw [rT, rR, ev_padd, ev_psub, ev_prai, ev_prai, ev_prai, ev_prai, Int.pow_succ]
    simp only [pev, Int.pow_zero] at h ⊢
    grind
  · have := red_dg (p := R) (q := D) (by rw [dg_nm hD]; exact h0) (by rw [dg_nm hD, dg_nm hR]; exact hl)
    rw [dg_nm hD, dg_nm hR, dg_nm (psub_nm _ _)] at this
    exact this
theorem rest_more {D T R P : List Int} {j : Nat} (e : ∀ x, ld D ^ j * pev P x = pev D x * pev T x + pev R x) :
    ∀ x, ld D ^ (j + 1) * pev P x = pev D x * pev (prai (ld D) 0 T) x + pev (prai (ld D) 0 R) x := fun x => by
  have h := e x
  rw [ev_prai, ev_prai, Int.pow_succ]
  simp only [Int.pow_zero] at h ⊢
  grind
theorem rT_len {D T R : List Int} {n : Nat} (h0 : 0 < D.length) (hl : D.length ≤ R.length) (hT : T.length ≤ n) (hR : R.length ≤ n) : (rT D T R).length ≤ n := by
  have h1 := padd_len (prai (ld D) 0 T) (prai (ld R) (R.length - D.length) [1])
  have h2 := prai_len (ld D) 0 T
  have h3 := prai_len (ld R) (R.length - D.length) [1]
  simp only [List.length_cons, List.length_nil] at h3
  unfold rT
  omega
theorem rT_sz {D T R : List Int} {e k : Nat} (hD : szR k D) (hT : szR e T) (hR : szR e R) (hk : 1 ≤ k) : szR (e + k + 1) (rT D T R) := by
  have h1 : szR (e + k) (prai (ld R) (R.length - D.length) [1]) := by
    have : szR k [1] := fun x hx => by
      rw [List.mem_singleton.1 hx]; exact (sz_one 1 (by decide)).mono hk
    have := this.prai (hR.get (dg R - 1)) (R.length - D.length)
    rwa [Nat.add_comm] at this
  exact (hT.prai (hD.get (dg D - 1)) 0).padd h1
theorem rR_sz {D R : List Int} {e k : Nat} (hD : szR k D) (hR : szR e R) : szR (e + k + 1) (rR D R) := by
  have h1 : szR (e + k) (prai (ld R) (R.length - D.length) D) := by
    have := hD.prai (hR.get (dg R - 1)) (R.length - D.length)
    rwa [Nat.add_comm] at this
  exact (hR.prai (hD.get (dg D - 1)) 0).psub h1
theorem szR_one (k : Nat) (hk : 1 ≤ k) : szR k [1] := fun x hx => by
  rw [List.mem_singleton.1 hx]; exact (sz_one 1 (by decide)).mono hk
def re (k j : Nat) : Nat := k + j * (k + 1)
theorem re_succ (k j : Nat) : re k (j + 1) = re k j + k + 1 := by unfold re; rw [Nat.succ_mul]; omega
theorem re_mono {k j m : Nat} (h : j ≤ m) : re k j ≤ re k m := by
  unfold re
  have := Nat.mul_le_mul_right (k + 1) h
  omega
theorem re_ge (k j : Nat) : k ≤ re k j := by unfold re; omega
theorem lead_callN {K : Cont} {os : List Own} {fs : List Fact} (pos : Nat) {v : Value} {l : List Int} (h : nthOwn os pos = some (ownL 2 J z0 v (l.map cn))) (hs : isSl v) (hn : Nm l)
    (kk : ∀ r, K r os ((r, zd (ld l)) :: fs)) : CallK Tryz.prog false (.func (.func 121) #[] #[]) [v] os fs K :=
  lead_call pos h hs fun r => by rw [← ld_nm hn]; exact kk r
theorem pRestO_meets (v w : Value) (p q : Row) (k : Nat) (hp : Fit k p) (hq : Fit k q) (h1k : 1 ≤ k) (hk : re k (p.length + 1) ≤ 137438953472) (lp : p.length ≤ 536870912) (lq : q.length ≤ 536870912) :
    Meets Tryz.prog 165 [v, w] [(v, V p), (w, V q)] (fun r os fs => ∃ a b T R, isSl b ∧ os = [ownL 2 J z0 b (R.map cn)] ∧ (if dg (vv q) = 0 then r = .tuple #[a, b, .int .i64 2] ∧ T = [] ∧ R = [] else r = .tuple #[a, b, .int .i64 0] ∧ RestSpec (vv p) (vv q) T R ∧ szR (re k (dg (vv p) + 1 - dg (vv q))) T ∧ szR (re k (dg (vv p) + 1 - dg (vv q))) R ∧ T.length ≤ p.length ∧ R.length ≤ p.length) ∧
      fs = [(a, vd T)]) := by
  have hkk : k ≤ re k (p.length + 1) := re_ge _ _
  have n1 := pNormO_meets v p (hp.mono (by omega)) (by omega)
  have n2 := pNorm_meets w q (hq.mono (by omega)) (by omega)
  have sP := hp.szR.nrm
  have sD := hq.szR.nrm
  have la : (nrm (vv p)).length ≤ p.length := Nat.le_trans (nrm_length_le _) (by rw [vv_len]; exact Nat.le_refl _)
  have lb : (nrm (vv q)).length ≤ q.length := Nat.le_trans (nrm_length_le _) (by rw [vv_len]; exact Nat.le_refl _)
  have hPn : Nm (nrm (vv p)) := nrm_nrm _
  have hDn : Nm (nrm (vv q)) := nrm_nrm _
  have hspec : ∀ T R, Nm T → Nm R → R.length < (nrm (vv q)).length → (∀ x, ld (nrm (vv q)) ^ ((nrm (vv p)).length + 1 - (nrm (vv q)).length) * pev (nrm (vv p)) x = pev (nrm (vv q)) x * pev T x + pev R x) → RestSpec (vv p) (vv q) T R := fun T R h1 h2 h3 h4 =>
    ⟨h1, h2, by rw [dg_nm h2]; exact h3, fun x => by
      have := h4 x
      rw [ev_nrm, ev_nrm, ld_ext (ev_nrm (vv q))] at this
      exact this⟩
  have hdq : dg (vv q) = (nrm (vv q)).length := rfl
  have hdp : dg (vv p) = (nrm (vv p)).length := rfl
  rw [hdq, hdp]
  generalize hA : nrm (vv p) = A at *
  generalize hB : nrm (vv q) = D at *
  refine meets_of_vc Tryz.func165 (by kernel_rfl) rfl (by kernel_rfl) (Nat.le_of_ble_eq_true rfl) ?_
  refine call_fn n1 (Seals.refl _ _) qS ?_
  rintro x1 _ _ ⟨hx1, rfl, rfl⟩
  refine call_fn n2 (Seals.refl _ _) qS ?_
  rintro x2 _ _ ⟨rfl, rfl⟩
  refine len_vd qM ?_
  refine cmp_split _ rfl (fun hz => ?_) (fun hz => ?_)
  · refine fin ⟨.slice none 0 0, .slice none 0 0, [], [], isSl_nil, rfl, ?_, rfl⟩ (Seals.trans (Seals.drop 0 _ _) (Seals.trans (Seals.own_nil _ _ 2 _) (Seals.cons (Knw.nil 2 _) (Seals.nil _ _))))
    rw [if_pos (by omega)]
    exact ⟨rfl, rfl, rfl⟩
  have hD0 : 0 < D.length := by omega
  have hml : ∀ l : List Int, (l.map cn).length = l.length := fun l => List.length_map _
  have hmA := hml A
  refine len_own 0 rfl hx1 fun _ => ?_
  refine len_vd qM ?_
  refine ar rfl qI ?_
  refine ar rfl qI ?_
  refine max2_rule ?_
  have hld : sz (ld D) k := sD.get _
  refine loop_rule (X := Value × Value × List Int × List Int × Nat) (fun x => ([(7, x.2.1), (8, x2), (9, .int .i64 (x.2.2.2.2 : Nat)), (10, x.1)], [ownL 2 J z0 x.2.1 (x.2.2.2.1.map cn)], [(x2, vd D), (x.1, vd x.2.2.1)]))
    (fun x => isSl x.2.1 ∧ Nm x.2.2.1 ∧ Nm x.2.2.2.1 ∧ x.2.2.2.2 ≤ A.length + 1 - D.length ∧ x.2.2.2.1.length < D.length + x.2.2.2.2 ∧ x.2.2.1.length ≤ p.length ∧ x.2.2.2.1.length ≤ p.length ∧ szR (re k (A.length + 1 - D.length - x.2.2.2.2)) x.2.2.1 ∧ szR (re k (A.length + 1 - D.length - x.2.2.2.2)) x.2.2.2.1 ∧
      ∀ y, ld D ^ (A.length + 1 - D.length - x.2.2.2.2) * pev A y = pev D y * pev x.2.2.1 y + pev x.2.2.2.1 y) (fun x => x.2.2.2.2) rfl ?_ ?_
  · refine again (.slice none 0 0, x1, [], A, A.length + 1 - D.length) ⟨hx1, rfl, hPn, Nat.le_refl _, by simp only; omega, Nat.zero_le _, la, fun x hx => by simp at hx, sP.mono (re_ge _ _), fun y => by simp only [Nat.sub_self, Int.pow_zero, pev]; omega⟩ trivial qF ?_
    exact Seals.trans (Seals.sub (fs' := [(x2, vd D)]) qS) (Seals.trans (Seals.cons (Knw.nil 2 _) (Seals.sub (fs' := [(x2, vd D)]) qS)) (Seals.sub qS))
  · rintro ⟨vt, vr, T, R, n⟩ ⟨hvr, g1, g2, g3, g4, g5, g6, g7, g8, g9⟩
    simp only at hvr g1 g2 g3 g4 g5 g6 g7 g8 g9 ⊢
    have hmR := hml R
    refine len_own 0 rfl hvr fun _ => ?_
    refine len_vd qM ?_
    refine cmp_split _ rfl (fun hge => ?_) (fun hge => ?_)
    · have hge' : D.length ≤ R.length := by omega
      have hn1 : A.length + 1 - D.length - (n - 1) = A.length + 1 - D.length - n + 1 := by omega
      obtain ⟨s1, s2⟩ := rest_step hDn g2 hD0 hge' g9
      have hre : re k (A.length + 1 - D.length - n) + k + 1 ≤ re k (p.length + 1) := by
        rw [← re_succ]; exact re_mono (by omega)
      have z1 := rT_sz sD g7 g8 h1k
      have z2 := rR_sz sD g8
      rw [← re_succ, ← hn1] at z1 z2
      have hlR : sz (ld R) (re k (A.length + 1 - D.length - n)) := g8.get _
      have c1 := fun u u' => pRaisedT u u' T (ld D) 0 _ k g7 hld (by omega) (by omega) (by omega)
      have c2 := fun u u' => pRaisedT u u' [1] (ld R) (R.length - D.length) k _ (szR_one k h1k) hlR (by omega) (by show 1 ≤ _; omega) (by omega)
      have c3 := fun u => pSumT u (prai (ld D) 0 T) (prai (ld R) (R.length - D.length) [1]) (re k (A.length + 1 - D.length - n) + k) (g7.prai hld 0) (by
        have := (szR_one k h1k).prai hlR (R.length - D.length)
        rwa [Nat.add_comm] at this) (by omega) (by have := prai_len (ld D) 0 T; omega) (by have := prai_len (ld R) (R.length - D.length) [1]; simp only [List.length_cons, List.length_nil] at this; omega)
      have c4 := fun u u' => pRaisedT u u' R (ld D) 0 _ k g8 hld (by omega) (by omega) (by omega)
      have c5 := fun u u' => pRaisedT u u' D (ld R) (R.length - D.length) k _ sD hlR (by omega) (by omega) (by omega)
      have c6 := fun u u' => pSubOT u u' (prai (ld D) 0 R) (prai (ld R) (R.length - D.length) D) (re k (A.length + 1 - D.length - n) + k) (g8.prai hld 0) (by
        have := sD.prai hlR (R.length - D.length)
        rwa [Nat.add_comm] at this) (by omega) (by have := prai_len (ld D) 0 R; omega) (by have := prai_len (ld R) (R.length - D.length) D; omega)
      have lT := rT_len hD0 hge' g5 g6
      have e1 : padd (prai (ld D) 0 T) (prai (ld R) (R.length - D.length) [1]) = rT D T R := rfl
      have e2 : psub (prai (ld D) 0 R) (prai (ld R) (R.length - D.length) D) = rR D R := rfl
      have tn : Nm (rT D T R) := padd_nm _ _
      have rn : Nm (rR D R) := psub_nm _ _
      rw [e1] at c3
      rw [e2] at c6
      refine lead_callN 0 rfl hvr g2 fun y1 => ?_
      refine len_own 0 rfl hvr fun _ => ?_
      refine len_vd qM ?_
      refine ar rfl qI ?_
      refine alloc_rule (d := I false []) fun c hc => ?_
      refine store_box (d := zd (ld R)) 0 rfl hc rfl (by kernel_rfl) ?_ ?_; exact Reads.fact qM
      refine draw_rule [0, 1, 6, 7, 2, 3, 4, 5, 8, 9, 10, 11] [0, 1, 2, 3, 4, 5, 6, 7, 8, 9, 10, 11] (by kernel_rfl) (by kernel_rfl) ?_
      refine load_box (d := zd (ld R)) 0 rfl hc rfl (load_I _ _) fun y2 => ?_
      refine call_fn (pLeadN x2 D hDn hD0) (Seals.refl _ _) qS ?_
      rintro y3 _ _ ⟨rfl, rfl⟩
      refine call_fn (c1 vt y3) (Seals.refl _ _) qS ?_
      rintro y4 _ _ ⟨rfl, rfl⟩
      refine call_fn (zof_meets 1 (by decide) (by decide)) (Seals.refl _ _) qS ?_
      rintro y5 _ _ ⟨rfl, rfl⟩
      refine lit_L (size := 2) (f := J) (z := z0) (e := 26) (cn 1) (by decide) (Reads.fact qM) rfl fun y6 => ?_
      have c2' := c2 y6 y2
      rw [show ((R.length - D.length : Nat) : Int) = ((R.map cn).length : Int) - (D.length : Int) by omega] at c2'
      refine call_fn c2' (Seals.refl _ _) qS ?_
      rintro y7 _ _ ⟨rfl, rfl⟩
      refine lit2_L (size := 1) (f := V) (z := []) (e := 23) ((prai (ld D) 0 T).map cn) ((prai (ld R) (R.length - D.length) [1]).map cn) (by decide) (Reads.fact qM) (Reads.fact qM) rfl rfl fun y8 => ?_
      refine call_fn (c3 y8) (Seals.refl _ _) qS ?_
      rintro y9 _ _ ⟨rfl, rfl⟩
      refine draw_rule [0, 1, 4, 5, 6, 2, 3, 7, 8, 9] [0, 1, 2, 3, 4, 5, 6, 7, 8, 9] (by kernel_rfl) (by kernel_rfl) ?_
      refine load_box (d := zd (ld R)) 0 rfl hc rfl (load_I _ _) fun y10 => ?_
      refine call_fn (pLeadN x2 D hDn hD0) (Seals.refl _ _) qS ?_
      rintro y11 _ _ ⟨rfl, rfl⟩
      refine call_fn (c4 vr y11) (Seals.L 1 rfl hvr) qS ?_
      rintro y12 _ _ ⟨rfl, rfl⟩
      have c5' := c5 x2 y10
      rw [show ((R.length - D.length : Nat) : Int) = ((R.map cn).length : Int) - (D.length : Int) by omega] at c5'
      refine call_fn c5' (Seals.refl _ _) qS ?_
      rintro y13 _ _ ⟨rfl, rfl⟩
      refine call_fn (c6 y12 y13) (Seals.refl _ _) qS ?_
      rintro y14 _ _ ⟨hy14, rfl, rfl⟩
      refine ar rfl qI ?_
      refine again (y9, y14, rT D T R, rR D R, n - 1) ⟨hy14, tn, rn, by simp only; omega, by simp only; omega, lT, by simp only; omega, z1, z2, fun y => by simp only; rw [hn1]; exact s1 y⟩ (by simp only; omega) qF ?_
      exact Seals.trans (Seals.drop 1 _ _) (Seals.sub qS)
    · have hlt : R.length < D.length := by omega
      refine loop_rule (X := Value × Value × List Int × List Int × Nat) (fun x => ([(7, x.2.1), (8, x2), (10, x.1), (61, .int .i64 (n : Nat)), (62, .int .i64 (x.2.2.2.2 : Nat))], [ownL 2 J z0 x.2.1 (x.2.2.2.1.map cn)], [(x2, vd D), (x.1, vd x.2.2.1)]))
        (fun x => isSl x.2.1 ∧ Nm x.2.2.1 ∧ Nm x.2.2.2.1 ∧ x.2.2.2.2 ≤ n ∧ x.2.2.2.1.length < D.length ∧ x.2.2.1.length ≤ p.length ∧ x.2.2.2.1.length ≤ p.length ∧ szR (re k (A.length + 1 - D.length - n + x.2.2.2.2)) x.2.2.1 ∧ szR (re k (A.length + 1 - D.length - n + x.2.2.2.2)) x.2.2.2.1 ∧
          ∀ y, ld D ^ (A.length + 1 - D.length - n + x.2.2.2.2) * pev A y = pev D y * pev x.2.2.1 y + pev x.2.2.2.1 y) (fun x => n - x.2.2.2.2) rfl ?_ ?_
      · exact again (vt, vr, T, R, 0) ⟨hvr, g1, g2, Nat.zero_le _, hlt, g5, g6, g7, g8, g9⟩ trivial qF (Seals.sub qS)
      · rintro ⟨vt, vr, T, R, i⟩ ⟨hvr, g1, g2, g3', g4, g5, g6, g7, g8, g9⟩
        simp only at hvr g1 g2 g3' g4 g5 g6 g7 g8 g9 ⊢
        refine cmp_split _ rfl (fun hlt => ?_) (fun hlt => ?_)
        · have hin : i < n := by omega
          have s1 := rest_more g9
          have hre : re k (A.length + 1 - D.length - n + i) + k + 1 ≤ re k (p.length + 1) := by
            rw [← re_succ]; exact re_mono (by omega)
          have hre2 : re k (A.length + 1 - D.length - n + i) + k ≤ re k (A.length + 1 - D.length - n + (i + 1)) := by
            have := re_succ k (A.length + 1 - D.length - n + i)
            rw [show A.length + 1 - D.length - n + i + 1 = A.length + 1 - D.length - n + (i + 1) by omega] at this
            omega
          have z1 := (g7.prai hld 0).mono hre2
          have z2 := (g8.prai hld 0).mono hre2
          have l1 := prai_len (ld D) 0 T
          have l2 := prai_len (ld D) 0 R
          have c1 := fun u u' => pRaisedT u u' T (ld D) 0 _ k g7 hld (by omega) (by omega) (by omega)
          have c4 := fun u u' => pRaisedOT u u' R (ld D) 0 _ k g8 hld (by omega) (by omega) (by omega)
          refine call_fn (pLeadN x2 D hDn hD0) (Seals.refl _ _) qS ?_
          rintro y3 _ _ ⟨rfl, rfl⟩
          refine call_fn (c1 vt y3) (Seals.refl _ _) qS ?_
          rintro y4 _ _ ⟨rfl, rfl⟩
          refine call_fn (pLeadN x2 D hDn hD0) (Seals.refl _ _) qS ?_
          rintro y5 _ _ ⟨rfl, rfl⟩
          refine call_fn (c4 vr y5) (Seals.L 0 rfl hvr) qS ?_
          rintro y6 _ _ ⟨hy6, rfl, rfl⟩
          refine ar rfl qI ?_
          refine again (y4, y6, prai (ld D) 0 T, prai (ld D) 0 R, i + 1) ⟨hy6, prai_nm _ _ _, prai_nm _ _ _, hin, by simp only; omega, by simp only; omega, by simp only; omega, z1, z2, fun y => s1 y⟩ (by simp only; omega) qF (Seals.sub qS)
        · have hin : i = n := by omega
          have q4 := g4
          subst hin
          have hj : A.length + 1 - D.length - i + i = A.length + 1 - D.length := by omega
          rw [hj] at g7 g8 g9
          refine fin ⟨vt, vr, T, R, hvr, rfl, ?_, rfl⟩ (Seals.sub qS)
          rw [if_neg (by omega)]
          exact ⟨rfl, hspec T R g1 g2 q4 g9, g7, g8, g5, g6⟩
theorem pRest_meets (v w : Value) (p q : Row) (k : Nat) (hp : Fit k p) (hq : Fit k q) (h1k : 1 ≤ k) (hk : re k (p.length + 1) ≤ 137438953472) (lp : p.length ≤ 536870912) (lq : q.length ≤ 536870912) :
    Meets Tryz.prog 165 [v, w] [(v, V p), (w, V q)] (fun r os fs => os = [] ∧ ∃ a b T R, (if dg (vv q) = 0 then r = .tuple #[a, b, .int .i64 2] ∧ T = [] ∧ R = [] else r = .tuple #[a, b, .int .i64 0] ∧ RestSpec (vv p) (vv q) T R ∧ szR (re k (dg (vv p) + 1 - dg (vv q))) T ∧ szR (re k (dg (vv p) + 1 - dg (vv q))) R ∧ T.length ≤ p.length ∧ R.length ≤ p.length) ∧
      fs = [(a, vd T), (b, vd R)]) :=
  (pRestO_meets v w p q k hp hq h1k hk lp lq).closed fun r os fs ⟨a, b, T, R, h1, h2, h3, h4⟩ => ⟨_, _, ⟨rfl, a, b, T, R, h3, rfl⟩, by
    subst h2 h4
    exact Seals.trans (Seals.toldL h1) (Seals.sub qS)⟩
theorem pRestT (v w : Value) (p q : List Int) (k : Nat) (hp : szR k p) (hq : szR k q) (h1k : 1 ≤ k) (hk : re k (p.length + 1) ≤ 137438953472) (lp : p.length ≤ 536870912) (lq : q.length ≤ 536870912) :
    Meets Tryz.prog 165 [v, w] [(v, vd p), (w, vd q)] (fun r os fs => os = [] ∧ ∃ a b T R, (if dg q = 0 then r = .tuple #[a, b, .int .i64 2] ∧ T = [] ∧ R = [] else r = .tuple #[a, b, .int .i64 0] ∧ RestSpec p q T R ∧ szR (re k (dg p + 1 - dg q)) T ∧ szR (re k (dg p + 1 - dg q)) R ∧ T.length ≤ p.length ∧ R.length ≤ p.length) ∧
      fs = [(a, vd T), (b, vd R)]) := by
  have h := pRest_meets v w (p.map cn) (q.map cn) k hp.fit hq.fit h1k (by rw [List.length_map]; exact hk) (by rw [List.length_map]; exact lp) (by rw [List.length_map]; exact lq)
  rw [vv_cn, vv_cn, List.length_map] at h
  exact h
theorem pRestOT (v w : Value) (p q : List Int) (k : Nat) (hp : szR k p) (hq : szR k q) (h1k : 1 ≤ k) (hk : re k (p.length + 1) ≤ 137438953472) (lp : p.length ≤ 536870912) (lq : q.length ≤ 536870912) :
    Meets Tryz.prog 165 [v, w] [(v, vd p), (w, vd q)] (fun r os fs => ∃ a b T R, isSl b ∧ os = [ownL 2 J z0 b (R.map cn)] ∧ (if dg q = 0 then r = .tuple #[a, b, .int .i64 2] ∧ T = [] ∧ R = [] else r = .tuple #[a, b, .int .i64 0] ∧ RestSpec p q T R ∧ szR (re k (dg p + 1 - dg q)) T ∧ szR (re k (dg p + 1 - dg q)) R ∧ T.length ≤ p.length ∧ R.length ≤ p.length) ∧
      fs = [(a, vd T)]) := by
  have h := pRestO_meets v w (p.map cn) (q.map cn) k hp.fit hq.fit h1k (by rw [List.length_map]; exact hk) (by rw [List.length_map]; exact lp) (by rw [List.length_map]; exact lq)
  rw [vv_cn, vv_cn, List.length_map] at h
  exact h
open Go.RowKit
theorem re_one (k j : Nat) : re k j + 1 = (k + 1) * (j + 1) := by
  unfold re; grind
theorem two_three (d : Nat) : d + 2 ≤ 2 * 3 ^ d := by
  induction d with
  | zero => decide
  | succ d ih => rw [Nat.pow_succ]; omega
theorem szR.pprim {k : Nat} {l : List Int} (h : szR k l) : szR k (pprim l) := szR.nrm fun x hx => by
  obtain ⟨y, hy, rfl⟩ := List.mem_map.1 hx
  exact sz_div (h.nrm y hy)
theorem pprim_len (l : List Int) : (pprim l).length ≤ dg l := Nat.le_trans (nrm_length_le _) (by rw [List.length_map]; exact Nat.le_refl _)
def ge (k s d : Nat) : Nat := (k + 1) * (2 ^ s * 3 ^ d)
theorem ge_step {e k s d j δ : Nat} (h : e + 1 ≤ ge k s d) (hj : j + 1 ≤ δ + 2) : re e j + 1 ≤ ge k (s + 1) (d + δ) := by
  rw [re_one]
  have h1 : (e + 1) * (j + 1) ≤ ge k s d * (2 * 3 ^ δ) := Nat.mul_le_mul h (Nat.le_trans hj (two_three δ))
  have h2 : ge k s d * (2 * 3 ^ δ) = ge k (s + 1) (d + δ) := by
    unfold ge
    rw [Nat.pow_succ, Nat.pow_add, Nat.mul_assoc]
    congr 1
    rw [Nat.mul_assoc, Nat.mul_assoc, ← Nat.mul_assoc (3 ^ d), Nat.mul_comm (3 ^ d) 2, Nat.mul_assoc]
  omega
theorem ge_mono {k s s' d d' : Nat} (hs : s ≤ s') (hd : d ≤ d') : ge k s d ≤ ge k s' d' :=
  Nat.mul_le_mul_left _ (Nat.mul_le_mul (Nat.pow_le_pow_right (by decide) hs) (Nat.pow_le_pow_right (by decide) hd))
theorem three_two : ∀ {n : Nat}, 1 ≤ n → n + 2 ≤ 3 ^ n
  | 1, _ => by decide
  | n + 2, _ => by
    have := three_two (n := n + 1) (by omega)
    rw [Nat.pow_succ]; omega
theorem ge_three (k s d j : Nat) : ge k s d * 3 ^ j = ge k s (d + j) := by unfold ge; rw [Nat.pow_add]; grind
theorem ge_turn {k n : Nat} (h : 1 ≤ n) : ge k n (n - 1) ≤ ge k (n - 1) n := by
  obtain ⟨m, rfl⟩ : ∃ m, n = m + 1 := ⟨n - 1, by omega⟩
  rw [Nat.add_sub_cancel]
  unfold ge
  refine Nat.mul_le_mul_left _ ?_
  rw [Nat.pow_succ, Nat.pow_succ, show 2 ^ m * 2 * 3 ^ m = 2 ^ m * (3 ^ m * 2) by grind]
  exact Nat.mul_le_mul_left _ (Nat.mul_le_mul_left _ (by decide))
theorem ge_old (k n : Nat) : ge k (n - 1) n + k ≤ ge k n n * (n + 2) := by
  have h1 : ge k (n - 1) n ≤ ge k n n := ge_mono (by omega) (Nat.le_refl _)
  have h2 : k + 1 ≤ ge k n n := by
    unfold ge
    exact Nat.le_mul_of_pos_right _ (Nat.mul_pos (Nat.pow_pos (by decide)) (Nat.pow_pos (by decide)))
  have h3 : ge k n n * 2 ≤ ge k n n * (n + 2) := Nat.mul_le_mul_left _ (by omega)
  omega
theorem pGcdN_meets (v w : Value) (p q : Row) (k n : Nat) (hp : Fit k p) (hq : Fit k q) (h1k : 1 ≤ k) (lp : p.length ≤ n) (lq : q.length ≤ n) (hn : n ≤ 536870912) (hk : ge k (n - 1) n + k ≤ 137438953472) :
    Meets Tryz.prog 181 [v, w] [(v, V p), (w, V q)] (fun r os fs => os = [] ∧ ∃ G, Nm G ∧ Gc G (vv p) (vv q) ∧ fs = [(r, vd G)]) := by
  have hge1 : k + 1 ≤ ge k (n - 1) n := by
    unfold ge
    exact Nat.le_mul_of_pos_right _ (Nat.mul_pos (Nat.pow_pos (by decide)) (Nat.pow_pos (by decide)))
  have hcs1 : sz (cont (vv p) : Nat) k := cont_sz hp.szR
  have hcs2 : sz (cont (vv q) : Nat) k := cont_sz hq.szR
  have sP := hp.szR.pprim
  have sQ := hq.szR.pprim
  have dP : dg (vv p) ≤ n := Nat.le_trans (dg_le_len _) (by rw [vv_len]; exact lp)
  have dQ : dg (vv q) ≤ n := Nat.le_trans (dg_le_len _) (by rw [vv_len]; exact lq)
  have eP : (pprim (vv p)).length = dg (vv p) := by rw [← dg_nm (pprim_nm _), pprim_dg]
  have eQ : (pprim (vv q)).length = dg (vv q) := by rw [← dg_nm (pprim_nm _), pprim_dg]
  have hcg : sz ((Nat.gcd (cont (vv p)) (cont (vv q)) : Nat) : Int) k := by
    by_cases e : cont (vv p) = 0
    · rw [e, Nat.gcd_zero_left]; exact hcs2
    · unfold sz at hcs1 ⊢
      rw [Int.natAbs_natCast] at hcs1 ⊢
      exact Nat.lt_of_le_of_lt (Nat.gcd_le_left _ (Nat.pos_of_ne_zero e)) hcs1
  have hgc := fun u u' => zGcdZ u u' _ _ k k hcs1 hcs2 (by omega) (by omega)
  simp only [Int.natAbs_natCast] at hgc
  refine meets_of_vc Tryz.func181 (by kernel_rfl) rfl (by kernel_rfl) (Nat.le_of_ble_eq_true rfl) ?_
  refine call_fn (pContent_meets v p k hp (by omega)) (Seals.refl _ _) qS ?_
  rintro x1 _ _ ⟨rfl, rfl⟩
  refine call_fn (pContent_meets w q k hq (by omega)) (Seals.refl _ _) qS ?_
  rintro x2 _ _ ⟨rfl, rfl⟩
  refine call_fn (hgc x1 x2) (Seals.refl _ _) qS ?_
  rintro x3 _ _ ⟨rfl, rfl⟩
  refine alloc_rule (d := I false []) fun c hc => ?_
  refine store_box (d := zd (Nat.gcd (cont (vv p)) (cont (vv q)) : Nat)) 0 rfl hc rfl (by kernel_rfl) ?_ ?_; exact Reads.fact qM
  refine call_fn (pPrimitive_meets v p k hp (by omega) (by omega)) (Seals.refl _ _) qS ?_
  rintro x4 _ _ ⟨rfl, rfl⟩
  refine call_fn (pPrimitive_meets w q k hq (by omega) (by omega)) (Seals.refl _ _) qS ?_
  rintro x5 _ _ ⟨rfl, rfl⟩
  refine loop_rule (X := Value × Value × List Int × List Int × Nat × Nat × Nat) (fun x => ([(5, c), (6, x.1), (7, x.2.1)], [own1 c 2 1 (fun _ => zd (Nat.gcd (cont (vv p)) (cont (vv q)) : Nat))], [(x.1, vd x.2.2.1), (x.2.1, vd x.2.2.2.1)]))
    (fun x => Nm x.2.2.1 ∧ Nm x.2.2.2.1 ∧ x.2.2.2.1.length + x.2.2.2.2.1 ≤ n ∧ x.2.2.2.2.2.1 + max x.2.2.1.length x.2.2.2.1.length ≤ n ∧ szR x.2.2.2.2.2.2 x.2.2.1 ∧ szR x.2.2.2.2.2.2 x.2.2.2.1 ∧ 1 ≤ x.2.2.2.2.2.2 ∧ (x.2.2.2.2.2.2 + 1 ≤ ge k x.2.2.2.2.1 x.2.2.2.2.2.1 ∧ x.2.2.2.2.2.2 + 1 ≤ ge k (n - 1) n) ∧
      (0 < dg x.2.2.1 → cont x.2.2.1 = 1 ∧ 0 < ld x.2.2.1) ∧ (0 < dg x.2.2.2.1 → cont x.2.2.2.1 = 1 ∧ 0 < ld x.2.2.2.1) ∧ (dg x.2.2.1 = 0 ∧ dg x.2.2.2.1 = 0 → dg (vv p) = 0 ∧ dg (vv q) = 0) ∧
      (∀ h, cont h = 1 → (Dv h x.2.2.1 ∧ Dv h x.2.2.2.1 ↔ Dv h (pprim (vv p)) ∧ Dv h (pprim (vv q))))) (fun x => x.2.2.2.1.length) rfl ?_ ?_
  · refine again (x4, x5, pprim (vv p), pprim (vv q), 0, 0, k) ⟨pprim_nm _, pprim_nm _, by simp only; omega, by simp only; omega, sP, sQ, h1k, ⟨by simp [ge], hge1⟩, fun h => ?_, fun h => ?_, fun h => ?_, fun _ _ => Iff.rfl⟩ trivial qF (Seals.trans (Seals.box0 rfl) (Seals.sub qS))
    · simp only [pprim_dg] at h; exact ⟨pprim_cont h, pprim_ld h⟩
    · simp only [pprim_dg] at h; exact ⟨pprim_cont h, pprim_ld h⟩
    · simp only [pprim_dg] at h; exact h
  · rintro ⟨va, vb, A, B, s, d, e⟩ ⟨g1, g2, g3, g4, g5, g6, g7, ⟨g8, g8'⟩, g9, g10, g11, g12⟩
    simp only at g1 g2 g3 g4 g5 g6 g7 g8 g8' g9 g10 g11 g12 ⊢
    have hed : e + k + 1 ≤ 137438953472 := by omega
    refine len_vd qM ?_
    refine cmp_split _ rfl (fun hgt => ?_) (fun hgt => ?_)
    · have hB : 0 < dg B := by rw [dg_nm g2]; omega
      have hrb : re e (A.length + 1) ≤ 137438953472 := by
        have h1 := re_one e (A.length + 1)
        have h2 : (e + 1) * (A.length + 1 + 1) ≤ ge k s d * 3 ^ (max A.length B.length) := Nat.mul_le_mul g8 (Nat.le_trans (by omega) (three_two (by omega)))
        rw [ge_three] at h2
        have h3 := Nat.le_trans h2 (ge_mono (k := k) (s' := n - 1) (d' := n) (by omega) (by omega))
        omega
      have hrs := pRestT va vb A B e g5 g6 g7 hrb (by omega) (by omega)
      simp only [if_neg (show ¬ dg B = 0 by omega)] at hrs
      refine call_fn hrs (Seals.refl _ _) qS ?_
      rintro _ _ _ ⟨rfl, a, b, T, R, ⟨rfl, hsp, hT, hR, lT, lR⟩, rfl⟩
      have hst := ge_step (j := dg A + 1 - dg B) (δ := dg A - dg B) g8 (by omega)
      have hRB : dg R < dg B := hsp.low
      have hed2 : re e (dg A + 1 - dg B) + 1 ≤ ge k (n - 1) n := Nat.le_trans hst (Nat.le_trans (ge_mono (s' := n) (d' := n - 1) (by omega) (by rw [dg_nm g1, dg_nm g2]; omega)) (ge_turn (by omega)))
      have hk0 : ld B ^ (dg A + 1 - dg B) ≠ 0 := by
        have h0 := ld_ne hB
        have : ∀ m : Nat, ld B ^ m ≠ 0 := fun m => by
          induction m with
          | zero => rw [Int.pow_zero]; omega
          | succ m ih => rw [Int.pow_succ]; exact Int.mul_ne_zero ih h0
        exact this _
      have hge0 : e ≤ re e (dg A + 1 - dg B) := re_ge _ _
      have lR' : (pprim R).length = dg R := by rw [← dg_nm (pprim_nm R), pprim_dg]
      have dA := dg_nm g1
      have dB := dg_nm g2
      refine call_fn (pPrimitiveT b R _ hR (by omega) (by omega)) (Seals.refl _ _) qS ?_
      rintro y1 _ _ ⟨rfl, rfl⟩
      refine again (vb, y1, B, pprim R, s + 1, d + (dg A - dg B), re e (dg A + 1 - dg B)) ⟨g2, pprim_nm _, by simp only; omega, by simp only; omega, g6.mono hge0, hR.pprim, by simp only; omega, ⟨hst, hed2⟩, g10, fun h => ?_, fun h => by simp only at h; omega, fun h hh => ?_⟩ (by simp only; omega) qF (Seals.trans (Seals.box0 rfl) (Seals.sub qS))
      · simp only [pprim_dg] at h; exact ⟨pprim_cont h, pprim_ld h⟩
      · rw [← g12 h hh]
        exact (gcd_step hh hk0 hsp.eq).symm
    · have hB : dg B = 0 := by rw [dg_nm g2]; omega
      have hend := gcd_end (p := vv p) (q := vv q) (a := A) g9 (fun h => g11 ⟨h, hB⟩) fun h hh => by
        rw [← g12 h hh]
        exact ⟨fun k => ⟨k, Dv.zero _ (dg_zero.1 hB)⟩, fun k => k.1⟩
      have hra := fun u => pRaisedT va u A _ 0 e k g5 hcg (by omega) (by omega) (by omega)
      simp only [prai_zero] at hra
      refine load_box (d := zd (Nat.gcd (cont (vv p)) (cont (vv q)) : Nat)) 0 rfl hc rfl (load_I _ _) fun y1 => ?_
      refine call_fn (hra y1) (Seals.refl _ _) qS ?_
      rintro r _ _ ⟨rfl, rfl⟩
      exact fin ⟨rfl, _, ptim_nm _ _, hend, rfl⟩ (Seals.trans (Seals.drop 0 _ _) (Seals.sub qS))
end Go.Proofs.YtjebljkoiaojaaaGreat
namespace Go.Proofs.YtjebljkoiaojaaaGreat
def syn (a : Int) : List Int → List Int
  | [] => []
  | [_] => []
  | _ :: d :: l => pev (d :: l) a :: syn a (d :: l)
theorem syn_len (a : Int) : ∀ l : List Int, (syn a l).length = l.length - 1
  | [] => rfl
  | [_] => rfl
  | _ :: d :: l => by
    have := syn_len a (d :: l)
    simp only [syn, List.length_cons] at this ⊢
    omega
theorem syn_ev (a x : Int) : ∀ l : List Int, pev l x = pev l a + (x - a) * pev (syn a l) x
  | [] => by simp [pev, syn]
  | [c] => by simp [pev, syn]
  | c :: d :: l => by
    have := syn_ev a x (d :: l)
    show c + x * pev (d :: l) x = c + a * pev (d :: l) a + (x - a) * (pev (d :: l) a + x * pev (syn a (d :: l)) x)
    rw [this]; grind
theorem syn_co (a : Int) : ∀ (l : List Int) (i : Nat), l.getD i 0 = (if i = 0 then pev l a else (syn a l).getD (i - 1) 0) - a * (syn a l).getD i 0
  | [], i => by simp [pev, syn]
  | [c], i => by cases i <;> simp [pev, syn]
  | c :: d :: l, 0 => by
    show c = c + a * pev (d :: l) a - a * pev (d :: l) a
    omega
  | c :: d :: l, 1 => by
    have := syn_co a (d :: l) 0
    simp only [if_true] at this
    show (d :: l).getD 0 0 = pev (d :: l) a - a * (syn a (d :: l)).getD 0 0
    exact this
  | c :: d :: l, i + 2 => by
    have := syn_co a (d :: l) (i + 1)
    rw [if_neg (by omega)] at this
    show (d :: l).getD (i + 1) 0 = (syn a (d :: l)).getD i 0 - a * (syn a (d :: l)).getD (i + 1) 0
    exact this
theorem bnd : ∀ (n : Nat) (P : List Int) (pts : Nat → Int) (A B : Nat), P.length ≤ n + 1 → (∀ i, i ≤ n → (pts i).natAbs ≤ A) → (∀ i j, i ≤ n → j ≤ n → i ≠ j → pts i ≠ pts j) → (∀ i, i ≤ n → (pev P (pts i)).natAbs ≤ B) →
    ∀ j, (P.getD j 0).natAbs ≤ B * (2 * A + 3) ^ n
  | 0, P, pts, A, B, hl, _, _, hv, j => by
    have h0 := hv 0 (Nat.le_refl _)
    match P, hl with
    | [], _ => simp
    | [c], _ =>
      simp only [pev] at h0
      cases j with
      | zero => simp at h0 ⊢; exact h0
      | succ j => simp
    | _ :: _ :: _, h => simp at h
  | n + 1, P, pts, A, B, hl, hA, hi, hv, j => by
    have ih := bnd n (syn (pts (n + 1)) P) pts A (2 * B) (by rw [syn_len]; omega) (fun i h => hA i (by omega)) (fun i j h1 h2 => hi i j (by omega) (by omega)) fun i h => by
      have h1 := syn_ev (pts (n + 1)) (pts i) P
      have h2 := hv i (by omega)
      have h3 := hv (n + 1) (Nat.le_refl _)
      have h4 := hi i (n + 1) (by omega) (Nat.le_refl _) (by omega)
      have h5 : ((pts i - pts (n + 1)) * pev (syn (pts (n + 1)) P) (pts i)).natAbs ≤ 2 * B := by
        have : (pts i - pts (n + 1)) * pev (syn (pts (n + 1)) P) (pts i) = pev P (pts i) - pev P (pts (n + 1)) := by omega
        rw [this]
        have := Int.natAbs_sub_le (pev P (pts i)) (pev P (pts (n + 1)))
        omega
      rw [Int.natAbs_mul] at h5
      have h6 : 1 ≤ (pts i - pts (n + 1)).natAbs := by omega
      exact Nat.le_trans (Nat.le_mul_of_pos_left _ h6) h5
    have hp : 1 ≤ (2 * A + 3) ^ n := Nat.pow_pos (by omega)
    have hq : ∀ m, ((syn (pts (n + 1)) P).getD m 0).natAbs ≤ 2 * B * (2 * A + 3) ^ n := ih
    have h1 := syn_co (pts (n + 1)) P j
    have h2 : (pts (n + 1) * (syn (pts (n + 1)) P).getD j 0).natAbs ≤ A * (2 * B * (2 * A + 3) ^ n) := by
      rw [Int.natAbs_mul]
      exact Nat.mul_le_mul (hA _ (Nat.le_refl _)) (hq j)
    have h3 : (if j = 0 then pev P (pts (n + 1)) else (syn (pts (n + 1)) P).getD (j - 1) 0).natAbs ≤ B + 2 * B * (2 * A + 3) ^ n := by
      split
      · exact Nat.le_trans (hv _ (Nat.le_refl _)) (Nat.le_add_right _ _)
      · exact Nat.le_trans (hq _) (Nat.le_add_left _ _)
    have h4 : (P.getD j 0).natAbs ≤ B + 2 * B * (2 * A + 3) ^ n + A * (2 * B * (2 * A + 3) ^ n) := by
      rw [h1]
      exact Nat.le_trans (Int.natAbs_sub_le _ _) (Nat.add_le_add h3 h2)
    refine Nat.le_trans h4 ?_
    have h5 : B ≤ B * (2 * A + 3) ^ n := Nat.le_mul_of_pos_right _ hp
    have h6 : B * (2 * A + 3) ^ (n + 1) = B * (2 * A + 3) ^ n + (2 * B * (2 * A + 3) ^ n + A * (2 * B * (2 * A + 3) ^ n)) := by
      rw [Nat.pow_succ]; grind
    omega
theorem ev_ne {H : Nat} {x : Int} (hx : H < x.natAbs) : ∀ {l : List Int}, (∀ i, (l.getD i 0).natAbs ≤ H) → pev l x = 0 → ∀ i, l.getD i 0 = 0
  | [], _, _, i => by simp
  | c :: l, h, e, i => by
    simp only [pev] at e
    have h0 : c = 0 := by
      have := h 0
      simp only [List.getD_cons_zero] at this
      exact small_dvd (x := x) (k := - pev l x) (by rw [Int.mul_neg]; omega) (by omega)
    have h1 : pev l x = 0 := by
      rw [h0] at e
      rcases Int.mul_eq_zero.1 (show x * pev l x = 0 by omega) with h2 | h2
      · omega
      · exact h2
    cases i with
    | zero => simpa using h0
    | succ i => simpa using ev_ne hx (fun i => by have := h (i + 1); simpa using this) h1 i
theorem dv_bnd {s w : List Int} {H B n : Nat} (h : Dv s w) (hw : 0 < dg w) (hH : ∀ i, (w.getD i 0).natAbs ≤ H) (hs : s.length ≤ n + 1) (hB : ∀ i, i ≤ n → (pev w (H + 1 + i : Nat)).natAbs ≤ B) (j : Nat) :
    (s.getD j 0).natAbs ≤ B * (2 * (H + 1 + n) + 3) ^ n := by
  refine bnd n s (fun i => ((H + 1 + i : Nat) : Int)) (H + 1 + n) B hs (fun i hi => by simp only [Int.natAbs_natCast]; omega) (fun i j _ _ hne he => hne (by omega)) (fun i hi => ?_) j
  obtain ⟨u, hu⟩ := h
  have h1 := hB i hi
  have h2 : pev w (H + 1 + i : Nat) ≠ 0 := fun e => by
    have := ev_ne (H := H) (x := ((H + 1 + i : Nat) : Int)) (by rw [Int.natAbs_natCast]; omega) hH e
    have : dg w ≤ 0 := dg_le.2 fun i _ => this i
    omega
  rw [hu, Int.natAbs_mul] at h1
  have h3 : 1 ≤ (pev u (H + 1 + i : Nat)).natAbs := by
    rw [hu] at h2
    have : pev u (H + 1 + i : Nat) ≠ 0 := fun e => h2 (by rw [e]; simp)
    omega
  exact Nat.le_trans (Nat.le_mul_of_pos_right _ h3) h1
open Go.RowKit
def dvk (k N : Nat) : Nat := k + 2 * (N * (k + 2)) + 1
theorem dv_szR {s w : List Int} {k N : Nat} (h : Dv s w) (hw : 0 < dg w) (hk : szR k w) (ns : Nm s) (hN : dg w ≤ N) (h32 : N ≤ 4294967296) : szR (dvk k N) s := by
  have hs0 := h.deg hw
  have hls : s.length = dg s := (dg_nm ns).symm
  have hP : 0 < 18446744073709551616 ^ k := Nat.pow_pos (by decide)
  have hP1 : 18446744073709551616 ^ (k + 1) = 18446744073709551616 ^ k * 18446744073709551616 := Nat.pow_succ _ _
  have hP2 : 18446744073709551616 ^ (k + 2) = 18446744073709551616 ^ k * 18446744073709551616 * 18446744073709551616 := by rw [Nat.pow_succ, hP1]
  have hB : ∀ i, i ≤ N → (pev w (18446744073709551616 ^ k + 1 + i : Nat)).natAbs ≤ 18446744073709551616 ^ (k + N * (k + 2)) := fun i hi => by
    have hx : sz ((18446744073709551616 ^ k + 1 + i : Nat) : Int) (k + 1) := by
      unfold sz
      rw [Int.natAbs_natCast, hP1]
      omega
    have h1 := ev_sz hk.nrm hx
    rw [ev_nrm] at h1
    have h2 : k + (nrm w).length * (k + 1 + 1) ≤ k + N * (k + 2) := Nat.add_le_add_left (Nat.mul_le_mul_right _ hN) _
    exact Nat.le_of_lt (h1.mono h2)
  have hb := dv_bnd (n := dg s - 1) h hw (fun i => Nat.le_of_lt (hk.get i)) (by omega) fun i hi => hB i (by omega)
  intro x hx
  obtain ⟨j, hj, rfl⟩ := List.mem_iff_getElem.1 hx
  have h1 := hb j
  rw [List.getD_eq_getElem?_getD, List.getElem?_eq_getElem hj] at h1
  have h2 : 2 * (18446744073709551616 ^ k + 1 + (dg s - 1)) + 3 ≤ 18446744073709551616 ^ (k + 2) := by
    rw [hP2]; omega
  have h3 : (2 * (18446744073709551616 ^ k + 1 + (dg s - 1)) + 3) ^ (dg s - 1) ≤ 18446744073709551616 ^ (N * (k + 2)) := by
    refine Nat.le_trans (Nat.pow_le_pow_left h2 _) ?_
    rw [← Nat.pow_mul]
    refine Nat.pow_le_pow_right (by decide) ?_
    rw [Nat.mul_comm]
    exact Nat.mul_le_mul_right _ (by omega)
  unfold sz
  have h4 : 18446744073709551616 ^ (k + N * (k + 2)) * 18446744073709551616 ^ (N * (k + 2)) = 18446744073709551616 ^ (k + 2 * (N * (k + 2))) := by
    rw [← Nat.pow_add]; congr 1; omega
  have h5 : (s[j]).natAbs ≤ 18446744073709551616 ^ (k + 2 * (N * (k + 2))) := by
    rw [← h4]
    exact Nat.le_trans h1 (Nat.mul_le_mul (Nat.le_refl _) h3)
  refine Nat.lt_of_le_of_lt h5 ?_
  unfold dvk
  exact Nat.pow_lt_pow_right (by decide) (by omega)
open Go.RowKit
theorem div_dg {R D : List Int} {c : Int} (hD : 0 < dg D) (hR : dg D ≤ dg R) (hc : c * ld D = ld R) : dg (psub R (prai c (dg R - dg D) D)) < dg R := by
  have : dg (psub R (prai c (dg R - dg D) D)) ≤ dg R - 1 := dg_le.2 fun i hi => by
    rw [co_psub, co_prai, if_neg (by omega)]
    by_cases h : i = dg R - 1
    · rw [h, show dg R - 1 - (dg R - dg D) = dg D - 1 by omega]
      show ld R - c * ld D = 0
      omega
    · rw [dg_le.1 (Nat.le_refl (dg R)) i (by omega), dg_le.1 (Nat.le_refl (dg D)) (i - (dg R - dg D)) (by omega)]; simp
  omega
structure DivSpec (p q t : List Int) (e : Int) : Prop where
  tn : Nm t
  zero : dg q = 0 → e = 2 ∧ t = []
  ok : 0 < dg q → Dv q p → e = 0 ∧ ∀ x, pev p x = pev q x * pev t x
  no : 0 < dg q → ¬ Dv q p → e = 11 ∧ t = []
def put (f : Nat → Int) (s : Nat) (c : Int) : Nat → Int := fun y => if y = s then c else f y
theorem ev_put {N s : Nat} {f : Nat → Int} (hs : s < N) (h0 : f s = 0) (c x : Int) : pev (lst N (put f s c)) x = pev (lst N f) x + c * x ^ s := by
  have e : ∀ y, put f s c y = f y + (if s ≤ y then c * [1].getD (y - s) 0 else 0) := fun y => by
    unfold put
    by_cases h : y = s
    · subst h
      rw [if_pos rfl, if_pos (Nat.le_refl _), Nat.sub_self, h0]; simp
    · rw [if_neg h]
      split
      · rw [getD_none (l := [1]) (by simp; omega)]; simp
      · simp
  have e2 : lst N (put f s c) = lst N fun y => f y + (if s ≤ y then c * [1].getD (y - s) 0 else 0) := lst_congr fun y _ => e y
  rw [e2, ev_lst_add, ev_shifted [1] s N (by simp; omega)]
  simp [pev]
theorem div_step {P D R : List Int} {f : Nat → Int} {N : Nat} {c : Int} (hs : R.length - D.length < N) (h0 : f (R.length - D.length) = 0) (e : ∀ x, pev P x = pev D x * pev (lst N f) x + pev R x) :
    ∀ x, pev P x = pev D x * pev (lst N (put f (R.length - D.length) c)) x + pev (psub R (prai c (R.length - D.length) D)) x := fun x => by
  rw [ev_put hs h0, ev_psub, ev_prai, e]; grind
theorem div_no {P D R T : List Int} (e : ∀ x, pev P x = pev D x * pev T x + pev R x) (h : Dv D P) : Dv D R :=
  h.sub (c := pmul D T) ⟨T, fun x => ev_pmul _ _ _⟩ fun x => by rw [e, ev_pmul]; omega
theorem ld_dvd {D R : List Int} (h : Dv D R) (hR : 0 < dg R) : ld D ∣ ld R := by
  obtain ⟨u, hu⟩ := h
  have hd := (show Dv D R from ⟨u, hu⟩).deg hR
  have hu0 : 0 < dg u := dg_pos fun e => by
    have := (dg_zero (l := R)).2 fun x => by rw [hu, e]; simp
    omega
  exact ⟨ld u, (mul_dg hu hd.1 hu0).2⟩
theorem pDivideO_meets (v w : Value) (p q : Row) (k l : Nat) (hp : Fit k p) (hq : Fit l q) (hk : k + (p.length + 1) * (l + 1) ≤ 137438953472) (lp : p.length ≤ 536870912) (lq : q.length ≤ 536870912) :
    Meets Tryz.prog 80 [v, w] [(v, V p), (w, V q)] (fun r os fs => ∃ a t e, r = .tuple #[a, .int .i64 e] ∧ DivSpec (vv p) (vv q) t e ∧ isSl a ∧ szR (k + (p.length + 1) * (l + 1)) t ∧ os = [ownL 2 J z0 a (t.map cn)] ∧ fs = []) := by
  have hm1 : (p.length + 1) * (l + 1) = p.length * (l + 1) + (l + 1) := Nat.succ_mul _ _
  have n1 := pNorm_meets v p (hp.mono (by omega)) (by omega)
  have n2 := pNorm_meets w q (hq.mono (by omega)) (by omega)
  have sP := hp.szR.nrm
  have sD := hq.szR.nrm
  have la : (nrm (vv p)).length ≤ p.length := Nat.le_trans (nrm_length_le _) (by rw [vv_len]; exact Nat.le_refl _)
  have lb : (nrm (vv q)).length ≤ q.length := Nat.le_trans (nrm_length_le _) (by rw [vv_len]; exact Nat.le_refl _)
  have hPn : Nm (nrm (vv p)) := nrm_nrm _
  have hDn : Nm (nrm (vv q)) := nrm_nrm _
  have hdq : dg (vv q) = (nrm (vv q)).length := rfl
  have hdv : Dv (vv q) (vv p) → Dv (nrm (vv q)) (nrm (vv p)) := fun h => h.ext (fun x => (ev_nrm _ x).symm) fun x => (ev_nrm _ x).symm
  have hbad : 0 < (nrm (vv q)).length → ¬ Dv (nrm (vv q)) (nrm (vv p)) → DivSpec (vv p) (vv q) [] 11 := fun h0 hn => ⟨rfl, fun h => by omega, fun _ h => (hn (hdv h)).elim, fun _ _ => ⟨rfl, rfl⟩⟩
  have hgood : ∀ T, (0 < (nrm (vv q)).length) → (∀ x, pev (nrm (vv p)) x = pev (nrm (vv q)) x * pev T x) → DivSpec (vv p) (vv q) (nrm T) 0 := fun T h0 hn => ⟨nrm_nrm _, fun h => by omega, fun _ _ => ⟨rfl, fun x => by rw [ev_nrm, ← ev_nrm (vv p), ← ev_nrm (vv q)]; exact hn x⟩, fun _ h => (h ⟨T, fun x => by rw [← ev_nrm (vv p), ← ev_nrm (vv q)]; exact hn x⟩).elim⟩
  have hzero : (nrm (vv q)).length = 0 → DivSpec (vv p) (vv q) [] 2 := fun h0 => ⟨rfl, fun _ => ⟨rfl, rfl⟩, fun h => by omega, fun h => by omega⟩
  generalize hA : nrm (vv p) = A at *
  generalize hB : nrm (vv q) = D at *
  generalize hE : k + (p.length + 1) * (l + 1) = E at *
  refine meets_of_vc Tryz.func80 (by kernel_rfl) rfl (by kernel_rfl) (Nat.le_of_ble_eq_true rfl) ?_
  refine call_fn n1 (Seals.refl _ _) qS ?_
  rintro x1 _ _ ⟨rfl, rfl⟩
  refine call_fn n2 (Seals.refl _ _) qS ?_
  rintro x2 _ _ ⟨rfl, rfl⟩
  refine len_vd qM ?_
  refine cmp_split _ rfl (fun hz => ?_) (fun hz => ?_)
  · exact fin ⟨_, [], 2, rfl, hzero (by omega), ⟨_, _, _, rfl⟩, fun x hx => by simp at hx, rfl, rfl⟩ (Seals.trans (Seals.nil _ _) (Seals.own_nil _ _ 2 _))
  have hD0 : 0 < D.length := by omega
  have dD := dg_nm hDn
  have hldD : ld D ≠ 0 := ld_ne (by omega)
  refine len_vd qM ?_
  refine len_vd qM ?_
  refine ar rfl qI ?_
  refine ar rfl qI ?_
  refine max2_rule ?_
  refine make_rule (t := 23) (d := I false []) (A.length + 1 - D.length) (by omega) (by omega) (by omega) (by omega) fun u hu => ?_
  generalize hN : A.length + 1 - D.length = N
  refine loop_rule (X := Value × List Int × (Nat → Int) × Nat) (fun x => ([(6, x.1), (7, x2), (8, u)], [own1 u 2 N (fun y => zd (x.2.2.1 y))], [(x2, vd D), (x.1, vd x.2.1)]))
    (fun x => Nm x.2.1 ∧ x.2.1.length + x.2.2.2 ≤ A.length ∧ szR (k + x.2.2.2 * (l + 1)) x.2.1 ∧ (∀ y, sz (x.2.2.1 y) E) ∧ (∀ y, y + D.length ≤ x.2.1.length → x.2.2.1 y = 0) ∧ ∀ x', pev A x' = pev D x' * pev (lst N x.2.2.1) x' + pev x.2.1 x') (fun x => x.2.1.length) rfl ?_ ?_
  · refine again (x1, A, fun _ => 0, 0) ⟨hPn, by simp only; omega, by simp only [Nat.zero_mul, Nat.add_zero]; exact sP, fun _ => sz_zero _, fun _ _ => rfl, fun x => by simp only [ev_lst_zero]; omega⟩ trivial qF (Seals.trans (Seals.own_cong (os := [_]) 0 (fun _ => zd 0) rfl rfl fun y _ => zero_zd) (Seals.sub qS))
  · rintro ⟨vr, R, f, j⟩ ⟨g1, g2, g3, g4, g5, g6⟩
    simp only at g1 g2 g3 g4 g5 g6 ⊢
    have dR := dg_nm g1
    refine len_vd qM ?_
    refine len_vd qM ?_
    refine cmp_split _ rfl (fun hge => ?_) (fun hge => ?_)
    · have hge' : D.length ≤ R.length := by omega
      have hsN : R.length - D.length < N := by omega
      have hj1 : (j + 1) * (l + 1) ≤ (p.length + 1) * (l + 1) := Nat.mul_le_mul_right _ (by omega)
      have hj2 : (j + 1) * (l + 1) = j * (l + 1) + (l + 1) := Nat.succ_mul _ _
      have hlR : sz (ld R) (k + j * (l + 1)) := g3.get _
      have hlD : sz (ld D) l := sD.get _
      have hlc : sz (ld R / ld D) (k + j * (l + 1)) := sz_div hlR
      have hlm : sz (ld R % ld D) l := by
        have h1 := Int.emod_nonneg (ld R) hldD
        have h2 := Int.emod_lt (ld R) hldD
        unfold sz at hlD ⊢
        omega
      have hst := div_step (c := ld R / ld D) hsN (g5 _ (by omega)) g6
      have c5 := fun u' u'' => pRaisedT u' u'' D (ld R / ld D) (R.length - D.length) l _ sD hlc (by omega) (by omega) (by omega)
      have s5 : szR (k + j * (l + 1) + l) (prai (ld R / ld D) (R.length - D.length) D) := by
        have := sD.prai hlc (R.length - D.length)
        rwa [Nat.add_comm] at this
      have c6 := fun u' u'' => pSubT u' u'' R (prai (ld R / ld D) (R.length - D.length) D) _ (g3.mono (Nat.le_add_right _ l)) s5 (by omega) (by omega) (by have := prai_len (ld R / ld D) (R.length - D.length) D; omega)
      have z6 : szR (k + (j + 1) * (l + 1)) (psub R (prai (ld R / ld D) (R.length - D.length) D)) := ((g3.mono (Nat.le_add_right _ l)).psub s5).mono (by omega)
      have hnd : ld R % ld D ≠ 0 → ¬ Dv D A := fun h hd => h (Int.emod_eq_zero_of_dvd (ld_dvd (div_no g6 hd) (by omega)))
      have hdg : ld R % ld D = 0 → (psub R (prai (ld R / ld D) (R.length - D.length) D)).length < R.length := fun h => by
        have := div_dg (R := R) (D := D) (c := ld R / ld D) (by omega) (by omega) (Int.ediv_mul_cancel (Int.dvd_of_emod_eq_zero h))
        rw [dR, dD, dg_nm (psub_nm _ _)] at this
        exact this
      have hrn : Nm (psub R (prai (ld R / ld D) (R.length - D.length) D)) := psub_nm _ _
      have hpf : ∀ y, sz (put f (R.length - D.length) (ld R / ld D) y) E := fun y => by
        unfold put; split
        · exact hlc.mono (by omega)
        · exact g4 y
      have hup : ∀ y, upd (fun y => zd (f y)) (R.length - D.length) (zd (ld R / ld D)) y = zd (put f (R.length - D.length) (ld R / ld D) y) := fun y =>
        upd_zd (G := f) (H := put f (R.length - D.length) (ld R / ld D)) (by unfold put; rw [if_pos rfl]) (fun y hy => by unfold put; rw [if_neg hy]) y
      have hcast : ((R.length - D.length : Nat) : Int) = (R.length : Int) - (D.length : Int) := by omega
      have hput : ∀ y, y < R.length - D.length → put f (R.length - D.length) (ld R / ld D) y = f y := fun y hy => by unfold put; rw [if_neg (by omega)]
      generalize hR' : psub R (prai (ld R / ld D) (R.length - D.length) D) = R' at *
      generalize hf' : put f (R.length - D.length) (ld R / ld D) = f' at *
      refine len_vd qM ?_
      refine len_vd qM ?_
      refine ar rfl qI ?_
      refine call_fn (pLeadN vr R g1 (by omega)) (Seals.refl _ _) qS ?_
      rintro y1 _ _ ⟨rfl, rfl⟩
      refine call_fn (pLeadN x2 D hDn hD0) (Seals.refl _ _) qS ?_
      rintro y2 _ _ ⟨rfl, rfl⟩
      refine call_fn (zDivModZ y1 y2 _ _ _ _ hlR hlD (by omega) (by omega) hldD) (Seals.refl _ _) qS ?_
      rintro _ _ _ ⟨rfl, y3, y4, rfl, rfl⟩
      refine alloc_rule (d := I false []) fun c hc => ?_
      refine alloc_rule (d := I false []) fun m hm => ?_
      refine store_box (d := zd (ld R / ld D)) 1 rfl hc rfl (by kernel_rfl) ?_ ?_; exact Reads.fact qM
      refine store_box (d := zd (ld R % ld D)) 0 rfl hm rfl (by kernel_rfl) ?_ ?_; exact Reads.fact qM
      refine load_box (d := zd (ld R % ld D)) 0 rfl hm rfl (load_I _ _) fun y5 => ?_
      refine call_fn (zSignZ y5 _ _ hlm (by omega)) (Seals.refl _ _) qS ?_
      rintro _ _ _ ⟨rfl, rfl, rfl⟩
      refine cmp_split _ rfl (fun hne => ?_) (fun hne => ?_)
      · have h11 := hbad hD0 (hnd fun h => hne (by rw [h]; rfl))
        exact fin ⟨_, [], 11, rfl, h11, ⟨_, _, _, rfl⟩, fun x hx => by simp at hx, rfl, rfl⟩ (Seals.trans (Seals.drop 0 _ _) (Seals.trans (Seals.drop 0 _ _) (Seals.trans (Seals.drop 0 _ _) (Seals.trans (Seals.nil _ _) (Seals.own_nil _ _ 2 _)))))
      · have h0 : ld R % ld D = 0 := Int.sign_eq_zero_iff_zero.1 (by omega)
        have hlen := hdg h0
        refine load_box (d := zd (ld R / ld D)) 1 rfl hc rfl (load_I _ _) fun y6 => ?_
        refine index_elem 2 rfl hu (R.length - D.length) (by omega) hsN ?_
        refine StoreK.post (store_elem (d := zd (ld R / ld D)) 2 rfl (R.length - D.length) hsN rfl (by kernel_rfl) (Reads.fact qM) ⟨_, _, Seals.own_cong (os := [_, _, _]) 2 (fun y => zd (f' y)) rfl rfl (fun y _ => hup y), ?_⟩)
        refine load_box (d := zd (ld R / ld D)) 1 rfl hc rfl (load_I _ _) fun y7 => ?_
        have c5' := c5 x2 y7
        rw [hcast] at c5'
        refine call_fn c5' (Seals.refl _ _) qS ?_
        rintro y8 _ _ ⟨rfl, rfl⟩
        refine call_fn (c6 vr y8) (Seals.refl _ _) qS ?_
        rintro y9 _ _ ⟨rfl, rfl⟩
        refine again (y9, R', f', j + 1) ⟨hrn, by simp only; omega, z6, hpf, fun y hy => ?_, hst⟩ (by simp only; omega) qF (Seals.trans (Seals.drop 0 _ _) (Seals.trans (Seals.drop 0 _ _) (Seals.sub qS)))
        simp only at hy ⊢
        rw [hput y (by omega)]
        exact g5 y (by omega)
    · refine len_vd qM ?_
      refine cmp_split _ rfl (fun hp0 => ?_) (fun hp0 => ?_)
      · have h11 := hbad hD0 fun hd => by
          have := (div_no g6 hd).deg (by omega)
          omega
        exact fin ⟨_, [], 11, rfl, h11, ⟨_, _, _, rfl⟩, fun x hx => by simp at hx, rfl, rfl⟩ (Seals.trans (Seals.drop 0 _ _) (Seals.trans (Seals.nil _ _) (Seals.own_nil _ _ 2 _)))
      · have hR0 : R = [] := List.length_eq_zero_iff.1 (by omega)
        have hok := hgood (lst N f) hD0 fun x => by
          have := g6 x
          rw [hR0] at this
          simp only [pev] at this; omega
        have hsl : szR E (lst N f) := szR.lst fun y _ => g4 y
        have hn := pNormO_meets u ((lst N f).map cn) (hsl.mono hk).fit (by rw [List.length_map, lst_len]; omega)
        rw [vv_cn] at hn
        refine call_fn hn (Seals.told (g := f) hu fun y _ => rfl) qS ?_
        rintro r _ _ ⟨hr, rfl, rfl⟩
        exact fin ⟨r, _, 0, rfl, hok, hr, hsl.nrm, rfl, rfl⟩ (Seals.sub qS)
open Go.RowKit
theorem pDivide_meets (v w : Value) (p q : Row) (k l : Nat) (hp : Fit k p) (hq : Fit l q) (hk : k + (p.length + 1) * (l + 1) ≤ 137438953472) (lp : p.length ≤ 536870912) (lq : q.length ≤ 536870912) :
    Meets Tryz.prog 80 [v, w] [(v, V p), (w, V q)] (fun r os fs => os = [] ∧ ∃ a t e, r = .tuple #[a, .int .i64 e] ∧ DivSpec (vv p) (vv q) t e ∧ szR (k + (p.length + 1) * (l + 1)) t ∧ fs = [(a, vd t)]) :=
  (pDivideO_meets v w p q k l hp hq hk lp lq).closed fun r os fs ⟨a, t, e, h1, h2, h3, h4, h5, h6⟩ => by
    subst h5 h6
    exact ⟨[], [(a, vd t)], ⟨rfl, a, t, e, h1, h2, h4, rfl⟩, Seals.toldL h3⟩
theorem pDivideT (v w : Value) (p q : List Int) (k l : Nat) (hp : szR k p) (hq : szR l q) (hk : k + (p.length + 1) * (l + 1) ≤ 137438953472) (lp : p.length ≤ 536870912) (lq : q.length ≤ 536870912) :
    Meets Tryz.prog 80 [v, w] [(v, vd p), (w, vd q)] (fun r os fs => os = [] ∧ ∃ a t e, r = .tuple #[a, .int .i64 e] ∧ DivSpec p q t e ∧ szR (k + (p.length + 1) * (l + 1)) t ∧ fs = [(a, vd t)]) := by
  have h := pDivide_meets v w (p.map cn) (q.map cn) k l hp.fit hq.fit (by rw [List.length_map]; exact hk) (by rw [List.length_map]; exact lp) (by rw [List.length_map]; exact lq)
  rw [vv_cn, vv_cn, List.length_map] at h
  exact h
theorem lst_snoc (n : Nat) (f : Nat → Int) : lst (n + 1) f = lst n f ++ [f n] := by
  simp [lst, List.range_succ]
theorem sz_nat {i : Nat} (h : i < 18446744073709551616) : sz (i : Int) 1 := by
  unfold sz; rw [Int.natAbs_natCast]; omega
theorem pDerive_meets (v : Value) (p : Row) (k : Nat) (hp : Fit k p) (hk : k + 1 ≤ 137438953472) (lp : p.length ≤ 536870912) :
    Meets Tryz.prog 164 [v] [(v, V p)] (fun r os fs => os = [] ∧ fs = [(r, vd (pder (vv p)))]) := by
  have n1 := pNorm_meets v p (hp.mono (by omega)) (by omega)
  have sP := hp.szR.nrm
  have la : (nrm (vv p)).length ≤ p.length := Nat.le_trans (nrm_length_le _) (by rw [vv_len]; exact Nat.le_refl _)
  have hpd : pder (vv p) = pder (nrm (vv p)) := (pder_nm _).ext (pder_nm _) (pder_ext fun x => (ev_nrm _ x).symm)
  rw [hpd]
  generalize hA : nrm (vv p) = A at *
  have hg : ∀ i, sz (((i + 1 : Nat) : Int) * A.getD (i + 1) 0) (1 + k) ∨ 18446744073709551615 ≤ i := fun i => by
    by_cases h : i + 1 < 18446744073709551616
    · exact .inl ((sz_nat h).mul (sP.get _))
    · exact .inr (by omega)
  have hszL : szR (k + 1) (lst (A.length - 1) fun i => ((i + 1 : Nat) : Int) * A.getD (i + 1) 0) := szR.lst fun i hi => by
    rcases hg i with h | h
    · rw [Nat.add_comm 1 k] at h; exact h
    · omega
  have hdef : pder A = nrm (lst (A.length - 1) fun i => ((i + 1 : Nat) : Int) * A.getD (i + 1) 0) := rfl
  rw [hdef]
  generalize hG : (fun i => ((i + 1 : Nat) : Int) * A.getD (i + 1) 0) = g at *
  have hgi : ∀ i : Nat, 1 ≤ i → (i : Int) * A.getD i 0 = g (i - 1) := fun i hi => by
    rw [← hG]
    show _ = ((i - 1 + 1 : Nat) : Int) * A.getD (i - 1 + 1) 0
    rw [Nat.sub_add_cancel hi]
  refine meets_of_vc Tryz.func164 (by kernel_rfl) rfl (by kernel_rfl) (Nat.le_of_ble_eq_true rfl) ?_
  refine call_fn n1 (Seals.refl _ _) qS ?_
  rintro x1 _ _ ⟨rfl, rfl⟩
  refine loop_rule (X := Value × Nat) (fun x => ([(3, x1), (4, x.1), (5, .int .i64 (x.2 : Nat))], [ownL 2 J z0 x.1 ((lst (x.2 - 1) g).map cn)], [(x1, vd A)])) (fun x => isSl x.1 ∧ 1 ≤ x.2 ∧ (x.2 ≤ A.length ∨ x.2 = 1)) (fun x => A.length - x.2) rfl ?_ ?_
  · exact again (.slice none 0 0, 1) ⟨⟨_, _, _, rfl⟩, Nat.le_refl _, .inr rfl⟩ trivial qF (Seals.trans (Seals.own_nil _ _ 2 _) (Seals.sub qS))
  · rintro ⟨vo, i⟩ ⟨hvo, h1, h2⟩
    simp only at hvo h1 h2 ⊢
    refine len_vd qM ?_
    refine cmp_split _ rfl (fun hlt => ?_) (fun hlt => ?_)
    · have hin : i < A.length := by omega
      have hai := sP.get i
      have hsi := sz_nat (i := i) (by omega)
      have hgi' := hgi i h1
      have hmul := fun u u' => zMulZ u u' (i : Int) (A.getD i 0) _ _ hsi hai (by omega) (by omega)
      rw [hgi'] at hmul
      have hl : lst (i - 1) g ++ [g (i - 1)] = lst (i + 1 - 1) g := by
        rw [← lst_snoc]; congr 1; omega
      have hll : (lst (i - 1) g).length = i - 1 := lst_len _ _
      refine draw_rule [0, 1, 3, 4, 5, 6, 2, 7, 8, 9, 10] [0, 1, 2, 3, 4, 5, 6, 7, 8, 9, 10] (by kernel_rfl) (by kernel_rfl) ?_
      refine index_vd qM i rfl hin fun b1 => ?_
      refine load_fact (d := zd (A.getD i 0)) qM (load_I _ _) fun y1 => ?_
      refine call_fn (zof_meets (i : Int) (by omega) (by omega)) (Seals.refl _ _) qS ?_
      rintro y2 _ _ ⟨rfl, rfl⟩
      refine call_fn (hmul y2 y1) (Seals.refl _ _) qS ?_
      rintro y3 _ _ ⟨rfl, rfl⟩
      refine lit_L (size := 2) (f := J) (z := z0) (e := 26) (cn (g (i - 1))) (by decide) (Reads.fact qM) rfl fun y4 => ?_
      refine append_L (size := 2) (e := 26) (f := J) (z := z0) (l := (lst (i - 1) g).map cn) (m := [cn (g (i - 1))]) 0 rfl hvo (Knw.fact qM) (by simp only [List.length_map, hll, List.length_cons, List.length_nil]; omega) (by simp only [List.length_map, hll, List.length_cons, List.length_nil]; omega) fun vn hvn => ?_
      refine ar rfl qI ?_
      refine again (vn, i + 1) ⟨hvn, by simp only; omega, .inl (by simp only; omega)⟩ (by simp only; omega) qF ?_
      rw [show (lst (i - 1) g).map cn ++ [cn (g (i - 1))] = (lst (i + 1 - 1) g).map cn by rw [← hl, List.map_append]; rfl]
      exact Seals.sub qS
    · have hii : lst (i - 1) g = lst (A.length - 1) g := by congr 1; omega
      rw [hii]
      refine call_fn (pNormT vo (lst (A.length - 1) g) (hszL.mono (by omega)) (by rw [lst_len]; omega)) (Seals.toldL hvo) qS ?_
      rintro r _ _ ⟨rfl, rfl⟩
      exact fin ⟨rfl, rfl⟩ (Seals.sub qS)
theorem pDeriveT (v : Value) (p : List Int) (k : Nat) (hp : szR k p) (hk : k + 1 ≤ 137438953472) (lp : p.length ≤ 536870912) :
    Meets Tryz.prog 164 [v] [(v, vd p)] (fun r os fs => os = [] ∧ fs = [(r, vd (pder p))]) := by
  have h := pDerive_meets v (p.map cn) k hp.fit hk (by rw [List.length_map]; exact lp)
  rw [vv_cn] at h
  exact h
open Go.RowKit
theorem sz_pow {c : Int} {a : Nat} (h : sz c a) : ∀ n : Nat, sz (c ^ n) (n * a + 1)
  | 0 => by rw [Int.pow_zero, Nat.zero_mul]; exact sz_one 1 (by decide)
  | n + 1 => by
    rw [Int.pow_succ]
    have := (sz_pow h n).mul h
    refine this.mono ?_
    rw [Nat.succ_mul]; omega
open Go.RowKit
theorem pGcdNT (v w : Value) (p q : List Int) (k n : Nat) (hp : szR k p) (hq : szR k q) (h1k : 1 ≤ k) (lp : p.length ≤ n) (lq : q.length ≤ n) (hn : n ≤ 536870912) (hk : ge k (n - 1) n + k ≤ 137438953472) :
    Meets Tryz.prog 181 [v, w] [(v, vd p), (w, vd q)] (fun r os fs => os = [] ∧ ∃ G, Nm G ∧ Gc G p q ∧ fs = [(r, vd G)]) := by
  have h := pGcdN_meets v w (p.map cn) (q.map cn) k n hp.fit hq.fit h1k (by rw [List.length_map]; exact lp) (by rw [List.length_map]; exact lq) hn hk
  rw [vv_cn, vv_cn] at h
  exact h
structure SimSpec (p s : List Int) : Prop where
  sn : Nm s
  zero : dg p = 0 → s = []
  ok : 0 < dg p → ∃ g, Gc g (pprim p) (pder (pprim p)) ∧ ∀ x, pev (pprim p) x = pev g x * pev s x
theorem szR.pder {k : Nat} {l : List Int} (h : szR k l) (hl : l.length ≤ 4294967296) : szR (k + 1) (pder l) := szR.nrm (szR.lst fun i hi => by
  have := (sz_nat (i := i + 1) (by omega)).mul (h.get (i + 1))
  rw [Nat.add_comm 1 k] at this; exact this)
theorem pder_len (l : List Int) : (pder l).length ≤ l.length := Nat.le_trans (nrm_length_le _) (by rw [lst_len]; omega)
theorem pSimpleN_meets (v : Value) (p : Row) (k n : Nat) (hp : Fit k p) (lp : p.length ≤ n) (hn : n ≤ 268435456) (hk : ge (k + 1) (n - 1) n + (k + 1) ≤ 137438953472) (hd : k + (n + 1) * (dvk (k + 1) n + 1) ≤ 137438953472) :
    Meets Tryz.prog 163 [v] [(v, V p)] (fun r os fs => os = [] ∧ ∃ s, SimSpec (vv p) s ∧ szR (dvk k n) s ∧ fs = [(r, vd s)]) := by
  have hge : k + 2 ≤ ge (k + 1) (n - 1) n := by
    unfold ge
    exact Nat.le_mul_of_pos_right _ (Nat.mul_pos (Nat.pow_pos (by decide)) (Nat.pow_pos (by decide)))
  have h1 := pPrimitive_meets v p k hp (by omega) (by omega)
  have sU := hp.szR.pprim
  have lU : (pprim (vv p)).length ≤ n := Nat.le_trans (pprim_len _) (Nat.le_trans (dg_le_len _) (by rw [vv_len]; exact lp))
  have nU := pprim_nm (vv p)
  have dU := pprim_dg (vv p)
  have hspec : ∀ s g, Nm s → 0 < dg (vv p) → Gc g (pprim (vv p)) (pder (pprim (vv p))) → (∀ x, pev (pprim (vv p)) x = pev g x * pev s x) → SimSpec (vv p) s := fun s g a1 a2 a3 a4 => ⟨a1, fun h => by omega, fun _ => ⟨g, a3, a4⟩⟩
  have hzero : dg (vv p) = 0 → SimSpec (vv p) [] := fun h => ⟨rfl, fun _ => rfl, fun h' => by omega⟩
  rw [dg_nm nU] at dU
  generalize hU : pprim (vv p) = u at *
  have sD := sU.pder (by omega)
  have lD := pder_len u
  refine meets_of_vc Tryz.func163 (by kernel_rfl) rfl (by kernel_rfl) (Nat.le_of_ble_eq_true rfl) ?_
  refine call_fn h1 (Seals.refl _ _) qS ?_
  rintro x1 _ _ ⟨rfl, rfl⟩
  refine len_vd qM ?_
  refine cmp_split _ rfl (fun hz => ?_) (fun hz => ?_)
  · exact fin ⟨rfl, [], hzero (by omega), fun x hx => by simp at hx, rfl⟩ (Seals.cons (Knw.nil 2 _) (Seals.nil _ _))
  · have hu0 : 0 < dg u := by rw [dg_nm nU]; omega
    refine call_fn (pDeriveT x1 u k sU (by omega) (by omega)) (Seals.refl _ _) qS ?_
    rintro x2 _ _ ⟨rfl, rfl⟩
    refine call_fn (pGcdNT x1 x2 u (pder u) (k + 1) n (sU.mono (by omega)) sD (by omega) lU (by omega) (by omega) hk) (Seals.refl _ _) qS ?_
    rintro x3 _ _ ⟨rfl, G, nG, gG, rfl⟩
    have hGd := gG.1.deg hu0
    have sG : szR (dvk (k + 1) n) G := dv_szR gG.1 hu0 (sU.mono (by omega)) nG (by rw [dg_nm nU]; exact lU) (by omega)
    have lG : G.length ≤ n := by rw [← dg_nm nG]; rw [dg_nm nU] at hGd; omega
    have hdd : k + (u.length + 1) * (dvk (k + 1) n + 1) ≤ 137438953472 := by
      have : (u.length + 1) * (dvk (k + 1) n + 1) ≤ (n + 1) * (dvk (k + 1) n + 1) := Nat.mul_le_mul_right _ (by omega)
      omega
    refine call_fn (pDivideT x1 x3 u G k _ sU sG hdd (by omega) (by omega)) (Seals.refl _ _) qS ?_
    rintro _ _ _ ⟨rfl, a, t, e, rfl, hsp, _, rfl⟩
    obtain ⟨_, ht⟩ := hsp.ok hGd.1 gG.1
    have hs := hspec t G hsp.tn (by omega) gG ht
    have st : szR (dvk k n) t := dv_szR ⟨G, fun x => by rw [ht, Int.mul_comm]⟩ hu0 sU hsp.tn (by rw [dg_nm nU]; exact lU) (by omega)
    exact fin ⟨rfl, t, hs, st, rfl⟩ (Seals.sub qS)
end Go.Proofs.YtjebljkoiaojaaaGreat
namespace Go.Proofs.YtjebljkoiaojaaaGreat
def chF (ls : List (List Int)) (nx : List Int) (i : Nat) : List Int := (ls ++ [nx]).getD i []
structure CH (s : List Int) (ls : List (List Int)) (nx : List Int) : Prop where
  len : 1 ≤ ls.length
  hd : chF ls nx 0 = s
  nm : ∀ i, i ≤ ls.length → Nm (chF ls nx i)
  one : chF ls nx 1 = pder s
  pos : ∀ i, i < ls.length → chF ls nx i ≠ []
  low : ∀ i, i < ls.length → (chF ls nx (i + 1)).length < (chF ls nx i).length
  rel : ∀ i, i + 1 < ls.length → ∃ α β q, 0 < α ∧ 0 < β ∧ ∀ x, α * pev (chF ls nx i) x = pev q x * pev (chF ls nx (i + 1)) x - β * pev (chF ls nx (i + 2)) x
theorem chF_lt {ls : List (List Int)} {nx : List Int} {i : Nat} (h : i < ls.length) : chF ls nx i = ls.getD i [] := by
  unfold chF
  rw [List.getD_eq_getElem?_getD, List.getElem?_append_left h, ← List.getD_eq_getElem?_getD]
theorem chF_last (ls : List (List Int)) (nx : List Int) : chF ls nx ls.length = nx := by
  unfold chF
  rw [List.getD_eq_getElem?_getD, List.getElem?_append_right (Nat.le_refl _), Nat.sub_self]; rfl
theorem chF_snoc {ls : List (List Int)} {nx ny : List Int} {i : Nat} (h : i ≤ ls.length) : chF (ls ++ [nx]) ny i = chF ls nx i := by
  rw [chF_lt (by simp; omega)]; rfl
def nxt (a b R : List Int) : List Int := if (dg a + 1 - dg b) % 2 = 0 ∨ 0 < ld b then ptim (-1) R else R
def redc (l : List Int) : List Int := l.map fun y => y / (cont l : Int)
theorem redc_ev (l : List Int) (x : Int) : pev l x = (cont l : Int) * pev (redc l) x := by
  have h : ∀ i, l.getD i 0 = ((redc l).map fun y => (cont l : Int) * y).getD i 0 := fun i => by
    rw [co_map]
    unfold redc
    have hd := dvd_cont.1 (Nat.dvd_refl (cont l)) i
    by_cases hi : i < l.length
    · have e : (l.map fun y => y / (cont l : Int)).getD i 0 = l.getD i 0 / (cont l : Int) := by simp [List.getD_eq_getElem?_getD, hi]
      rw [e, Int.mul_ediv_cancel' hd]
    · have e1 : l.getD i 0 = 0 := by rw [List.getD_eq_getElem?_getD, List.getElem?_eq_none (by omega)]; rfl
      have e2 : (l.map fun y => y / (cont l : Int)).getD i 0 = 0 := by rw [List.getD_eq_getElem?_getD, List.getElem?_eq_none (by rw [List.length_map]; omega)]; rfl
      rw [e1, e2, Int.mul_zero]
  rw [ev_co h, ev_map_mul]
theorem redc_len (l : List Int) : (redc l).length = l.length := by unfold redc; simp
theorem nm_last {l : List Int} : Nm l ↔ (l ≠ [] → l.getD (l.length - 1) 0 ≠ 0) := by
  constructor
  · intro h h0 e
    have h1 : 0 < dg l := by rw [dg_nm h]; exact List.length_pos_iff.2 h0
    have h2 := ld_ne h1
    unfold ld at h2
    rw [dg_nm h] at h2
    exact h2 e
  · intro h
    by_cases h0 : l = []
    · rw [h0]; rfl
    · have h1 : l.length ≤ dg l := Nat.le_of_not_lt fun hlt => by
        have hpos := List.length_pos_iff.2 h0
        exact h h0 (dg_le.1 (show dg l ≤ l.length - 1 by omega) _ (Nat.le_refl _))
      have h2 := dg_le_len l
      show nrm l = l
      refine List.ext_getElem? fun i => ?_
      have hl : (nrm l).length = l.length := by have : dg l = (nrm l).length := rfl; omega
      by_cases hi : i < l.length
      · have := co_nrm l i
        rw [List.getD_eq_getElem?_getD, List.getD_eq_getElem?_getD, List.getElem?_eq_getElem hi, List.getElem?_eq_getElem (by omega)] at this
        rw [List.getElem?_eq_getElem hi, List.getElem?_eq_getElem (by omega)]
        simpa using this
      · rw [List.getElem?_eq_none (by omega), List.getElem?_eq_none (by omega)]
theorem redc_nm {l : List Int} (h : Nm l) : Nm (redc l) := by
  refine nm_last.2 fun h0 e => ?_
  have h1 : l ≠ [] := fun e => h0 (by rw [e]; rfl)
  have h2 := nm_last.1 h h1
  have hpos := List.length_pos_iff.2 h1
  have e1 : (redc l).getD ((redc l).length - 1) 0 = l.getD (l.length - 1) 0 / (cont l : Int) := by
    rw [redc_len]
    unfold redc
    simp [List.getD_eq_getElem?_getD, show l.length - 1 < l.length by omega]
  rw [e1] at e
  have hd := dvd_cont.1 (Nat.dvd_refl (cont l)) (l.length - 1)
  have := Int.mul_ediv_cancel' hd
  rw [e, Int.mul_zero] at this
  exact h2 this.symm
theorem nxt_rel {a b T R : List Int} (hb : 0 < dg b) (h : RestSpec a b T R) :
    ∃ α β q, 0 < α ∧ 0 < β ∧ ∀ x, α * pev a x = pev q x * pev b x - β * pev (redc (nxt a b R)) x := by
  have hl := ld_ne hb
  have e1 : ∀ y : List Int, (R = [] → y = []) → ∀ x, pev y x = (if R = [] then 1 else (cont y : Int)) * pev (redc y) x := fun y hy x => by
    by_cases h0 : R = []
    · rw [if_pos h0, hy h0]; simp [redc, pev]
    · rw [if_neg h0, redc_ev]
  have hn0 : R = [] → nxt a b R = [] := fun e => by
    unfold nxt; rw [e]; split <;> rfl
  have hcp : R ≠ [] → 0 < (cont (nxt a b R) : Int) := fun h0 => by
    have h1 : 0 < dg R := by rw [dg_nm h.rn]; exact List.length_pos_iff.2 h0
    have h2 : cont (nxt a b R) = cont R := by
      unfold nxt; split
      · rw [cont_mul (c := -1) (l := R) fun x => by rw [ev_ptim]]; simp
      · rfl
    have h3 : cont R ≠ 0 := fun e => by have := cont_zero.1 e; omega
    rw [h2]; omega
  have hβ : 0 < (if R = [] then 1 else (cont (nxt a b R) : Int)) := by
    split
    · decide
    · rename_i h0; exact hcp h0
  generalize hd : dg a + 1 - dg b = d at *
  have hpow : ((d % 2 = 0 ∨ 0 < ld b) → 0 < ld b ^ d) ∧ (¬ (d % 2 = 0 ∨ 0 < ld b) → 0 < -(ld b ^ d)) := by
    constructor
    · rintro (h1 | h1)
      · obtain ⟨e, he⟩ : ∃ e, d = 2 * e := ⟨d / 2, by omega⟩
        rw [he, Int.pow_mul]
        refine Int.pow_pos ?_
        rw [show (2 : Nat) = 1 + 1 from rfl, Int.pow_succ, Int.pow_succ, Int.pow_zero, Int.one_mul]
        rcases Int.lt_trichotomy (ld b) 0 with k | k | k
        · exact Int.mul_pos_of_neg_of_neg k k
        · exact absurd k hl
        · exact Int.mul_pos k k
      · exact Int.pow_pos h1
    · intro h1
      obtain ⟨e, he⟩ : ∃ e, d = 2 * e + 1 := ⟨d / 2, by omega⟩
      have h2 : ld b < 0 := by omega
      have h3 : 0 < ld b ^ (2 * e) := by
        rw [Int.pow_mul]
        refine Int.pow_pos ?_
        rw [show (2 : Nat) = 1 + 1 from rfl, Int.pow_succ, Int.pow_succ, Int.pow_zero, Int.one_mul]
        exact Int.mul_pos_of_neg_of_neg h2 h2
      rw [he, Int.pow_succ]
      have := Int.mul_neg_of_pos_of_neg h3 h2
      omega
  have heq := h.eq
  rw [hd] at heq
  by_cases hc : d % 2 = 0 ∨ 0 < ld b
  · have en : nxt a b R = ptim (-1) R := by unfold nxt; rw [hd, if_pos hc]
    refine ⟨ld b ^ d, _, T, hpow.1 hc, hβ, fun x => ?_⟩
    rw [← e1 _ hn0 x, en, ev_ptim, heq]
    grind
  · have en : nxt a b R = R := by unfold nxt; rw [hd, if_neg hc]
    refine ⟨-(ld b ^ d), _, ptim (-1) T, hpow.2 hc, hβ, fun x => ?_⟩
    rw [← e1 _ hn0 x, en, ev_ptim]
    have := heq x
    grind
theorem nxt_nm {a b R : List Int} (h : Nm R) : Nm (nxt a b R) := by
  unfold nxt; split
  · exact nrm_nrm _
  · exact h
theorem nxt_dg (a b R : List Int) : dg (nxt a b R) = dg R := by
  unfold nxt; split
  · by_cases h0 : dg R = 0
    · rw [h0]; exact dg_zero.2 fun x => by rw [ev_ptim, dg_zero.1 h0]; rfl
    · have e : ∀ x, pev (ptim (-1) R) x = pev R x * pev [-1] x := fun x => by rw [ev_ptim]; simp [pev]
      have := (mul_dg e (by omega) (by decide)).1
      rw [show dg [-1] = 1 from rfl] at this; omega
  · rfl
theorem CH.start {s : List Int} (hs : Nm s) (h0 : s ≠ []) : CH s [s] (pder s) := by
  have e0 : chF [s] (pder s) 0 = s := rfl
  have e1 : chF [s] (pder s) 1 = pder s := rfl
  refine ⟨Nat.le_refl _, rfl, fun i hi => ?_, rfl, fun i hi => ?_, fun i hi => ?_, fun i hi => absurd hi (by simp)⟩
  · have hi' : i ≤ 1 := hi
    have : i = 0 ∨ i = 1 := by omega
    rcases this with rfl | rfl
    · exact hs
    · exact pder_nm s
  · have hi' : i < 1 := hi
    obtain rfl : i = 0 := by omega
    exact h0
  · have hi' : i < 1 := hi
    obtain rfl : i = 0 := by omega
    rw [e0, e1]
    have hp := List.length_pos_iff.2 h0
    have h1 := dg_nm hs
    have h2 : dg (pder s) = (pder s).length := dg_nm (pder_nm s)
    by_cases h : 2 ≤ dg s
    · have := pder_dg h; omega
    · have := dg_zero.2 (pder_low (l := s) (by omega)); omega
theorem CH.step {s : List Int} {ls : List (List Int)} {nx T R : List Int} (h : CH s ls nx) (h0 : nx ≠ []) (hR : RestSpec (chF ls nx (ls.length - 1)) nx T R) :
    CH s (ls ++ [nx]) (redc (nxt (chF ls nx (ls.length - 1)) nx R)) := by
  have hl := h.len
  have hnx := h.nm ls.length (Nat.le_refl _)
  rw [chF_last] at hnx
  have hlen : (ls ++ [nx]).length = ls.length + 1 := by simp
  have el : ∀ y, chF (ls ++ [nx]) y (ls.length + 1) = y := fun y => by have := chF_last (ls ++ [nx]) y; rw [hlen] at this; exact this
  have es : ∀ y i, i ≤ ls.length → chF (ls ++ [nx]) y i = chF ls nx i := fun y i hi => chF_snoc hi
  have hdn : 0 < dg nx := by rw [dg_nm hnx]; exact List.length_pos_iff.2 h0
  refine ⟨by omega, by rw [es _ _ (Nat.zero_le _)]; exact h.hd, fun i hi => ?_, by rw [es _ _ hl]; exact h.one, fun i hi => ?_, fun i hi => ?_, fun i hi => ?_⟩
  · by_cases e : i = ls.length + 1
    · rw [e, el]; exact redc_nm (nxt_nm hR.rn)
    · rw [es _ _ (by omega)]; exact h.nm i (by omega)
  · by_cases e : i = ls.length
    · rw [e, es _ _ (Nat.le_refl _), chF_last]; exact h0
    · rw [es _ _ (by omega)]; exact h.pos i (by omega)
  · by_cases e : i = ls.length
    · rw [e, el, es _ _ (Nat.le_refl _), chF_last, redc_len, ← dg_nm (nxt_nm hR.rn), nxt_dg, ← dg_nm hnx]
      exact hR.low
    · rw [es _ _ (by omega), es _ _ (by omega)]; exact h.low i (by omega)
  · by_cases e : i + 1 = ls.length
    · have e2 : i = ls.length - 1 := by omega
      rw [show i + 2 = ls.length + 1 by omega, el, es _ (i + 1) (by omega), e, chF_last, es _ i (by omega), e2]
      exact nxt_rel hdn hR
    · rw [es _ _ (by omega), es _ _ (by omega), es _ _ (by omega)]
      exact h.rel i (by omega)
theorem CH.short {s : List Int} {ls : List (List Int)} {nx : List Int} (h : CH s ls nx) : ∀ i, i ≤ ls.length → (chF ls nx i).length + i ≤ s.length
  | 0, _ => by rw [h.hd]; omega
  | i + 1, hi => by
    have := CH.short h i (by omega)
    have := h.low i (by omega)
    omega
theorem CH.chain {p s : List Int} {ls : List (List Int)} (hp : 0 < dg p) (hs : SimSpec p s) (h : CH s ls []) : Chain (fun i => ls.getD i []) (ls.length - 1) ∧ ls.length ≤ dg s ∧ ls.getD 0 [] = s := by
  have hl := h.len
  have hF : ∀ i, i < ls.length → ls.getD i [] = chF ls [] i := fun i hi => (chF_lt hi).symm
  have hlast := chF_last ls []
  have hr := h.pos (ls.length - 1) (by omega)
  have hrn := h.nm (ls.length - 1) (by omega)
  have hdl : 0 < dg (chF ls [] (ls.length - 1)) := by rw [dg_nm hrn]; exact List.length_pos_iff.2 hr
  have hz : ∀ e, e ≤ ls.length - 1 → Dv (pprim (chF ls [] (ls.length - 1))) (chF ls [] (ls.length - 1 - e)) ∧ Dv (pprim (chF ls [] (ls.length - 1))) (chF ls [] (ls.length - 1 - e + 1)) := fun e => by
    induction e with
    | zero =>
      intro _
      refine ⟨⟨[scont (chF ls [] (ls.length - 1))], fun x => ?_⟩, ?_⟩
      · rw [Nat.sub_zero, pprim_ev]; simp only [pev]; grind
      · rw [Nat.sub_zero, show ls.length - 1 + 1 = ls.length by omega, hlast]
        exact Dv.zero _ fun _ => rfl
    | succ e ih =>
      intro he
      obtain ⟨i1, i2⟩ := ih (by omega)
      obtain ⟨i, hi⟩ : ∃ i, ls.length - 1 - e = i + 1 := ⟨ls.length - 1 - e - 1, by omega⟩
      have e2 : ls.length - 1 - (e + 1) = i := by omega
      rw [hi] at i1 i2
      rw [e2]
      refine ⟨?_, i1⟩
      obtain ⟨α, β, q, hα, hβ, hr⟩ := h.rel i (by omega)
      refine Dv.prim (pprim_cont hdl) (show α ≠ 0 by omega) ?_
      obtain ⟨u, hu⟩ := i1
      obtain ⟨v, hv⟩ := i2
      refine ⟨psub (pmul q u) (ptim β v), fun x => ?_⟩
      rw [ev_map_mul, hr, hu, hv, ev_psub, ev_pmul, ev_ptim]
      grind
  have hz0 := hz (ls.length - 1) (Nat.le_refl _)
  rw [Nat.sub_self, h.hd, Nat.zero_add, h.one] at hz0
  obtain ⟨g, hg, hgs⟩ := hs.ok hp
  obtain ⟨d, hd⟩ := gc_exists s (pder s)
  have hd1 := simple_free (by rw [pprim_dg]; exact hp) (pprim_cont hp) hg hgs hd
  have hzd := hd.2.2.1 _ hz0.1 hz0.2
  have hz1 := hzd.deg (by omega)
  rw [pprim_dg] at hz1
  have hone : (chF ls [] (ls.length - 1)).length = 1 := by rw [← dg_nm hrn]; omega
  refine ⟨⟨fun h1 => ?_, fun i hi => ?_, ?_⟩, ?_, ?_⟩
  · show ls.getD 1 [] = pder (ls.getD 0 [])
    rw [hF 1 (by omega), hF 0 (by omega), h.hd]; exact h.one
  · show ∃ α β q, 0 < α ∧ 0 < β ∧ ∀ x, α * pev (ls.getD i []) x = pev q x * pev (ls.getD (i + 1) []) x - β * pev (ls.getD (i + 2) []) x
    rw [hF i (by omega), hF (i + 1) (by omega), hF (i + 2) (by omega)]
    exact h.rel i (by omega)
  · show ∃ k, k ≠ 0 ∧ ls.getD (ls.length - 1) [] = [k]
    rw [hF _ (by omega)]
    have hn := nm_last.1 hrn hr
    obtain ⟨k, hk⟩ := List.length_eq_one_iff.1 hone
    rw [hk] at hn ⊢
    exact ⟨k, hn, rfl⟩
  · have := h.short (ls.length - 1) (by omega)
    rw [dg_nm hs.sn]
    omega
  · rw [hF 0 (by omega)]; exact h.hd
theorem vs_len : ∀ (l : List Int) (t : Int), vs t l ≤ l.length
  | [], _ => Nat.le_refl _
  | x :: l, t => by
    have h1 := vs_len l t
    have h2 := vs_len l x
    simp only [vs, List.length_cons]
    split
    · omega
    · split <;> omega
theorem vs_len0 : ∀ (l : List Int), vs 0 l ≤ l.length - 1
  | [] => Nat.le_refl _
  | x :: l => by
    have h1 := vs_len0 l
    have h2 := vs_len l x
    simp only [vs, List.length_cons, Int.mul_zero, Int.lt_irrefl, if_false]
    split <;> omega
open Go.RowKit
open Go.RowKit
theorem cmpN_range (a b : Nat) : -1 ≤ cmpN a b ∧ cmpN a b ≤ 1 ∧ (cmpN a b = 0 ↔ a = b) := by
  unfold cmpN
  split
  · omega
  · split <;> omega
open Go.RowKit
open Go.RowKit
theorem rtimes_eq {Sl P s c Sa y a : Nat} (h : Sl + P * c = Sa * y) (hs : s = c + a * y) : Sl + P * (s % 4294967296) + P * 4294967296 * (s / 4294967296) = (Sa + P * a) * y := by
  have h1 : P * (s % 4294967296) + P * 4294967296 * (s / 4294967296) = P * c + P * (a * y) := by
    rw [Nat.mul_assoc, ← Nat.mul_add, Nat.mod_add_div, hs, Nat.mul_add]
  rw [Nat.add_mul, Nat.mul_assoc P a y]
  omega
theorem rtimes_meets (va : Value) (a : List Nat) (y : Nat) (ha : Dig a) (hy : y < 4294967296) (la : a.length ≤ 2199023255552) :
    Meets Tryz.prog 131 [va, .int .u64 (y : Nat)] [(va, U a)] (fun r os fs => os = [] ∧ fs = [(r, U (digs (dv a * y)))]) := by
  refine meets_of_vc Tryz.func131 (by kernel_rfl) rfl (by kernel_rfl) (Nat.le_of_ble_eq_true rfl) ?_
  refine loop_rule (X := Nat × List Nat × Nat × Value) (fun x => ([(0, va), (1, .int .u64 (y : Nat)), (5, x.2.2.2), (6, .int .u64 (x.2.2.1 : Nat)), (7, .int .i64 (x.1 : Nat))], [ownU x.2.2.2 x.2.1], [(va, U a)]))
    (fun x => x.1 ≤ a.length + 1 ∧ (a.length < x.1 → x.2.2.1 = 0) ∧ x.2.1.length = x.1 ∧ Dig x.2.1 ∧ x.2.2.1 < 4294967296 ∧ isSl x.2.2.2 ∧
      dv x.2.1 + 4294967296 ^ x.1 * x.2.2.1 = dv (a.take x.1) * y) (fun x => (a.length - x.1) * 4294967296 + x.2.2.1) rfl ?_ ?_
  · exact again (0, [], 0, .slice none 0 0) ⟨by simp, fun _ => rfl, rfl, Dig.nil, by simp, isSl_nil, by simp [dv]⟩ trivial qF ((Seals.nil_U _ _).trans (Seals.sub qS))
  · rintro ⟨i, l, c, vo⟩ ⟨h1, hz, h2, h3, h4, h0, h5⟩
    simp only at h0 h1 hz h2 h3 h4 h5 ⊢
    have hx := ha.get i
    by_cases hia : i < a.length
    · have hp : a.getD i 0 * y ≤ 4294967295 * 4294967295 := Nat.mul_le_mul (by omega) (by omega)
      have hm : (a.length - i) * 4294967296 = (a.length - (i + 1)) * 4294967296 + 4294967296 := by omega
      refine len_fact qM fun _ => ?_
      refine cmp_true rfl (by omega) ?_
      refine len_fact qM fun _ => ?_
      refine cmp_true rfl (by omega) ?_
      refine index_fact qM i rfl hia fun p => ?_
      refine load_one qM ?_
      refine ar_wrap rfl ((a.getD i 0 * y : Nat) : Int) (by rw [← Int.natCast_mul]; exact wrap_in ⟨Int.natCast_nonneg _, by omega⟩) ?_
      have hs : c + a.getD i 0 * y = c + a.getD i 0 * y := rfl
      generalize hq : a.getD i 0 * y = q at *
      refine ar_wrap rfl ((c + q : Nat) : Int) (by rw [← Int.natCast_add]; exact wrap_in ⟨Int.natCast_nonneg _, by omega⟩) ?_
      generalize hse : c + q = s at *
      refine rem_rule (by omega) (by omega) ?_
      refine lit_U ((s) % 4294967296) (by omega) fun w => ?_
      refine append_U 0 rfl h0 (Knw.fact qM) (by simp; omega) (by simp; omega) fun v2 hv2 => ?_
      refine quo_rule (by omega) (by omega) qI ?_
      refine ar rfl qI ?_
      refine again (i + 1, l ++ [(s) % 4294967296], (s) / 4294967296, v2) ⟨by simp only; omega, fun h => by simp only at h ⊢; omega, by simp [h2], h3.append (Dig.cons (by omega) Dig.nil), by simp only; omega, hv2, ?_⟩ (by simp only; omega) qF (Seals.sub qS)
      simp only
      rw [dv_append, h2, dv_take_succ, Nat.pow_succ]
      simp only [dv, Nat.mul_zero, Nat.add_zero]
      exact rtimes_eq h5 (by rw [hq, hse])
    · have ha0 := getD_of_le (l := a) (i := i) (by omega)
      by_cases hc : 0 < c
      · (repeat (first | (refine len_fact qM fun _ => ?_) | (refine cmp_true rfl (by omega) ?_) | (refine cmp_false rfl (by omega) ?_) | (refine index_fact qM _ rfl (by omega) fun _ => ?_) | (refine load_one qM ?_) | (refine ar rfl qI ?_)))
        refine rem_rule (by omega) (by omega) ?_
        refine lit_U ((c) % 4294967296) (by omega) fun w => ?_
        refine append_U 0 rfl h0 (Knw.fact qM) (by simp; omega) (by simp; omega) fun v2 hv2 => ?_
        refine quo_rule (by omega) (by omega) qI ?_
        refine ar rfl qI ?_
        refine again (i + 1, l ++ [(c) % 4294967296], (c) / 4294967296, v2) ⟨by simp only; omega, fun h => by simp only at h ⊢; omega, by simp [h2], h3.append (Dig.cons (by omega) Dig.nil), by simp only; omega, hv2, ?_⟩ (by simp only; omega) qF (Seals.sub qS)
        simp only
        rw [dv_append, h2, dv_take_succ, Nat.pow_succ]
        simp only [dv, Nat.mul_zero, Nat.add_zero]
        exact rtimes_eq h5 (by rw [ha0, Nat.zero_mul, Nat.add_zero])
      · (repeat (first | (refine len_fact qM fun _ => ?_) | (refine cmp_true rfl (by omega) ?_) | (refine cmp_false rfl (by omega) ?_) | (refine index_fact qM _ rfl (by omega) fun _ => ?_) | (refine load_one qM ?_) | (refine ar rfl qI ?_)))
        refine call_fn (rTrim_meets vo l) (Seals.U 0 rfl h0) qS ?_
        rintro r _ _ ⟨rfl, rfl⟩
        refine fin ⟨rfl, rfl⟩ (Seals.cons ((Knw.fact qM).cast ?_) (Seals.nil _ _))
        rw [List.take_of_length_le (by omega), show c = 0 by omega] at h5
        rw [trimD_eq h3]
        congr 2
theorem lit_Uo {P : Program} {t e : TypeId} {bytes : Nat} {y : Int} {os : List Own} {fs : List Fact} {K : Cont} [ht : TSl P t e 1] [he : TEl P e 1 bytes] (x : Nat) (hx : y = (x : Int)) (k : ∀ v, isSl v → K v (ownU v [x] :: os) fs) :
    BuildSliceK P t 1 [(0, .int .u64 y)] os fs K := by
  subst hx
  have h1 := buildSlice_own (P := P) (t := t) (os := os) (fs := fs) (K := fun u os' fs' => ∃ os'' fs'', Seals os' fs' os'' fs'' ∧ K u os'' fs'') (n := 1) [.int .u64 (x : Int)] [.one (.int .u64 (x : Int))] rfl rfl (by decide) (by decide)
    ⟨Reads.one rfl, rfl, trivial⟩
  refine ⟨Grw.sealed (h1 fun v hv => ⟨_, _, ?_, k v hv⟩).out⟩
  exact Seals.own_cong (os := own1 v 1 1 (fun i => [Dat.one (.int .u64 (x : Int))].getD i (.one undef)) :: os) (fs := fs) 0 (n' := [x].length) (UE [x]) rfl rfl fun i hi => by
    have : i = 0 := by omega
    subst this; rfl
theorem digit_of {R Y lo : Nat} (h1 : lo * Y ≤ R) (h2 : R < (lo + 1) * Y) : R / Y = lo ∧ R - Y * lo = R % Y := by
  have hy : 0 < Y := Nat.pos_of_ne_zero fun e => by subst e; simp at h2
  have e : R / Y = lo := by
    have a1 := (Nat.le_div_iff_mul_le hy).2 h1
    have a2 := (Nat.div_lt_iff_lt_mul hy).2 h2
    omega
  exact ⟨e, by rw [← e, Nat.mod_eq_sub]⟩
theorem dv_drop {l : List Nat} {i : Nat} (h : i < l.length) : dv (l.drop i) = l.getD i 0 + 4294967296 * dv (l.drop (i + 1)) := by
  rw [List.drop_eq_getElem_cons h]
  simp only [dv]
  rw [List.getD_eq_getElem?_getD, List.getElem?_eq_getElem h]; rfl
theorem dv_drop_set {l : List Nat} {i x : Nat} (h : i < l.length) : dv ((l.set i x).drop i) = x + 4294967296 * dv (l.drop (i + 1)) := by
  rw [dv_drop (by simpa using h), getD_set h, if_pos rfl, List.drop_set_of_lt (by omega)]
theorem div_step1 {X x Q R Y q r : Nat} (h : X = Q * Y + R) (hq : R * 4294967296 + x = q * Y + r) : x + 4294967296 * X = (q + 4294967296 * Q) * Y + r := by
  rw [h, Nat.add_mul, Nat.mul_add, ← Nat.mul_assoc]
  omega
theorem lims_len_le {m n : Nat} (h : m ≤ n) : (lims m).length ≤ (lims n).length := lims_length_le (by
  have := nv_lt (Lim_lims n)
  rw [nv_lims] at this
  omega)
theorem rDivMod_meets (va vb : Value) (a b : List Nat) (ha : Lim a) (hb : Lim b) (la : a.length ≤ 274877906944) (lb : b.length ≤ 274877906944) (h0 : nv b ≠ 0) :
    Meets Tryz.prog 87 [va, vb] [(va, U a), (vb, U b)] (fun r os fs => os = [] ∧ ∃ q m, r = .tuple #[q, m, .bool true] ∧ fs = [(q, U (lims (nv a / nv b))), (m, U (lims (nv a % nv b)))]) := by
  have h1 := digs_len ha
  have h2 := digs_len hb
  have dA := Dig_digs (nv a)
  have dB := Dig_digs (nv b)
  have eA := dv_digs (nv a)
  have eB := dv_digs (nv b)
  have hB0 : (digs (nv b)).length ≠ 0 := fun h => h0 (digs_eq_nil.1 (List.eq_nil_of_length_eq_zero h))
  have hdm := digits_meets va a ha (by omega)
  have hdm2 := digits_meets vb b hb (by omega)
  generalize hX : digs (nv a) = x at *
  generalize hY : digs (nv b) = y at *
  have hyb : ∀ n, digs (dv y * n) = digs (nv b * n) := fun n => by rw [eB]
  generalize hM : nv a = M at *
  generalize hN : nv b = N at *
  refine meets_of_vc Tryz.func87 (by kernel_rfl) rfl (by kernel_rfl) (Nat.le_of_ble_eq_true rfl) ?_
  refine call_fn hdm (Seals.refl _ _) qS ?_
  rintro vx _ _ ⟨rfl, rfl⟩
  refine call_fn hdm2 (Seals.refl _ _) qS ?_
  rintro vy _ _ ⟨rfl, rfl⟩
  refine len_fact qM fun _ => ?_
  refine cmp_false rfl (by omega) ?_
  refine len_fact qM fun _ => ?_
  refine make_U x.length (by omega) (by omega) (by omega) (by omega) fun vq hq => ?_
  refine len_fact qM fun _ => ?_
  refine cmp_split _ rfl (fun hone => ?_) (fun hone => ?_)
  · have hy1 : y.length = 1 := by omega
    have hyN : y.getD 0 0 = N := by
      obtain ⟨t, ht⟩ := List.length_eq_one_iff.1 hy1
      rw [ht] at eB ⊢
      simpa [dv] using eB
    have hNlt : N < 4294967296 := by rw [← hyN]; exact dB.get 0
    refine len_fact qM fun _ => ?_
    refine ar rfl qI ?_
    refine loop_rule (X := Nat × List Nat × Nat) (fun z => ([(7, vx), (8, vy), (9, vq), (10, .int .u64 (z.2.2 : Nat)), (11, .int .i64 ((z.1 : Int) - 1))], [ownU vq z.2.1], [(vx, U x), (vy, U y)]))
      (fun z => z.1 ≤ x.length ∧ z.2.1.length = x.length ∧ Dig z.2.1 ∧ z.2.2 < N ∧ dv (x.drop z.1) = dv (z.2.1.drop z.1) * N + z.2.2) (fun z => z.1) rfl ?_ ?_
    · exact again (x.length, List.replicate x.length 0, 0) ⟨Nat.le_refl _, by simp, Dig.replicate _, by simp only; omega, by simp [dv]⟩ trivial qF (Seals.sub qS)
    · rintro ⟨k, l, left⟩ ⟨g1, g2, g3, g4, g5⟩
      simp only at g1 g2 g3 g4 g5 ⊢
      refine cmp_split _ rfl (fun hk => ?_) (fun hk => ?_)
      · obtain ⟨i, rfl⟩ : ∃ i, k = i + 1 := ⟨k - 1, by omega⟩
        have hi : i < x.length := by omega
        have hxi := dA.get i
        have hl4 : left * 4294967296 ≤ 4294967294 * 4294967296 := Nat.mul_le_mul_right _ (by omega)
        have hs1 := Nat.mod_lt (left * 4294967296 + x.getD i 0) (show 0 < N by omega)
        have hs2 := Nat.div_add_mod (left * 4294967296 + x.getD i 0) N
        have hdl : (left * 4294967296 + x.getD i 0) / N < 4294967296 := by
          refine (Nat.div_lt_iff_lt_mul (by omega)).2 ?_
          have : (left + 1) * 4294967296 ≤ N * 4294967296 := Nat.mul_le_mul_right _ (by omega)
          rw [Nat.mul_comm 4294967296 N]; omega
        have hdr := dv_drop hi
        have hds := dv_drop_set (l := l) (i := i) (x := (left * 4294967296 + x.getD i 0) / N) (by omega)
        refine ar_wrap rfl ((left * 4294967296 : Nat) : Int) (by rw [show ((left : Int) * 4294967296) = ((left * 4294967296 : Nat) : Int) by omega]; exact wrap_in ⟨Int.natCast_nonneg _, by omega⟩) ?_
        refine index_fact qM i (by omega) hi fun p => ?_
        refine load_one qM ?_
        refine ar_wrap rfl ((left * 4294967296 + x.getD i 0 : Nat) : Int) (by rw [← Int.natCast_add]; exact wrap_in ⟨Int.natCast_nonneg _, by omega⟩) ?_
        have hst := div_step1 (x := x.getD i 0) (q := (left * 4294967296 + x.getD i 0) / N) (r := (left * 4294967296 + x.getD i 0) % N) g5 (by rw [Nat.mul_comm _ N]; omega)
        generalize left * 4294967296 + x.getD i 0 = s at *
        refine index_fact qM 0 rfl (by omega) fun p2 => ?_
        refine load_one qM ?_
        rw [hyN]
        refine quo_rule (by omega) (by omega) (by rw [← Int.natCast_ediv]; exact ⟨Int.natCast_nonneg _, by omega⟩) ?_
        refine index_U 0 rfl hq i (by omega) (by omega) ?_
        refine store_U 0 rfl (s / N) (by rw [Int.natCast_ediv]) (by omega) ?_
        refine index_fact qM 0 rfl (by omega) fun p3 => ?_
        refine load_one qM ?_
        rw [hyN]
        refine rem_rule (by omega) (by omega) ?_
        refine ar rfl qI ?_
        refine again (i, l.set i (s / N), s % N) ⟨by simp only; omega, by simp [g2], g3.set _ hdl, hs1, ?_⟩ (by simp only; omega) ⟨rfl, rfl, rfl, u64_eq (by simp only; rw [Int.natCast_emod]), i64_eq (by simp only; omega), trivial⟩ (Seals.sub qS)
        simp only
        rw [hdr, hds, hst]
      · have hk0 : k = 0 := by omega
        subst hk0
        rw [List.drop_zero, List.drop_zero, eA] at g5
        have hlen := dv_lt g3
        obtain ⟨e1, e2⟩ := digit_of (R := M) (Y := N) (lo := dv l) (by omega) (by rw [Nat.succ_mul]; omega)
        have e3 : M % N = left := by rw [← e2, Nat.mul_comm N]; omega
        refine call_fn (limbs_meets vq l g3 (by omega)) (Seals.U 0 rfl hq) qS ?_
        rintro r1 _ _ ⟨rfl, rfl⟩
        refine lit_U left rfl fun w => ?_
        refine call_fn (limbs_meets w [left] (Dig.cons (by omega) Dig.nil) (by simp)) (Seals.refl _ _) qS ?_
        rintro r2 _ _ ⟨rfl, rfl⟩
        refine fin ⟨rfl, r1, r2, rfl, rfl⟩ (Seals.cons ((Knw.fact qM).cast (by rw [e1])) (Seals.cons ((Knw.fact qM).cast (by rw [e3]; simp [dv])) (Seals.nil _ _)))
  · have hN0 : 0 < N := by omega
    refine len_fact qM fun _ => ?_
    refine ar rfl qI ?_
    refine loop_rule (X := Nat × List Nat × Nat × Value) (fun z => ([(7, vx), (8, vy), (9, vq), (12, z.2.2.2), (13, .int .i64 ((z.1 : Int) - 1))], [ownU vq z.2.1], [(vx, U x), (vy, U y), (z.2.2.2, U (digs z.2.2.1))]))
      (fun z => z.1 ≤ x.length ∧ z.2.1.length = x.length ∧ Dig z.2.1 ∧ z.2.2.1 < N ∧ dv (x.drop z.1) = dv (z.2.1.drop z.1) * N + z.2.2.1) (fun z => z.1) rfl ?_ ?_
    · refine again (x.length, List.replicate x.length 0, 0, .slice none 0 0) ⟨Nat.le_refl _, by simp, Dig.replicate _, by simp only; omega, by simp [dv]⟩ trivial qF (Seals.trans (Seals.sub (fs' := [(vx, U x), (vy, U y)]) qS) (Seals.trans (Seals.cons (d := U (digs 0)) (by rw [digs_zero]; exact Knw.nil 1 _) (Seals.sub (fs' := [(vx, U x), (vy, U y)]) qS)) (Seals.sub qS)))
    · rintro ⟨k, l, R, vr⟩ ⟨g1, g2, g3, g4, g5⟩
      simp only at g1 g2 g3 g4 g5 ⊢
      refine cmp_split _ rfl (fun hk => ?_) (fun hk => ?_)
      · obtain ⟨i, rfl⟩ : ∃ i, k = i + 1 := ⟨k - 1, by omega⟩
        have hi : i < x.length := by omega
        have hxi := dA.get i
        have hRl : (digs R).length ≤ 549755813888 := Nat.le_trans (digs_len_mono (show R ≤ N by omega)) (by rw [hY]; omega)
        have hcons : trimL ([x.getD i 0] ++ digs R) = digs (R * 4294967296 + x.getD i 0) := by
          rw [trimD_eq (Dig.append (Dig.cons hxi Dig.nil) (Dig_digs R)), dv_append, dv_digs]
          congr 1
          simp [dv]; omega
        have hlt : R * 4294967296 + x.getD i 0 < 4294967296 * N := by
          have : (R + 1) * 4294967296 ≤ N * 4294967296 := Nat.mul_le_mul_right _ (by omega)
          rw [Nat.mul_comm 4294967296 N]; omega
        have hdr := dv_drop hi
        have hst : ∀ lo, lo * N ≤ R * 4294967296 + x.getD i 0 → R * 4294967296 + x.getD i 0 < (lo + 1) * N → dv (x.drop i) = dv ((l.set i lo).drop i) * N + (R * 4294967296 + x.getD i 0 - N * lo) := fun lo q1 q2 => by
          rw [hdr, dv_drop_set (by omega)]
          exact div_step1 g5 (by rw [Nat.mul_comm N lo]; omega)
        refine index_fact qM i (by omega) hi fun p => ?_
        refine load_one qM ?_
        refine lit_Uo (x.getD i 0) rfl fun w hw => ?_
        refine append_U 0 rfl hw (Knw.fact qM) (by simp; omega) (by simp; omega) fun v2 hv2 => ?_
        refine call_fn (rTrim_meets v2 ([x.getD i 0] ++ digs R)) (Seals.U 0 rfl hv2) qS ?_
        rintro r1 _ _ ⟨rfl, rfl⟩
        rw [hcons]
        generalize R * 4294967296 + x.getD i 0 = S at *
        refine loop_rule (X := Nat × Nat) (fun z => ([(7, vx), (8, vy), (9, vq), (12, r1), (13, .int .i64 (i : Nat)), (14, .int .u64 (z.1 : Nat)), (15, .int .u64 (z.2 : Nat))], [ownU vq l], [(vx, U x), (vy, U y), (r1, U (digs S))]))
          (fun z => z.1 ≤ z.2 ∧ z.2 < 4294967296 ∧ z.1 * N ≤ S ∧ S < (z.2 + 1) * N) (fun z => z.2 - z.1) rfl ?_ ?_
        · exact again (0, 4294967295) ⟨by simp, by simp, by simp, hlt⟩ trivial qF (Seals.sub qS)
        · rintro ⟨lo, hi'⟩ ⟨f1, f2, f3, f4⟩
          simp only at f1 f2 f3 f4 ⊢
          refine cmp_split _ rfl (fun hlo => ?_) (fun hlo => ?_)
          · refine ar rfl qI ?_
            refine ar rfl qI ?_
            refine quo_rule (by omega) (by omega) qI ?_
            have hmid : ((lo : Int) + hi' + 1) / 2 = (((lo + hi' + 1) / 2 : Nat) : Int) := by omega
            rw [hmid]
            have hm1 : lo < (lo + hi' + 1) / 2 := by omega
            have hm2 : (lo + hi' + 1) / 2 ≤ hi' := by omega
            generalize (lo + hi' + 1) / 2 = mid at *
            have htm := rtimes_meets vy y mid dB (by omega) (by omega)
            rw [eB] at htm
            refine call_fn htm (Seals.refl _ _) qS ?_
            rintro w2 _ _ ⟨rfl, rfl⟩
            refine call_fn (cmpDigits_meets w2 r1 (N * mid) S) (Seals.refl _ _) qS ?_
            rintro _ _ _ ⟨rfl, rfl, rfl⟩
            refine cmp_split _ rfl (fun hc => ?_) (fun hc => ?_)
            · have hle : N * mid ≤ S := by
                refine Nat.not_lt.1 fun h => ?_
                have : cmpN (N * mid) S = 1 := by unfold cmpN; rw [if_neg (by omega), if_pos h]
                omega
              exact again (mid, hi') ⟨hm2, f2, by simp only; rw [Nat.mul_comm]; exact hle, f4⟩ (by simp only; omega) qF (Seals.sub qS)
            · have hgt : S < N * mid := by
                refine Nat.not_le.1 fun h => ?_
                have : cmpN (N * mid) S ≤ 0 := by
                  unfold cmpN
                  split
                  · decide
                  · split
                    · omega
                    · decide
                omega
              refine ar rfl qI ?_
              refine again (lo, mid - 1) ⟨by simp only; omega, by simp only; omega, f3, ?_⟩ (by simp only; omega) qF (Seals.sub qS)
              simp only
              rw [show mid - 1 + 1 = mid by omega, Nat.mul_comm]; exact hgt
          · have hll : hi' = lo := by omega
            subst hll
            have hS := hst hi' f3 f4
            obtain ⟨e1, e2⟩ := digit_of f3 f4
            have hlen : (digs (N * hi')).length ≤ (digs S).length := digs_len_mono (by rw [Nat.mul_comm]; exact f3)
            have hmod := Nat.mod_lt S hN0
            refine index_U 0 rfl hq i rfl (by omega) ?_
            refine store_U 0 rfl hi' rfl (by omega) ?_
            have htm := rtimes_meets vy y hi' dB (by omega) (by omega)
            rw [eB] at htm
            refine call_fn htm (Seals.refl _ _) qS ?_
            rintro w2 _ _ ⟨rfl, rfl⟩
            have hSl : (digs S).length ≤ 2199023255552 := by
              refine Nat.le_trans (digs_len_mono (a := S) (show S ≤ N * 4294967296 by rw [Nat.mul_comm]; omega)) ?_
              refine Nat.le_trans (digs_length_le (k := y.length + 1) ?_) (by omega)
              have := dv_lt dB
              rw [eB] at this
              rw [Nat.pow_succ]
              exact Nat.mul_lt_mul_of_pos_right this (by decide)
            have hsb := rsub_meets r1 w2 (digs S) (digs (N * hi')) (Dig_digs _) (Dig_digs _) hSl hlen (by rw [dv_digs, dv_digs, Nat.mul_comm]; exact f3)
            rw [dv_digs, dv_digs] at hsb
            refine call_fn hsb (Seals.refl _ _) qS ?_
            rintro w3 _ _ ⟨rfl, rfl⟩
            refine ar rfl qI ?_
            exact again (i, l.set i hi', S - N * hi', w3) ⟨by simp only; omega, by simp [g2], g3.set _ f2, by simp only; omega, hS⟩ (by simp only; omega) qF (Seals.sub qS)
      · have hk0 : k = 0 := by omega
        subst hk0
        rw [List.drop_zero, List.drop_zero, eA] at g5
        obtain ⟨e1, e2⟩ := digit_of (R := M) (Y := N) (lo := dv l) (by omega) (by rw [Nat.succ_mul]; omega)
        have e3 : M % N = R := by rw [← e2, Nat.mul_comm N]; omega
        have hRl : (digs R).length ≤ 549755813888 := Nat.le_trans (digs_len_mono (show R ≤ N by omega)) (by rw [hY]; omega)
        refine call_fn (limbs_meets vq l g3 (by omega)) (Seals.U 0 rfl hq) qS ?_
        rintro r1 _ _ ⟨rfl, rfl⟩
        refine call_fn (limbs_meets vr (digs R) (Dig_digs _) (by omega)) (Seals.refl _ _) qS ?_
        rintro r2 _ _ ⟨rfl, rfl⟩
        refine fin ⟨rfl, r1, r2, rfl, rfl⟩ (Seals.cons ((Knw.fact qM).cast (by rw [e1])) (Seals.cons ((Knw.fact qM).cast (by rw [e3, dv_digs])) (Seals.nil _ _)))
open Go.RowKit
theorem one_sz {e : Nat} (h : 1 ≤ e) : sz 1 e := Nat.lt_of_lt_of_le (show (1 : Int).natAbs < 18446744073709551616 ^ 1 by decide) (Nat.pow_le_pow_right (by decide) h)
theorem div_uniq {x y q r : Int} (h0 : y ≠ 0) (e : x = y * q + r) (h1 : 0 ≤ r) (h2 : r < y.natAbs) : x / y = q ∧ x % y = r := by
  have e1 : x % y = r := by
    rw [e, Int.add_comm, Int.add_mul_emod_self_left]
    rcases Int.lt_or_gt_of_ne h0 with h | h
    · rw [← Int.emod_neg]; exact Int.emod_eq_of_lt h1 (by omega)
    · exact Int.emod_eq_of_lt h1 (by omega)
  refine ⟨?_, e1⟩
  have h3 := Int.mul_ediv_add_emod x y
  rw [e1] at h3
  have h4 : y * (x / y) = y * q := by omega
  exact Int.eq_of_mul_eq_mul_left h0 h4
theorem rAbs_meets (v : Value) (s : Bool) (a : List Nat) (ha : Lim a) (la : a.length ≤ 1099511627776) :
    Meets Tryz.prog 40 [v] [(v, I s a)] (fun r os fs => os = [] ∧ fs = [(r, zd ((iv s a).natAbs : Nat))]) := by
  refine meets_of_vc Tryz.func40 (by kernel_rfl) rfl (by kernel_rfl) (Nat.le_of_ble_eq_true rfl) ?_
  refine box_rule (Reads.fact (d := I s a) qM) fun p hp => ?_
  refine alloc_rule (d := I false []) fun o ho => ?_
  refine field_box 1 rfl hp ?_
  refine load_box_field 1 rfl (Part.right (Part.refl _)) (load_L _) fun u => ?_
  refine call_fn (rMake_meets u false a ha la) (Seals.refl _ _) qS ?_
  rintro r0 _ _ ⟨rfl, rfl⟩
  rw [show iv false a = ((iv s a).natAbs : Nat) by rw [iv_abs]; simp [iv]]
  generalize ((iv s a).natAbs : Int) = x
  refine store_box (d := zd x) 0 rfl ho rfl (by kernel_rfl) ?_ ?_; exact Reads.fact qM
  refine load_box (d := zd x) 0 rfl ho rfl (load_I _ _) fun r => ?_
  exact fin ⟨rfl, rfl⟩ (Seals.trans (Seals.trans (Seals.drop 0 _ _) (Seals.drop 0 _ _)) (Seals.sub qS))
theorem sgn_div {x y : Int} (h0 : y ≠ 0) :
    let q0 : Int := if decide (x < 0) = decide (y < 0) then ((x.natAbs / y.natAbs : Nat) : Int) else -((x.natAbs / y.natAbs : Nat) : Int)
    let r0 : Int := if x < 0 then -((x.natAbs % y.natAbs : Nat) : Int) else ((x.natAbs % y.natAbs : Nat) : Int)
    (r0 < 0 → x / y = (if y < 0 then q0 + 1 else q0 - 1) ∧ x % y = r0 + y.natAbs) ∧ (¬ r0 < 0 → x / y = q0 ∧ x % y = r0) := by
  intro q0 r0
  have hY : 0 < y.natAbs := by omega
  have hm := Nat.mod_lt x.natAbs hY
  have hd := Nat.div_add_mod x.natAbs y.natAbs
  have e : x = y * q0 + r0 := by
    have h1 : ((y.natAbs * (x.natAbs / y.natAbs) + x.natAbs % y.natAbs : Nat) : Int) = x.natAbs := by rw [hd]
    rw [Int.natCast_add, Int.natCast_mul] at h1
    show x = y * (if decide (x < 0) = decide (y < 0) then _ else _) + (if x < 0 then _ else _)
    generalize ((x.natAbs / y.natAbs : Nat) : Int) = Q at *
    generalize ((x.natAbs % y.natAbs : Nat) : Int) = R at *
    by_cases hx : x < 0
    · by_cases hy : y < 0
      · have ey : (y.natAbs : Int) = -y := by omega
        rw [ey, Int.neg_mul] at h1
        simp only [hx, hy, decide_true, if_true]; omega
      · have ey : (y.natAbs : Int) = y := by omega
        rw [ey] at h1
        simp only [hx, hy, decide_true, decide_false, if_true, Bool.true_eq_false, if_false]
        rw [Int.mul_neg]; omega
    · by_cases hy : y < 0
      · have ey : (y.natAbs : Int) = -y := by omega
        rw [ey, Int.neg_mul] at h1
        simp only [hx, hy, decide_true, decide_false, Bool.false_eq_true, if_false]
        rw [Int.mul_neg]; omega
      · have ey : (y.natAbs : Int) = y := by omega
        rw [ey] at h1
        simp only [hx, hy, decide_false, if_true, if_false]; omega
  have hr : r0.natAbs = x.natAbs % y.natAbs := by
    show (if x < 0 then -((x.natAbs % y.natAbs : Nat) : Int) else ((x.natAbs % y.natAbs : Nat) : Int)).natAbs = _
    split <;> omega
  constructor
  · intro hr0
    refine div_uniq h0 ?_ (by omega) (by omega)
    by_cases hy : y < 0
    · rw [if_pos hy, Int.mul_add, Int.mul_one]; omega
    · rw [if_neg hy, Int.mul_sub, Int.mul_one]; omega
  · intro hr0
    exact div_uniq h0 e (by omega) (by omega)
theorem rZDivMod_meets (v w : Value) (s t : Bool) (a b : List Nat) (ha : Lim a) (hb : Lim b) (la : a.length ≤ 34359738368) (lb : b.length ≤ 34359738368) (h0 : iv t b ≠ 0) :
    Meets Tryz.prog 37 [v, w] [(v, I s a), (w, I t b)] (fun r os fs => os = [] ∧ ∃ q m, r = .tuple #[q, m, .bool true] ∧ fs = [(q, zd (iv s a / iv t b)), (m, zd (iv s a % iv t b))]) := by
  have hxs : sz (iv s a) a.length := sz_jv (x := (s, a)) ha (Nat.le_refl _)
  have hys : sz (iv t b) b.length := sz_jv (x := (t, b)) hb (Nat.le_refl _)
  have n1 := fun u => rZNorm_meets u s a ha (by omega)
  have n2 := fun u => rZNorm_meets u t b hb (by omega)
  refine meets_of_vc Tryz.func37 (by kernel_rfl) rfl (by kernel_rfl) (Nat.le_of_ble_eq_true rfl) ?_
  refine box_rule (Reads.fact (d := I s a) qM) fun p hp => ?_
  refine box_rule (Reads.fact (d := I t b) qM) fun q hq => ?_
  refine alloc_rule (d := I false []) fun o ho => ?_
  refine alloc_rule (d := I false []) fun o2 ho2 => ?_
  refine load_box (d := I s a) 3 rfl hp rfl (load_I _ _) fun v1 => ?_
  refine call_fn (n1 v1) (Seals.refl _ _) qS ?_
  rintro v2 _ _ ⟨rfl, rfl⟩
  refine store_box (d := zd (iv s a)) 3 rfl hp rfl (by kernel_rfl) ?_ ?_; exact Reads.fact qM
  refine load_box (d := I t b) 2 rfl hq rfl (load_I _ _) fun w1 => ?_
  refine call_fn (n2 w1) (Seals.refl _ _) qS ?_
  rintro w2 _ _ ⟨rfl, rfl⟩
  refine store_box (d := zd (iv t b)) 2 rfl hq rfl (by kernel_rfl) ?_ ?_; exact Reads.fact qM
  generalize iv s a = x at *
  generalize iv t b = y at *
  have hx1 := hxs.len
  have hy1 := hys.len
  have hsg := sgn_div (x := x) h0
  simp only at hsg
  have hY : 0 < y.natAbs := by omega
  have hR := Nat.mod_lt x.natAbs hY
  have hQ := Nat.div_le_self x.natAbs y.natAbs
  have lQ : (lims (x.natAbs / y.natAbs)).length ≤ 1099511627776 := Nat.le_trans (lims_len_le hQ) (by omega)
  have lR : (lims (x.natAbs % y.natAbs)).length ≤ 1099511627776 := Nat.le_trans (lims_len_le (Nat.le_of_lt hR)) (by omega)
  have hdm := fun u u' => rDivMod_meets u u' (lims x.natAbs) (lims y.natAbs) (Lim_lims _) (Lim_lims _) (by omega) (by omega) (by rw [nv_lims]; omega)
  simp only [nv_lims] at hdm
  have sR : ∀ r : Int, r.natAbs = x.natAbs % y.natAbs → sz r (a.length + b.length + 1) := fun r hr => by
    have h1 := hys.mono (show b.length ≤ a.length + b.length + 1 by omega)
    unfold sz at h1 ⊢; omega
  have sQ : ∀ r : Int, r.natAbs = x.natAbs / y.natAbs → sz r (a.length + b.length + 1) := fun r hr => by
    have h1 := hxs.mono (show a.length ≤ a.length + b.length + 1 by omega)
    unfold sz at h1 ⊢; omega
  have sY : sz ((y.natAbs : Nat) : Int) (a.length + b.length + 1) := by
    have h1 := hys.mono (show b.length ≤ a.length + b.length + 1 by omega)
    unfold sz at h1 ⊢; omega
  have hab := fun u => rAbs_meets u (decide (y < 0)) (lims y.natAbs) (Lim_lims _) (by omega)
  rw [iv_zd] at hab
  obtain ⟨R0, hR0⟩ : ∃ R0 : Int, (if x < 0 then -((x.natAbs % y.natAbs : Nat) : Int) else ((x.natAbs % y.natAbs : Nat) : Int)) = R0 := ⟨_, rfl⟩
  have hR0e : R0 = if decide (x < 0) = true then -((x.natAbs % y.natAbs : Nat) : Int) else ((x.natAbs % y.natAbs : Nat) : Int) := by
    rw [← hR0]
    by_cases h : x < 0
    · simp [h]
    · simp [h]
  have hR0a : R0.natAbs = x.natAbs % y.natAbs := by rw [← hR0]; split <;> omega
  rw [hR0] at hsg
  have sR0 := sR R0 hR0a
  have one : sz 1 (a.length + b.length + 1) := one_sz (by omega)
  have hE : a.length + b.length + 1 ≤ 137438953472 := by omega
  generalize hQn : x.natAbs / y.natAbs = Q at *
  generalize hRn : x.natAbs % y.natAbs = R at *
  generalize a.length + b.length + 1 = E at *
  refine field_box 3 rfl hp ?_
  refine load_box_field (d := U (lims (x).natAbs)) 3 rfl (Part.right (Part.refl _)) (load_L _) fun u1 => ?_
  refine field_box 2 rfl hq ?_
  refine load_box_field (d := U (lims (y).natAbs)) 2 rfl (Part.right (Part.refl _)) (load_L _) fun u2 => ?_
  refine call_fn (hdm u1 u2) (Seals.refl _ _) qS ?_
  rintro _ _ _ ⟨rfl, z1, z2, rfl, rfl⟩
  refine field_box 3 rfl hp ?_
  refine load_box_field_one (u := .bool (decide (x < 0))) 3 rfl (Part.left (Part.refl _)) ?_
  refine field_box 2 rfl hq ?_
  refine load_box_field_one (u := .bool (decide (y < 0))) 2 rfl (Part.left (Part.refl _)) ?_
  refine bne_split (fun hc => ?_) (fun hc => ?_)
  · rw [if_neg hc] at hsg
    refine call_fn (rMake_of z1 true Q (-(Q : Int)) lQ rfl) (Seals.refl _ _) qS ?_
    rintro m1 _ _ ⟨rfl, rfl⟩
    refine alloc_rule (d := I false []) fun q2 hq2 => ?_
    refine store_box (d := zd (-(Q : Int))) 0 rfl hq2 rfl (by kernel_rfl) ?_ ?_; exact Reads.fact qM
    refine field_box 4 rfl hp ?_
    refine load_box_field_one (u := .bool (decide (x < 0))) 4 rfl (Part.left (Part.refl _)) ?_
    refine call_fn (rMake_of z2 (decide (x < 0)) R R0 lR hR0e) (Seals.refl _ _) qS ?_
    rintro m2 _ _ ⟨rfl, rfl⟩
    refine alloc_rule (d := I false []) fun r2 hr2 => ?_
    refine store_box (d := zd R0) 0 rfl hr2 rfl (by kernel_rfl) ?_ ?_; exact Reads.fact qM
    refine field_box 0 rfl hr2 ?_
    refine load_box_field_one (u := .bool (decide (R0 < 0))) 0 rfl (Part.left (Part.refl _)) ?_
    have sQ0 := sQ (-(Q : Int)) (by omega)
    by_cases hneg : R0 < 0
    · obtain ⟨e1, e2⟩ := hsg.1 hneg
      have had := fun u u' => rAddZ u u' R0 ((y.natAbs : Nat) : Int) E sR0 sY hE
      rw [← e2] at had
      rw [decide_eq_true hneg]
      refine draw_rule [0, 1, 2, 3, 4] [0, 1, 2, 3, 4] (by kernel_rfl) (by kernel_rfl) ?_
      refine load_box (d := zd R0) 0 rfl hr2 rfl (load_I _ _) fun y1 => ?_
      refine load_box (d := zd y) 4 rfl hq rfl (load_I _ _) fun y2 => ?_
      refine call_fn (hab y2) (Seals.refl _ _) qS ?_
      rintro y3 _ _ ⟨rfl, rfl⟩
      refine call_fn (had y1 y3) (Seals.refl _ _) qS ?_
      rintro y4 _ _ ⟨rfl, rfl⟩
      refine store_box (d := zd (x % y)) 0 rfl hr2 rfl (by kernel_rfl) ?_ ?_; exact Reads.fact qM
      refine field_box 4 rfl hq ?_
      refine load_box_field_one (u := .bool (decide (y < 0))) 4 rfl (Part.left (Part.refl _)) ?_
      by_cases hy0 : y < 0
      · rw [if_pos hy0] at e1
        have ha2 := fun u u' => rAddZ u u' (-(Q : Int)) 1 E sQ0 one hE
        rw [← e1] at ha2
        rw [decide_eq_true hy0]
        refine draw_rule [0, 1, 2, 3] [0, 1, 2, 3] (by kernel_rfl) (by kernel_rfl) ?_
        refine load_box (d := zd (-(Q : Int))) 1 rfl hq2 rfl (load_I _ _) fun y5 => ?_
        refine call_fn (rOf_meets 1 (by decide) (by decide)) (Seals.refl _ _) qS ?_
        rintro y6 _ _ ⟨rfl, rfl⟩
        refine call_fn (ha2 y5 y6) (Seals.refl _ _) qS ?_
        rintro y7 _ _ ⟨rfl, rfl⟩
        refine store_box (d := zd (x / y)) 1 rfl hq2 rfl (by kernel_rfl) ?_ ?_; exact Reads.fact qM
        refine draw_ord [0, 2, 1, 3, 4] (by kernel_rfl) ?_
        refine ord_split 1 2 (by kernel_rfl) (by kernel_rfl) (by kernel_rfl) ?_ ?_
        · refine ord_go [0, 1, 2, 3, 4] (by kernel_rfl) (by kernel_rfl) ?_
          refine load_box (d := zd (x / y)) 1 rfl hq2 rfl (load_I _ _) fun t1 => ?_
          refine load_box (d := zd (x % y)) 0 rfl hr2 rfl (load_I _ _) fun t2 => ?_
          refine store_box (d := zd (x / y)) 3 rfl ho rfl (by kernel_rfl) ?_ ?_; exact Reads.fact qM
          refine store_box (d := zd (x % y)) 2 rfl ho2 rfl (by kernel_rfl) ?_ ?_; exact Reads.fact qM
          refine load_box (d := zd (x / y)) 3 rfl ho rfl (load_I _ _) fun r1 => ?_
          refine load_box (d := zd (x % y)) 2 rfl ho2 rfl (load_I _ _) fun r2' => ?_
          exact fin ⟨rfl, r1, r2', rfl, rfl⟩ (Seals.trans (Seals.drop 0 _ _) (Seals.trans (Seals.drop 0 _ _) (Seals.trans (Seals.drop 0 _ _) (Seals.trans (Seals.drop 0 _ _) (Seals.trans (Seals.drop 0 _ _) (Seals.trans (Seals.drop 0 _ _) (Seals.sub (fs' := [(r1, zd (x / y)), (r2', zd (x % y))]) qS)))))))
        · refine ord_go [0, 2, 1, 3, 4] (by kernel_rfl) (by kernel_rfl) ?_
          refine load_box (d := zd (x / y)) 1 rfl hq2 rfl (load_I _ _) fun t1 => ?_
          refine store_box (d := zd (x / y)) 3 rfl ho rfl (by kernel_rfl) ?_ ?_; exact Reads.fact qM
          refine load_box (d := zd (x % y)) 0 rfl hr2 rfl (load_I _ _) fun t2 => ?_
          refine store_box (d := zd (x % y)) 2 rfl ho2 rfl (by kernel_rfl) ?_ ?_; exact Reads.fact qM
          refine load_box (d := zd (x / y)) 3 rfl ho rfl (load_I _ _) fun r1 => ?_
          refine load_box (d := zd (x % y)) 2 rfl ho2 rfl (load_I _ _) fun r2' => ?_
          exact fin ⟨rfl, r1, r2', rfl, rfl⟩ (Seals.trans (Seals.drop 0 _ _) (Seals.trans (Seals.drop 0 _ _) (Seals.trans (Seals.drop 0 _ _) (Seals.trans (Seals.drop 0 _ _) (Seals.trans (Seals.drop 0 _ _) (Seals.trans (Seals.drop 0 _ _) (Seals.sub (fs' := [(r1, zd (x / y)), (r2', zd (x % y))]) qS)))))))
      · rw [if_neg hy0] at e1
        have ha2 := fun u u' => rSubZ u u' (-(Q : Int)) 1 E sQ0 one hE
        rw [← e1] at ha2
        rw [decide_eq_false hy0]
        refine draw_rule [0, 1, 2, 3] [0, 1, 2, 3] (by kernel_rfl) (by kernel_rfl) ?_
        refine load_box (d := zd (-(Q : Int))) 1 rfl hq2 rfl (load_I _ _) fun y5 => ?_
        refine call_fn (rOf_meets 1 (by decide) (by decide)) (Seals.refl _ _) qS ?_
        rintro y6 _ _ ⟨rfl, rfl⟩
        refine call_fn (ha2 y5 y6) (Seals.refl _ _) qS ?_
        rintro y7 _ _ ⟨rfl, rfl⟩
        refine store_box (d := zd (x / y)) 1 rfl hq2 rfl (by kernel_rfl) ?_ ?_; exact Reads.fact qM
        refine draw_ord [0, 2, 1, 3, 4] (by kernel_rfl) ?_
        refine ord_split 1 2 (by kernel_rfl) (by kernel_rfl) (by kernel_rfl) ?_ ?_
        · refine ord_go [0, 1, 2, 3, 4] (by kernel_rfl) (by kernel_rfl) ?_
          refine load_box (d := zd (x / y)) 1 rfl hq2 rfl (load_I _ _) fun t1 => ?_
          refine load_box (d := zd (x % y)) 0 rfl hr2 rfl (load_I _ _) fun t2 => ?_
          refine store_box (d := zd (x / y)) 3 rfl ho rfl (by kernel_rfl) ?_ ?_; exact Reads.fact qM
          refine store_box (d := zd (x % y)) 2 rfl ho2 rfl (by kernel_rfl) ?_ ?_; exact Reads.fact qM
          refine load_box (d := zd (x / y)) 3 rfl ho rfl (load_I _ _) fun r1 => ?_
          refine load_box (d := zd (x % y)) 2 rfl ho2 rfl (load_I _ _) fun r2' => ?_
          exact fin ⟨rfl, r1, r2', rfl, rfl⟩ (Seals.trans (Seals.drop 0 _ _) (Seals.trans (Seals.drop 0 _ _) (Seals.trans (Seals.drop 0 _ _) (Seals.trans (Seals.drop 0 _ _) (Seals.trans (Seals.drop 0 _ _) (Seals.trans (Seals.drop 0 _ _) (Seals.sub (fs' := [(r1, zd (x / y)), (r2', zd (x % y))]) qS)))))))
        · refine ord_go [0, 2, 1, 3, 4] (by kernel_rfl) (by kernel_rfl) ?_
          refine load_box (d := zd (x / y)) 1 rfl hq2 rfl (load_I _ _) fun t1 => ?_
          refine store_box (d := zd (x / y)) 3 rfl ho rfl (by kernel_rfl) ?_ ?_; exact Reads.fact qM
          refine load_box (d := zd (x % y)) 0 rfl hr2 rfl (load_I _ _) fun t2 => ?_
          refine store_box (d := zd (x % y)) 2 rfl ho2 rfl (by kernel_rfl) ?_ ?_; exact Reads.fact qM
          refine load_box (d := zd (x / y)) 3 rfl ho rfl (load_I _ _) fun r1 => ?_
          refine load_box (d := zd (x % y)) 2 rfl ho2 rfl (load_I _ _) fun r2' => ?_
          exact fin ⟨rfl, r1, r2', rfl, rfl⟩ (Seals.trans (Seals.drop 0 _ _) (Seals.trans (Seals.drop 0 _ _) (Seals.trans (Seals.drop 0 _ _) (Seals.trans (Seals.drop 0 _ _) (Seals.trans (Seals.drop 0 _ _) (Seals.trans (Seals.drop 0 _ _) (Seals.sub (fs' := [(r1, zd (x / y)), (r2', zd (x % y))]) qS)))))))
    · obtain ⟨e1, e2⟩ := hsg.2 hneg
      rw [decide_eq_false hneg]
      rw [← e1, ← e2]
      refine draw_ord [0, 2, 1, 3, 4] (by kernel_rfl) ?_
      refine ord_split 1 2 (by kernel_rfl) (by kernel_rfl) (by kernel_rfl) ?_ ?_
      · refine ord_go [0, 1, 2, 3, 4] (by kernel_rfl) (by kernel_rfl) ?_
        refine load_box (d := zd (x / y)) 1 rfl hq2 rfl (load_I _ _) fun t1 => ?_
        refine load_box (d := zd (x % y)) 0 rfl hr2 rfl (load_I _ _) fun t2 => ?_
        refine store_box (d := zd (x / y)) 3 rfl ho rfl (by kernel_rfl) ?_ ?_; exact Reads.fact qM
        refine store_box (d := zd (x % y)) 2 rfl ho2 rfl (by kernel_rfl) ?_ ?_; exact Reads.fact qM
        refine load_box (d := zd (x / y)) 3 rfl ho rfl (load_I _ _) fun r1 => ?_
        refine load_box (d := zd (x % y)) 2 rfl ho2 rfl (load_I _ _) fun r2' => ?_
        exact fin ⟨rfl, r1, r2', rfl, rfl⟩ (Seals.trans (Seals.drop 0 _ _) (Seals.trans (Seals.drop 0 _ _) (Seals.trans (Seals.drop 0 _ _) (Seals.trans (Seals.drop 0 _ _) (Seals.trans (Seals.drop 0 _ _) (Seals.trans (Seals.drop 0 _ _) (Seals.sub (fs' := [(r1, zd (x / y)), (r2', zd (x % y))]) qS)))))))
      · refine ord_go [0, 2, 1, 3, 4] (by kernel_rfl) (by kernel_rfl) ?_
        refine load_box (d := zd (x / y)) 1 rfl hq2 rfl (load_I _ _) fun t1 => ?_
        refine store_box (d := zd (x / y)) 3 rfl ho rfl (by kernel_rfl) ?_ ?_; exact Reads.fact qM
        refine load_box (d := zd (x % y)) 0 rfl hr2 rfl (load_I _ _) fun t2 => ?_
        refine store_box (d := zd (x % y)) 2 rfl ho2 rfl (by kernel_rfl) ?_ ?_; exact Reads.fact qM
        refine load_box (d := zd (x / y)) 3 rfl ho rfl (load_I _ _) fun r1 => ?_
        refine load_box (d := zd (x % y)) 2 rfl ho2 rfl (load_I _ _) fun r2' => ?_
        exact fin ⟨rfl, r1, r2', rfl, rfl⟩ (Seals.trans (Seals.drop 0 _ _) (Seals.trans (Seals.drop 0 _ _) (Seals.trans (Seals.drop 0 _ _) (Seals.trans (Seals.drop 0 _ _) (Seals.trans (Seals.drop 0 _ _) (Seals.trans (Seals.drop 0 _ _) (Seals.sub (fs' := [(r1, zd (x / y)), (r2', zd (x % y))]) qS)))))))
  · rw [if_pos hc] at hsg
    refine call_fn (rMake_of z1 false Q (Q : Int) lQ rfl) (Seals.refl _ _) qS ?_
    rintro m1 _ _ ⟨rfl, rfl⟩
    refine alloc_rule (d := I false []) fun q2 hq2 => ?_
    refine store_box (d := zd (Q : Int)) 0 rfl hq2 rfl (by kernel_rfl) ?_ ?_; exact Reads.fact qM
    refine field_box 4 rfl hp ?_
    refine load_box_field_one (u := .bool (decide (x < 0))) 4 rfl (Part.left (Part.refl _)) ?_
    refine call_fn (rMake_of z2 (decide (x < 0)) R R0 lR hR0e) (Seals.refl _ _) qS ?_
    rintro m2 _ _ ⟨rfl, rfl⟩
    refine alloc_rule (d := I false []) fun r2 hr2 => ?_
    refine store_box (d := zd R0) 0 rfl hr2 rfl (by kernel_rfl) ?_ ?_; exact Reads.fact qM
    refine field_box 0 rfl hr2 ?_
    refine load_box_field_one (u := .bool (decide (R0 < 0))) 0 rfl (Part.left (Part.refl _)) ?_
    have sQ0 := sQ (Q : Int) (by omega)
    by_cases hneg : R0 < 0
    · obtain ⟨e1, e2⟩ := hsg.1 hneg
      have had := fun u u' => rAddZ u u' R0 ((y.natAbs : Nat) : Int) E sR0 sY hE
      rw [← e2] at had
      rw [decide_eq_true hneg]
      refine draw_rule [0, 1, 2, 3, 4] [0, 1, 2, 3, 4] (by kernel_rfl) (by kernel_rfl) ?_
      refine load_box (d := zd R0) 0 rfl hr2 rfl (load_I _ _) fun y1 => ?_
      refine load_box (d := zd y) 4 rfl hq rfl (load_I _ _) fun y2 => ?_
      refine call_fn (hab y2) (Seals.refl _ _) qS ?_
      rintro y3 _ _ ⟨rfl, rfl⟩
      refine call_fn (had y1 y3) (Seals.refl _ _) qS ?_
      rintro y4 _ _ ⟨rfl, rfl⟩
      refine store_box (d := zd (x % y)) 0 rfl hr2 rfl (by kernel_rfl) ?_ ?_; exact Reads.fact qM
      refine field_box 4 rfl hq ?_
      refine load_box_field_one (u := .bool (decide (y < 0))) 4 rfl (Part.left (Part.refl _)) ?_
      by_cases hy0 : y < 0
      · rw [if_pos hy0] at e1
        have ha2 := fun u u' => rAddZ u u' (Q : Int) 1 E sQ0 one hE
        rw [← e1] at ha2
        rw [decide_eq_true hy0]
        refine draw_rule [0, 1, 2, 3] [0, 1, 2, 3] (by kernel_rfl) (by kernel_rfl) ?_
        refine load_box (d := zd (Q : Int)) 1 rfl hq2 rfl (load_I _ _) fun y5 => ?_
        refine call_fn (rOf_meets 1 (by decide) (by decide)) (Seals.refl _ _) qS ?_
        rintro y6 _ _ ⟨rfl, rfl⟩
        refine call_fn (ha2 y5 y6) (Seals.refl _ _) qS ?_
        rintro y7 _ _ ⟨rfl, rfl⟩
        refine store_box (d := zd (x / y)) 1 rfl hq2 rfl (by kernel_rfl) ?_ ?_; exact Reads.fact qM
        refine draw_ord [0, 2, 1, 3, 4] (by kernel_rfl) ?_
        refine ord_split 1 2 (by kernel_rfl) (by kernel_rfl) (by kernel_rfl) ?_ ?_
        · refine ord_go [0, 1, 2, 3, 4] (by kernel_rfl) (by kernel_rfl) ?_
          refine load_box (d := zd (x / y)) 1 rfl hq2 rfl (load_I _ _) fun t1 => ?_
          refine load_box (d := zd (x % y)) 0 rfl hr2 rfl (load_I _ _) fun t2 => ?_
          refine store_box (d := zd (x / y)) 3 rfl ho rfl (by kernel_rfl) ?_ ?_; exact Reads.fact qM
          refine store_box (d := zd (x % y)) 2 rfl ho2 rfl (by kernel_rfl) ?_ ?_; exact Reads.fact qM
          refine load_box (d := zd (x / y)) 3 rfl ho rfl (load_I _ _) fun r1 => ?_
          refine load_box (d := zd (x % y)) 2 rfl ho2 rfl (load_I _ _) fun r2' => ?_
          exact fin ⟨rfl, r1, r2', rfl, rfl⟩ (Seals.trans (Seals.drop 0 _ _) (Seals.trans (Seals.drop 0 _ _) (Seals.trans (Seals.drop 0 _ _) (Seals.trans (Seals.drop 0 _ _) (Seals.trans (Seals.drop 0 _ _) (Seals.trans (Seals.drop 0 _ _) (Seals.sub (fs' := [(r1, zd (x / y)), (r2', zd (x % y))]) qS)))))))
        · refine ord_go [0, 2, 1, 3, 4] (by kernel_rfl) (by kernel_rfl) ?_
          refine load_box (d := zd (x / y)) 1 rfl hq2 rfl (load_I _ _) fun t1 => ?_
          refine store_box (d := zd (x / y)) 3 rfl ho rfl (by kernel_rfl) ?_ ?_; exact Reads.fact qM
          refine load_box (d := zd (x % y)) 0 rfl hr2 rfl (load_I _ _) fun t2 => ?_
          refine store_box (d := zd (x % y)) 2 rfl ho2 rfl (by kernel_rfl) ?_ ?_; exact Reads.fact qM
          refine load_box (d := zd (x / y)) 3 rfl ho rfl (load_I _ _) fun r1 => ?_
          refine load_box (d := zd (x % y)) 2 rfl ho2 rfl (load_I _ _) fun r2' => ?_
          exact fin ⟨rfl, r1, r2', rfl, rfl⟩ (Seals.trans (Seals.drop 0 _ _) (Seals.trans (Seals.drop 0 _ _) (Seals.trans (Seals.drop 0 _ _) (Seals.trans (Seals.drop 0 _ _) (Seals.trans (Seals.drop 0 _ _) (Seals.trans (Seals.drop 0 _ _) (Seals.sub (fs' := [(r1, zd (x / y)), (r2', zd (x % y))]) qS)))))))
      · rw [if_neg hy0] at e1
        have ha2 := fun u u' => rSubZ u u' (Q : Int) 1 E sQ0 one hE
        rw [← e1] at ha2
        rw [decide_eq_false hy0]
        refine draw_rule [0, 1, 2, 3] [0, 1, 2, 3] (by kernel_rfl) (by kernel_rfl) ?_
        refine load_box (d := zd (Q : Int)) 1 rfl hq2 rfl (load_I _ _) fun y5 => ?_
        refine call_fn (rOf_meets 1 (by decide) (by decide)) (Seals.refl _ _) qS ?_
        rintro y6 _ _ ⟨rfl, rfl⟩
        refine call_fn (ha2 y5 y6) (Seals.refl _ _) qS ?_
        rintro y7 _ _ ⟨rfl, rfl⟩
        refine store_box (d := zd (x / y)) 1 rfl hq2 rfl (by kernel_rfl) ?_ ?_; exact Reads.fact qM
        refine draw_ord [0, 2, 1, 3, 4] (by kernel_rfl) ?_
        refine ord_split 1 2 (by kernel_rfl) (by kernel_rfl) (by kernel_rfl) ?_ ?_
        · refine ord_go [0, 1, 2, 3, 4] (by kernel_rfl) (by kernel_rfl) ?_
          refine load_box (d := zd (x / y)) 1 rfl hq2 rfl (load_I _ _) fun t1 => ?_
          refine load_box (d := zd (x % y)) 0 rfl hr2 rfl (load_I _ _) fun t2 => ?_
          refine store_box (d := zd (x / y)) 3 rfl ho rfl (by kernel_rfl) ?_ ?_; exact Reads.fact qM
          refine store_box (d := zd (x % y)) 2 rfl ho2 rfl (by kernel_rfl) ?_ ?_; exact Reads.fact qM
          refine load_box (d := zd (x / y)) 3 rfl ho rfl (load_I _ _) fun r1 => ?_
          refine load_box (d := zd (x % y)) 2 rfl ho2 rfl (load_I _ _) fun r2' => ?_
          exact fin ⟨rfl, r1, r2', rfl, rfl⟩ (Seals.trans (Seals.drop 0 _ _) (Seals.trans (Seals.drop 0 _ _) (Seals.trans (Seals.drop 0 _ _) (Seals.trans (Seals.drop 0 _ _) (Seals.trans (Seals.drop 0 _ _) (Seals.trans (Seals.drop 0 _ _) (Seals.sub (fs' := [(r1, zd (x / y)), (r2', zd (x % y))]) qS)))))))
        · refine ord_go [0, 2, 1, 3, 4] (by kernel_rfl) (by kernel_rfl) ?_
          refine load_box (d := zd (x / y)) 1 rfl hq2 rfl (load_I _ _) fun t1 => ?_
          refine store_box (d := zd (x / y)) 3 rfl ho rfl (by kernel_rfl) ?_ ?_; exact Reads.fact qM
          refine load_box (d := zd (x % y)) 0 rfl hr2 rfl (load_I _ _) fun t2 => ?_
          refine store_box (d := zd (x % y)) 2 rfl ho2 rfl (by kernel_rfl) ?_ ?_; exact Reads.fact qM
          refine load_box (d := zd (x / y)) 3 rfl ho rfl (load_I _ _) fun r1 => ?_
          refine load_box (d := zd (x % y)) 2 rfl ho2 rfl (load_I _ _) fun r2' => ?_
          exact fin ⟨rfl, r1, r2', rfl, rfl⟩ (Seals.trans (Seals.drop 0 _ _) (Seals.trans (Seals.drop 0 _ _) (Seals.trans (Seals.drop 0 _ _) (Seals.trans (Seals.drop 0 _ _) (Seals.trans (Seals.drop 0 _ _) (Seals.trans (Seals.drop 0 _ _) (Seals.sub (fs' := [(r1, zd (x / y)), (r2', zd (x % y))]) qS)))))))
    · obtain ⟨e1, e2⟩ := hsg.2 hneg
      rw [decide_eq_false hneg]
      rw [← e1, ← e2]
      refine draw_ord [0, 2, 1, 3, 4] (by kernel_rfl) ?_
      refine ord_split 1 2 (by kernel_rfl) (by kernel_rfl) (by kernel_rfl) ?_ ?_
      · refine ord_go [0, 1, 2, 3, 4] (by kernel_rfl) (by kernel_rfl) ?_
        refine load_box (d := zd (x / y)) 1 rfl hq2 rfl (load_I _ _) fun t1 => ?_
        refine load_box (d := zd (x % y)) 0 rfl hr2 rfl (load_I _ _) fun t2 => ?_
        refine store_box (d := zd (x / y)) 3 rfl ho rfl (by kernel_rfl) ?_ ?_; exact Reads.fact qM
        refine store_box (d := zd (x % y)) 2 rfl ho2 rfl (by kernel_rfl) ?_ ?_; exact Reads.fact qM
        refine load_box (d := zd (x / y)) 3 rfl ho rfl (load_I _ _) fun r1 => ?_
        refine load_box (d := zd (x % y)) 2 rfl ho2 rfl (load_I _ _) fun r2' => ?_
        exact fin ⟨rfl, r1, r2', rfl, rfl⟩ (Seals.trans (Seals.drop 0 _ _) (Seals.trans (Seals.drop 0 _ _) (Seals.trans (Seals.drop 0 _ _) (Seals.trans (Seals.drop 0 _ _) (Seals.trans (Seals.drop 0 _ _) (Seals.trans (Seals.drop 0 _ _) (Seals.sub (fs' := [(r1, zd (x / y)), (r2', zd (x % y))]) qS)))))))
      · refine ord_go [0, 2, 1, 3, 4] (by kernel_rfl) (by kernel_rfl) ?_
        refine load_box (d := zd (x / y)) 1 rfl hq2 rfl (load_I _ _) fun t1 => ?_
        refine store_box (d := zd (x / y)) 3 rfl ho rfl (by kernel_rfl) ?_ ?_; exact Reads.fact qM
        refine load_box (d := zd (x % y)) 0 rfl hr2 rfl (load_I _ _) fun t2 => ?_
        refine store_box (d := zd (x % y)) 2 rfl ho2 rfl (by kernel_rfl) ?_ ?_; exact Reads.fact qM
        refine load_box (d := zd (x / y)) 3 rfl ho rfl (load_I _ _) fun r1 => ?_
        refine load_box (d := zd (x % y)) 2 rfl ho2 rfl (load_I _ _) fun r2' => ?_
        exact fin ⟨rfl, r1, r2', rfl, rfl⟩ (Seals.trans (Seals.drop 0 _ _) (Seals.trans (Seals.drop 0 _ _) (Seals.trans (Seals.drop 0 _ _) (Seals.trans (Seals.drop 0 _ _) (Seals.trans (Seals.drop 0 _ _) (Seals.trans (Seals.drop 0 _ _) (Seals.sub (fs' := [(r1, zd (x / y)), (r2', zd (x % y))]) qS)))))))
open Go.RowKit
theorem sgn_neg {x : Int} (h : x < 0) : x.sign = -1 := Int.sign_eq_neg_one_of_neg h
theorem sgn_pos {x : Int} (h : 0 < x) : x.sign = 1 := Int.sign_eq_one_of_pos h
theorem cmp_val (x y : Int) : (x.sign < y.sign → (x - y).sign = -1) ∧ (y.sign < x.sign → (x - y).sign = 1) ∧ (x.sign = y.sign → x.sign * cmpN x.natAbs y.natAbs = (x - y).sign) := by
  rcases Int.lt_trichotomy x 0 with hx | hx | hx <;> rcases Int.lt_trichotomy y 0 with hy | hy | hy
  · rw [sgn_neg hx, sgn_neg hy]
    refine ⟨fun h => by omega, fun h => by omega, fun _ => ?_⟩
    unfold cmpN
    by_cases h1 : x.natAbs < y.natAbs
    · rw [if_pos h1, sgn_pos (show 0 < x - y by omega)]; rfl
    · rw [if_neg h1]
      by_cases h2 : y.natAbs < x.natAbs
      · rw [if_pos h2, sgn_neg (show x - y < 0 by omega)]; rfl
      · rw [if_neg h2, show x - y = 0 by omega]; rfl
  · rw [sgn_neg hx, hy]; exact ⟨fun _ => sgn_neg (by omega), fun h => by simp at h, fun h => by simp at h⟩
  · rw [sgn_neg hx, sgn_pos hy]; exact ⟨fun _ => sgn_neg (by omega), fun h => by omega, fun h => by omega⟩
  · rw [hx, sgn_neg hy]; exact ⟨fun h => by simp at h, fun _ => sgn_pos (by omega), fun h => by simp at h⟩
  · rw [hx, hy]; exact ⟨fun h => by omega, fun h => by omega, fun _ => by simp⟩
  · rw [hx, sgn_pos hy]; exact ⟨fun _ => sgn_neg (by omega), fun h => by simp at h, fun h => by simp at h⟩
  · rw [sgn_pos hx, sgn_neg hy]; exact ⟨fun h => by omega, fun _ => sgn_pos (by omega), fun h => by omega⟩
  · rw [sgn_pos hx, hy]; exact ⟨fun h => by simp at h, fun _ => sgn_pos (by omega), fun h => by simp at h⟩
  · rw [sgn_pos hx, sgn_pos hy]
    refine ⟨fun h => by omega, fun h => by omega, fun _ => ?_⟩
    unfold cmpN
    by_cases h1 : x.natAbs < y.natAbs
    · rw [if_pos h1, sgn_neg (show x - y < 0 by omega)]; rfl
    · rw [if_neg h1]
      by_cases h2 : y.natAbs < x.natAbs
      · rw [if_pos h2, sgn_pos (show 0 < x - y by omega)]; rfl
      · rw [if_neg h2, show x - y = 0 by omega]; rfl
theorem zCmpS (v w : Value) (x y : Bool × List Nat) (ha : Lim x.2) (hb : Lim y.2) (la : x.2.length ≤ 137438953472) (lb : y.2.length ≤ 137438953472) :
    Meets Tryz.prog 95 [v, w] [(v, J x), (w, J y)] (fun r os fs => os = [] ∧ fs = [] ∧ r = .int .i64 (jv x - jv y).sign) := by
  obtain ⟨s, a⟩ := x
  obtain ⟨t, b⟩ := y
  have hc := cmpN_range (nv a) (nv b)
  have hx : (iv s a).natAbs = nv a := iv_abs s a
  have hy : (iv t b).natAbs = nv b := iv_abs t b
  obtain ⟨k1, k2, k3⟩ := cmp_val (iv s a) (iv t b)
  rw [hx, hy] at k3
  have hsg : ∀ x : Int, -1 ≤ x.sign ∧ x.sign ≤ 1 := fun x => by
    rcases Int.lt_trichotomy x 0 with h | h | h
    · rw [Int.sign_eq_neg_one_of_neg h]; omega
    · rw [h]; simp
    · rw [Int.sign_eq_one_of_pos h]; omega
  have h1 := hsg (iv s a)
  have h2 := hsg (iv t b)
  have hp : -1 ≤ (iv s a).sign * cmpN (nv a) (nv b) ∧ (iv s a).sign * cmpN (nv a) (nv b) ≤ 1 := by
    have : (iv s a).sign = -1 ∨ (iv s a).sign = 0 ∨ (iv s a).sign = 1 := by omega
    rcases this with h | h | h <;> rw [h] <;> omega
  show Meets Tryz.prog 95 [v, w] [(v, I s a), (w, I t b)] (fun r os fs => os = [] ∧ fs = [] ∧ r = .int .i64 (iv s a - iv t b).sign)
  refine meets_of_vc Tryz.func95 (by kernel_rfl) rfl (by kernel_rfl) (Nat.le_of_ble_eq_true rfl) ?_
  refine box_rule (Reads.fact (d := I s a) qM) fun p hp' => ?_
  refine box_rule (Reads.fact (d := I t b) qM) fun q hq' => ?_
  refine draw_rule [0, 2, 1, 3, 4, 5] [0, 1, 2, 3, 4, 5] (by kernel_rfl) (by kernel_rfl) ?_
  refine load_box (d := I s a) 1 rfl hp' rfl (load_I _ _) fun y1 => ?_
  refine load_box (d := I t b) 0 rfl hq' rfl (load_I _ _) fun y2 => ?_
  refine call_fn (zsign_meets y1 s a ha la) (Seals.refl _ _) qS ?_
  rintro _ _ _ ⟨rfl, rfl, rfl⟩
  refine call_fn (zsign_meets y2 t b hb lb) (Seals.refl _ _) qS ?_
  rintro _ _ _ ⟨rfl, rfl, rfl⟩
  refine cmp_split _ rfl (fun hlt => ?_) (fun hlt => ?_)
  · rw [k1 hlt]
    exact fin ⟨rfl, rfl, rfl⟩ (Seals.trans (Seals.drop 0 _ _) (Seals.trans (Seals.drop 0 _ _) (Seals.nil _ _)))
  · refine cmp_split _ rfl (fun hgt => ?_) (fun hgt => ?_)
    · rw [k2 (by omega)]
      exact fin ⟨rfl, rfl, rfl⟩ (Seals.trans (Seals.drop 0 _ _) (Seals.trans (Seals.drop 0 _ _) (Seals.nil _ _)))
    · rw [← k3 (by omega)]
      refine field_box 1 rfl hp' ?_
      refine load_box_field 1 rfl (Part.right (Part.refl _)) (load_L _) fun u1 => ?_
      refine field_box 0 rfl hq' ?_
      refine load_box_field 0 rfl (Part.right (Part.refl _)) (load_L _) fun u2 => ?_
      refine call_fn (cmp_meets u1 u2 a b ha hb) (Seals.refl _ _) qS ?_
      rintro _ _ _ ⟨rfl, rfl, rfl⟩
      refine ar rfl qI ?_
      exact fin ⟨rfl, rfl, rfl⟩ (Seals.trans (Seals.drop 0 _ _) (Seals.trans (Seals.drop 0 _ _) (Seals.nil _ _)))
theorem zShr1 (v : Value) (s : Bool) (a : List Nat) (ha : Lim a) (la : a.length ≤ 137438953472) :
    Meets Tryz.prog 150 [v, .int .i64 1] [(v, I s a)] (fun r os fs => os = [] ∧ fs = [(r, zd (iv s a / 2))]) := by
  have hf : far 1 = 1 := by decide
  have h1 := fun u => shr_meets u a 1 ha (by omega)
  rw [hf] at h1
  have hll : (lims (nv a / 2 ^ 1)).length ≤ a.length := by
    refine lims_length_le ?_
    exact Nat.lt_of_le_of_lt (Nat.div_le_self _ _) (nv_lt ha)
  have h2 := fun u => shl_meets u (lims (nv a / 2 ^ 1)) 1 (Lim_lims _) (by omega)
  rw [hf, nv_lims] at h2
  have hll2 : (lims (nv a / 2 ^ 1 * 2 ^ 1)).length ≤ a.length := by
    refine lims_length_le ?_
    exact Nat.lt_of_le_of_lt (Nat.div_mul_le_self _ _) (nv_lt ha)
  have h3 := fun u u' => cmp_meets u u' (lims (nv a / 2 ^ 1 * 2 ^ 1)) a (Lim_lims _) ha
  rw [nv_lims] at h3
  have hc := cmpN_range (nv a / 2 ^ 1 * 2 ^ 1) (nv a)
  have h4 := fun u u' => add_meets u u' (lims (nv a / 2 ^ 1)) [1] (Lim_lims _) (fun x hx => by rw [List.mem_singleton.1 hx]; decide) (by omega) (by decide)
  rw [nv_lims, show nv [1] = 1 from rfl] at h4
  rw [Nat.pow_one] at *
  refine meets_of_vc Tryz.func150 (by kernel_rfl) rfl (by kernel_rfl) (Nat.le_of_ble_eq_true rfl) ?_
  refine box_rule (Reads.fact (d := I s a) qM) fun p hp => ?_
  refine alloc_rule (d := I false []) fun o ho => ?_
  refine field_box 1 rfl hp ?_
  refine load_box_field 1 rfl (Part.right (Part.refl _)) (load_L _) fun u1 => ?_
  refine call_fn (h1 u1) (Seals.refl _ _) qS ?_
  rintro m1 _ _ ⟨rfl, rfl⟩
  refine draw_rule [0, 1, 2, 3, 4, 6, 7, 5, 8, 9, 10] [0, 1, 2, 3, 4, 5, 6, 7, 8, 9, 10] (by kernel_rfl) (by kernel_rfl) ?_
  refine field_box 1 rfl hp ?_
  refine load_box_field_one 1 rfl (Part.left (Part.refl _)) ?_
  cases s with
  | false =>
    refine field_box 1 rfl hp ?_
    refine load_box_field_one 1 rfl (Part.left (Part.refl _)) ?_
    refine call_fn (made_of m1 false (nv a / 2) (iv false a / 2) (by simp [iv])) (Seals.refl _ _) qS ?_
    rintro z _ _ ⟨rfl, rfl⟩
    refine store_box (d := zd (iv false a / 2)) 0 rfl ho rfl (by kernel_rfl) (Reads.fact (v := z) qM) ?_
    refine load_box (d := zd (iv false a / 2)) 0 rfl ho rfl (load_I _ _) fun r => ?_
    exact fin ⟨rfl, rfl⟩ (Seals.trans (Seals.drop 0 _ _) (Seals.trans (Seals.drop 0 _ _) (Seals.sub (fs' := [(r, zd (iv false a / 2))]) qS)))
  | true =>
    refine field_box 1 rfl hp ?_
    refine load_box_field 1 rfl (Part.right (Part.refl _)) (load_L _) fun u2 => ?_
    refine call_fn (h2 m1) (Seals.refl _ _) qS ?_
    rintro m2 _ _ ⟨rfl, rfl⟩
    refine call_fn (h3 m2 u2) (Seals.refl _ _) qS ?_
    rintro _ _ _ ⟨rfl, rfl, rfl⟩
    refine cmp_split _ rfl (fun hne => ?_) (fun hne => ?_)
    · have hodd : nv a / 2 * 2 ≠ nv a := fun e => hne (hc.2.2.2 e)
      refine lit_U 1 rfl fun q1 => ?_
      refine call_fn (h4 m1 q1) (Seals.refl _ _) qS ?_
      rintro m3 _ _ ⟨rfl, rfl⟩
      refine field_box 1 rfl hp ?_
      refine load_box_field_one 1 rfl (Part.left (Part.refl _)) ?_
      refine call_fn (made_of m3 true (nv a / 2 + 1) (iv true a / 2) (by simp [iv]; omega)) (Seals.refl _ _) qS ?_
      rintro z _ _ ⟨rfl, rfl⟩
      refine store_box (d := zd (iv true a / 2)) 0 rfl ho rfl (by kernel_rfl) (Reads.fact (v := z) qM) ?_
      refine load_box (d := zd (iv true a / 2)) 0 rfl ho rfl (load_I _ _) fun r => ?_
      exact fin ⟨rfl, rfl⟩ (Seals.trans (Seals.drop 0 _ _) (Seals.trans (Seals.drop 0 _ _) (Seals.sub (fs' := [(r, zd (iv true a / 2))]) qS)))
    · have hev : nv a / 2 * 2 = nv a := hc.2.2.1 (by omega)
      refine field_box 1 rfl hp ?_
      refine load_box_field_one 1 rfl (Part.left (Part.refl _)) ?_
      refine call_fn (made_of m1 true (nv a / 2) (iv true a / 2) (by simp [iv]; omega)) (Seals.refl _ _) qS ?_
      rintro z _ _ ⟨rfl, rfl⟩
      refine store_box (d := zd (iv true a / 2)) 0 rfl ho rfl (by kernel_rfl) (Reads.fact (v := z) qM) ?_
      refine load_box (d := zd (iv true a / 2)) 0 rfl ho rfl (load_I _ _) fun r => ?_
      exact fin ⟨rfl, rfl⟩ (Seals.trans (Seals.drop 0 _ _) (Seals.trans (Seals.drop 0 _ _) (Seals.sub (fs' := [(r, zd (iv true a / 2))]) qS)))
theorem rtSign_meets (v w : Value) (p : Row) (x : Bool × List Nat) (k a : Nat) (hp : Fit k p) (hxl : Lim x.2) (hxa : x.2.length ≤ a) (hk : k + (p.length + 1) * (a + 1) ≤ 137438953472) (lp : p.length ≤ 1073741824) :
    Meets Tryz.prog 112 [v, w] [(v, V p), (w, J x)] (fun r os fs => os = [] ∧ fs = [] ∧ r = .int .i64 (pev (vv p) (jv x)).sign) := by
  have hsz : sz (pev (vv p) (jv x)) 137438953472 := (ev_sz hp.szR (sz_jv hxl hxa)).mono (by rw [vv_len]; rw [Nat.add_mul] at hk; omega)
  refine meets_of_vc Tryz.func112 (by kernel_rfl) rfl (by kernel_rfl) (Nat.le_of_ble_eq_true rfl) ?_
  refine box_rule (Reads.fact (d := J x) qM) fun q hq => ?_
  refine load_box (d := J x) 0 rfl hq rfl (load_J _) fun y => ?_
  refine call_fn (pValueJ v y p x k a hp hxl hxa hk lp) (Seals.refl _ _) qS ?_
  rintro z _ _ ⟨rfl, rfl⟩
  refine call_fn (zSignZ z _ _ hsz (Nat.le_refl _)) (Seals.refl _ _) qS ?_
  rintro _ _ _ ⟨rfl, rfl, rfl⟩
  exact fin ⟨rfl, rfl, rfl⟩ (Seals.trans (Seals.drop 0 _ _) (Seals.nil _ _))
theorem sgn_mul {s t : Int} : (s.sign ≠ 0 ∧ s.sign = -t.sign) ↔ s * t < 0 := by
  rcases Int.lt_trichotomy s 0 with h | h | h <;> rcases Int.lt_trichotomy t 0 with g | g | g
  · rw [sgn_neg h, sgn_neg g]; have := Int.mul_pos_of_neg_of_neg h g; omega
  · rw [g]; simp [sgn_neg h]
  · rw [sgn_neg h, sgn_pos g]; have := Int.mul_neg_of_neg_of_pos h g; omega
  · rw [h]; simp
  · rw [h]; simp
  · rw [h]; simp
  · rw [sgn_pos h, sgn_neg g]; have := Int.mul_neg_of_pos_of_neg h g; omega
  · rw [g]; simp [sgn_pos h]
  · rw [sgn_pos h, sgn_pos g]; have := Int.mul_pos h g; omega
theorem turns_meets (v w : Value) (m : List Row) (x : Bool × List Nat) (k a n : Nat) (hm : ∀ r, r ∈ m → Fit k r ∧ r.length ≤ n) (hxl : Lim x.2) (hxa : x.2.length ≤ a) (hk : k + (n + 1) * (a + 1) ≤ 137438953472) (ln : n ≤ 1073741824) (lm : m.length ≤ 1073741824) :
    Meets Tryz.prog 148 [v, w] [(v, W m), (w, J x)] (fun r os fs => os = [] ∧ fs = [] ∧ r = .int .i64 (vs 0 (m.map fun r => pev (vv r) (jv x)) : Nat)) := by
  refine meets_of_vc Tryz.func148 (by kernel_rfl) rfl (by kernel_rfl) (Nat.le_of_ble_eq_true rfl) ?_
  refine box_rule (Reads.fact (d := J x) qM) fun q hq => ?_
  refine len_fact (v := v) qM fun _ => ?_
  refine loop_rule (X := Nat × Nat × Int) (fun y => ([(3, q), (5, .int .i64 (y.2.1 : Nat)), (6, .int .i64 y.2.2.sign), (10, v), (11, .int .i64 (m.length : Nat)), (12, .int .i64 (y.1 : Nat))], [own1 q 2 1 (fun _ => J x)], [(v, W m)]))
    (fun y => y.1 ≤ m.length ∧ y.2.1 ≤ y.1 ∧ y.2.1 + vs y.2.2 ((m.drop y.1).map fun r => pev (vv r) (jv x)) = vs 0 (m.map fun r => pev (vv r) (jv x))) (fun y => m.length - y.1) rfl ?_ ?_
  · exact again (0, 0, 0) ⟨Nat.zero_le _, Nat.le_refl _, by simp only [List.drop_zero]; omega⟩ trivial qF (Seals.trans (Seals.box0 rfl) (Seals.sub qS))
  rintro ⟨i, c, t⟩ ⟨hi, hc, he⟩
  simp only at hi hc he ⊢
  refine cmp_split _ rfl (fun hlt => ?_) (fun hlt => ?_)
  · have hin : i < m.length := by omega
    have hmem : m.getD i [] ∈ m := getD_mem [] hin
    obtain ⟨g1, g2⟩ := hm _ hmem
    have hstep : vs t ((m.drop i).map fun r => pev (vv r) (jv x)) = if pev (vv (m.getD i [])) (jv x) = 0 then vs t ((m.drop (i + 1)).map fun r => pev (vv r) (jv x)) else (if pev (vv (m.getD i [])) (jv x) * t < 0 then 1 else 0) + vs (pev (vv (m.getD i [])) (jv x)) ((m.drop (i + 1)).map fun r => pev (vv r) (jv x)) := by
      rw [List.drop_eq_getElem_cons hin, List.map_cons]
      have : m[i] = m.getD i [] := by rw [List.getD_eq_getElem?_getD, List.getElem?_eq_getElem hin]; rfl
      rw [this]; rfl
    rw [hstep] at he
    have hmul : (m.getD i []).length * (a + 1) ≤ n * (a + 1) := Nat.mul_le_mul_right _ g2
    have hsg := fun u u' => rtSign_meets u u' (m.getD i []) x k a g1 hxl hxa (by have e1 := Nat.add_one_mul n (a + 1); have e2 := Nat.add_one_mul (m.getD i []).length (a + 1); omega) (by omega)
    generalize hy : pev (vv (m.getD i [])) (jv x) = y at *
    have hsb : y.sign = -1 ∨ y.sign = 0 ∨ y.sign = 1 := by
      rcases Int.lt_trichotomy y 0 with h | h | h
      · rw [sgn_neg h]; omega
      · rw [h]; simp
      · rw [sgn_pos h]; omega
    have htb : t.sign = -1 ∨ t.sign = 0 ∨ t.sign = 1 := by
      rcases Int.lt_trichotomy t 0 with h | h | h
      · rw [sgn_neg h]; omega
      · rw [h]; simp
      · rw [sgn_pos h]; omega
    refine index_fact (v := v) qM i rfl (by omega) fun a1 => ?_
    refine load_fact (d := V (m.getD i [])) qM (load_P _) fun a2 => ?_
    refine load_box (d := J x) 0 rfl hq rfl (load_J _) fun y1 => ?_
    refine call_fn (hsg a2 y1) (Seals.refl _ _) qS ?_
    rintro _ _ _ ⟨rfl, rfl, rfl⟩
    refine cmp_split _ rfl (fun h0 => ?_) (fun h0 => ?_)
    · have hy0 : y ≠ 0 := fun e => h0 (by rw [e]; rfl)
      rw [if_neg hy0] at he
      refine un_neg (m := -t.sign) (by rw [wrap_in (show inK .i64 (0 - t.sign) from ⟨by omega, by omega⟩)]; omega) ?_
      refine cmp_split _ rfl (fun h1 => ?_) (fun h1 => ?_)
      · have hneg : y * t < 0 := sgn_mul.1 ⟨h0, h1⟩
        rw [if_pos hneg] at he
        refine ar rfl qI ?_
        refine cmp_true rfl h0 ?_
        refine ar rfl qI ?_
        exact again (i + 1, c + 1, y) ⟨by simp only; omega, by simp only; omega, by simp only; omega⟩ (by simp only; omega) qF (Seals.sub (fs' := [(v, W m)]) qS)
      · have hneg : ¬ y * t < 0 := fun h => h1 (sgn_mul.2 h).2
        rw [if_neg hneg] at he
        refine cmp_true rfl h0 ?_
        refine ar rfl qI ?_
        exact again (i + 1, c, y) ⟨by simp only; omega, by simp only; omega, by simp only; omega⟩ (by simp only; omega) qF (Seals.sub (fs' := [(v, W m)]) qS)
    · have hy0 : y = 0 := Int.sign_eq_zero_iff_zero.1 (by omega)
      rw [if_pos hy0] at he
      refine cmp_false rfl h0 ?_
      refine ar rfl qI ?_
      exact again (i + 1, c, t) ⟨by simp only; omega, by simp only; omega, by simp only; omega⟩ (by simp only; omega) qF (Seals.sub (fs' := [(v, W m)]) qS)
  · have hin : i = m.length := by omega
    subst hin
    rw [List.drop_length] at he
    have he' : c = vs 0 (m.map fun r => pev (vv r) (jv x)) := by simpa [vs] using he
    rw [← he']
    exact fin ⟨rfl, rfl, rfl⟩ (Seals.trans (Seals.drop 0 _ _) (Seals.nil _ _))
open Go.RowKit
theorem deg_dg (l : List Int) : deg l = (dg l : Int) - 1 := by
  have h1 := degTo_le l l.length (dg l) (dg_le_len l) fun j h _ => dg_le.1 (Nat.le_refl _) j h
  unfold deg
  rw [h1]
  by_cases h0 : dg l = 0
  · rw [h0]; rfl
  · have h2 := ld_ne (l := l) (by omega)
    unfold ld at h2
    obtain ⟨m, hm⟩ : ∃ m, dg l = m + 1 := ⟨dg l - 1, by omega⟩
    rw [hm] at h2 ⊢
    simp only [degTo, Nat.add_sub_cancel] at h2 ⊢
    rw [if_neg h2]; omega
theorem rNormP_meets (v : Value) (p : Row) (hp : Fit 137438953472 p) (lp : p.length ≤ 536870912) :
    Meets Tryz.prog 133 [v] [(v, V p)] (fun r os fs => os = [] ∧ fs = [(r, vd (nrm (vv p)))]) := by
  have hd := rDegree_meets v p (hp.mono (by decide))
  rw [deg_dg] at hd
  have hdl : dg (vv p) ≤ p.length := Nat.le_trans (dg_le_len _) (by rw [vv_len]; exact Nat.le_refl _)
  have hfin : lst (dg (vv p)) (fun i => (vv p).getD i 0) = nrm (vv p) := row_eq_of_getD 0 (by rw [lst_len]; rfl) fun j hj => by
    rw [lst_len] at hj
    rw [lst_get hj, co_nrm]
  have hat : ∀ i : Nat, Meets Tryz.prog 109 [v, .int .i64 (i : Nat)] [(v, V p)] (fun r os fs => os = [] ∧ fs = [(r, zd ((vv p).getD i 0))]) := fun i => by
    have := rAt_meets v p (i : Nat) (hp.mono (by decide))
    rw [if_neg (by omega), Int.toNat_natCast] at this
    exact this
  generalize hn : dg (vv p) = n at *
  generalize hg : (fun i => (vv p).getD i 0) = g at *
  have hat' : ∀ i : Nat, Meets Tryz.prog 109 [v, .int .i64 (i : Nat)] [(v, V p)] (fun r os fs => os = [] ∧ fs = [(r, zd (g i))]) := fun i => by rw [← hg]; exact hat i
  rw [← hfin]
  refine meets_of_vc Tryz.func133 (by kernel_rfl) rfl (by kernel_rfl) (Nat.le_of_ble_eq_true rfl) ?_
  refine call_fn hd (Seals.refl _ _) qS ?_
  rintro _ _ _ ⟨rfl, rfl, rfl⟩
  refine ar rfl qI ?_
  refine empty_L (size := 2) (e := 26) J z0 (by decide) fun v0 hv0 => ?_
  refine loop_rule (X := Value × Nat) (fun x => ([(0, v), (3, .int .i64 (n : Nat)), (4, x.1), (5, .int .i64 (x.2 : Nat))], [ownL 2 J z0 x.1 ((lst x.2 g).map cn)], [(v, V p)])) (fun x => isSl x.1 ∧ x.2 ≤ n) (fun x => n - x.2) rfl ?_ ?_
  · exact again (v0, 0) ⟨hv0, Nat.zero_le _⟩ trivial qF (Seals.sub qS)
  · rintro ⟨vo, i⟩ ⟨hvo, h2⟩
    simp only at hvo h2 ⊢
    refine cmp_split _ rfl (fun hlt => ?_) (fun hlt => ?_)
    · have hll : (lst i g).length = i := lst_len _ _
      refine call_fn (hat' i) (Seals.refl _ _) qS ?_
      rintro y1 _ _ ⟨rfl, rfl⟩
      refine lit_L (size := 2) (f := J) (z := z0) (e := 26) (cn (g i)) (by decide) (Reads.fact qM) rfl fun y4 => ?_
      refine append_L (size := 2) (e := 26) (f := J) (z := z0) (l := (lst i g).map cn) (m := [cn (g i)]) 0 rfl hvo (Knw.fact qM) (by simp only [List.length_map, hll, List.length_cons, List.length_nil]; omega) (by simp only [List.length_map, hll, List.length_cons, List.length_nil]; omega) fun vn hvn => ?_
      refine ar rfl qI ?_
      refine again (vn, i + 1) ⟨hvn, by simp only; omega⟩ (by simp only; omega) qF ?_
      rw [show (lst i g).map cn ++ [cn (g i)] = (lst (i + 1) g).map cn by rw [lst_snoc, List.map_append]; rfl]
      exact Seals.sub qS
    · have hii : i = n := by omega
      subst hii
      exact fin ⟨rfl, rfl⟩ (Seals.trans (Seals.toldL hvo) (Seals.sub qS))
open Go.RowKit
theorem rNormT (v : Value) (l : List Int) (hl : szR 137438953472 l) (ll : l.length ≤ 536870912) :
    Meets Tryz.prog 133 [v] [(v, vd l)] (fun r os fs => os = [] ∧ fs = [(r, vd (nrm l))]) := by
  have h := rNormP_meets v (l.map cn) hl.fit (by rw [List.length_map]; exact ll)
  rw [vv_cn] at h
  exact h
open Go.RowKit
theorem rAtN (v : Value) (p : Row) (hp : Fit 1099511627776 p) (i : Nat) : Meets Tryz.prog 109 [v, .int .i64 (i : Nat)] [(v, V p)] (fun r os fs => os = [] ∧ fs = [(r, zd ((vv p).getD i 0))]) := by
  have := rAt_meets v p (i : Nat) hp
  rw [if_neg (by omega), Int.toNat_natCast] at this
  exact this
theorem rPAdd_meets (v w : Value) (p q : Row) (k : Nat) (hp : Fit k p) (hq : Fit k q) (hk : k + 1 ≤ 137438953472) (lp : p.length ≤ 536870912) (lq : q.length ≤ 536870912) :
    Meets Tryz.prog 105 [v, w] [(v, V p), (w, V q)] (fun r os fs => os = [] ∧ fs = [(r, vd (padd (vv p) (vv q)))]) := by
  have a1 := rAtN v p (hp.mono (by omega))
  have a2 := rAtN w q (hq.mono (by omega))
  have hsz : szR (k + 1) (lst (max p.length q.length) fun i => (vv p).getD i 0 + (vv q).getD i 0) := szR.lst fun i _ => by
    have := sz_sub (hp.szR.get i) ((hq.szR.get i).neg)
    rwa [Int.sub_neg] at this
  have hn := fun u => rNormT u (lst (max p.length q.length) fun i => (vv p).getD i 0 + (vv q).getD i 0) (hsz.mono hk) (by rw [lst_len]; omega)
  have hdef : padd (vv p) (vv q) = nrm (lst (max p.length q.length) fun i => (vv p).getD i 0 + (vv q).getD i 0) := by unfold padd; rw [vv_len, vv_len]
  have had := fun u u' i => rAddZ u u' ((vv p).getD i 0) ((vv q).getD i 0) k (hp.szR.get i) (hq.szR.get i) (by omega)
  rw [hdef]
  generalize hg : (fun i => (vv p).getD i 0 + (vv q).getD i 0) = g at *
  have had' : ∀ u u' i, Meets Tryz.prog 36 [u, u'] [(u, zd ((vv p).getD i 0)), (u', zd ((vv q).getD i 0))] (fun r os fs => os = [] ∧ fs = [(r, zd (g i))]) := fun u u' i => by
    rw [← hg]; exact had u u' i
  generalize hm : max p.length q.length = m at *
  refine meets_of_vc Tryz.func105 (by kernel_rfl) rfl (by kernel_rfl) (Nat.le_of_ble_eq_true rfl) ?_
  refine empty_L (size := 2) (e := 26) J z0 (by decide) fun v0 hv0 => ?_
  refine loop_rule (X := Value × Nat) (fun x => ([(0, v), (1, w), (5, x.1), (6, .int .i64 (x.2 : Nat))], [ownL 2 J z0 x.1 ((lst x.2 g).map cn)], [(v, V p), (w, V q)])) (fun x => isSl x.1 ∧ x.2 ≤ m) (fun x => m - x.2) rfl ?_ ?_
  · exact again (v0, 0) ⟨hv0, Nat.zero_le _⟩ trivial qF (Seals.sub qS)
  · rintro ⟨vo, i⟩ ⟨hvo, h2⟩
    simp only at hvo h2 ⊢
    refine len_fact qM fun _ => ?_
    refine len_fact qM fun _ => ?_
    refine max2_rule ?_
    refine cmp_split _ rfl (fun hlt => ?_) (fun hlt => ?_)
    · have hin : i < m := by omega
      have hll : (lst i g).length = i := lst_len _ _
      refine call_fn (a1 i) (Seals.refl _ _) qS ?_
      rintro y1 _ _ ⟨rfl, rfl⟩
      refine call_fn (a2 i) (Seals.refl _ _) qS ?_
      rintro y2 _ _ ⟨rfl, rfl⟩
      refine call_fn (had' y1 y2 i) (Seals.refl _ _) qS ?_
      rintro y3 _ _ ⟨rfl, rfl⟩
      refine lit_L (size := 2) (f := J) (z := z0) (e := 26) (cn (g i)) (by decide) (Reads.fact qM) rfl fun y4 => ?_
      refine append_L (size := 2) (e := 26) (f := J) (z := z0) (l := (lst i g).map cn) (m := [cn (g i)]) 0 rfl hvo (Knw.fact qM) (by simp only [List.length_map, hll, List.length_cons, List.length_nil]; omega) (by simp only [List.length_map, hll, List.length_cons, List.length_nil]; omega) fun vn hvn => ?_
      refine ar rfl qI ?_
      refine again (vn, i + 1) ⟨hvn, by simp only; omega⟩ (by simp only; omega) qF ?_
      rw [show (lst i g).map cn ++ [cn (g i)] = (lst (i + 1) g).map cn by rw [lst_snoc, List.map_append]; rfl]
      exact Seals.sub qS
    · have hii : i = m := by omega
      subst hii
      refine call_fn (hn vo) (Seals.toldL hvo) qS ?_
      rintro r _ _ ⟨rfl, rfl⟩
      exact fin ⟨rfl, rfl⟩ (Seals.sub qS)
open Go.RowKit
theorem rDegreeN (v : Value) (p : Row) (hp : Fit 1099511627776 p) :
    Meets Tryz.prog 29 [v] [(v, V p)] (fun r os fs => os = [] ∧ fs = [] ∧ r = .int .i64 ((dg (vv p) : Nat) - 1 : Int)) := by
  have := rDegree_meets v p hp
  rw [deg_dg] at this; exact this
theorem rMulZZ' (v w : Value) (x y : Int) (e : Nat) (hx : sz x e) (hy : sz y e) (he : e ≤ 137438953472) :
    Meets Tryz.prog 41 [v, w] [(v, zd x), (w, zd y)] (fun r os fs => os = [] ∧ fs = [(r, zd (x * y))]) := by
  have h := rMulZJ v w x (cn y) e hx he (Lim_lims _) (Nat.le_trans hy.len he)
  rw [jv_cn] at h
  exact h
theorem conv_none {a b : List Int} {y : Nat} : ∀ {i : Nat}, (∀ t, t < i → t ≤ y → b.length ≤ y - t) → conv a b i y = 0
  | 0, _ => rfl
  | i + 1, h => by
    rw [conv_succ, conv_none fun t ht hy => h t (by omega) hy]
    split
    · rw [getD_none (h i (by omega) (by omega))]; simp
    · rfl
theorem conv_more {a b : List Int} {y i : Nat} : ∀ (d : Nat), (y < i ∨ a.length ≤ i) → conv a b (i + d) y = conv a b i y
  | 0, _ => rfl
  | d + 1, h => by
    rw [← Nat.add_assoc, conv_succ, conv_more d h]
    split
    · rcases h with h | h
      · omega
      · rw [getD_none (l := a) (by omega)]; simp
    · simp
theorem rPMul_meets (v w : Value) (p q : Row) (k j : Nat) (hp : Fit k p) (hq : Fit j q) (hk : k + j + 1 ≤ 137438953472) (lp : p.length ≤ 268435456) (lq : q.length ≤ 268435456) :
    Meets Tryz.prog 108 [v, w] [(v, V p), (w, V q)] (fun r os fs => os = [] ∧ fs = [(r, vd (pmul (vv p) (vv q)))]) := by
  have d1 := rDegreeN v p (hp.mono (by omega))
  have d2 := rDegreeN w q (hq.mono (by omega))
  have a1 := rAtN v p (hp.mono (by omega))
  have a2 := rAtN w q (hq.mono (by omega))
  have sa := hp.szR.nrm
  have sb := hq.szR.nrm
  have la : (nrm (vv p)).length ≤ p.length := Nat.le_trans (nrm_length_le _) (by rw [vv_len]; exact Nat.le_refl _)
  have lb : (nrm (vv q)).length ≤ q.length := Nat.le_trans (nrm_length_le _) (by rw [vv_len]; exact Nat.le_refl _)
  have e1 : ∀ i, (vv p).getD i 0 = (nrm (vv p)).getD i 0 := fun i => (co_nrm _ _).symm
  have e2 : ∀ i, (vv q).getD i 0 = (nrm (vv q)).getD i 0 := fun i => (co_nrm _ _).symm
  have hdef : pmul (vv p) (vv q) = if nrm (vv p) = [] ∨ nrm (vv q) = [] then [] else nrm (lst ((nrm (vv p)).length + (nrm (vv q)).length - 1) fun y => conv (nrm (vv p)) (nrm (vv q)) (nrm (vv p)).length y) := rfl
  have hdg1 : dg (vv p) = (nrm (vv p)).length := rfl
  have hdg2 : dg (vv q) = (nrm (vv q)).length := rfl
  rw [hdef]
  simp only [e1] at a1
  simp only [e2] at a2
  rw [hdg1] at d1
  rw [hdg2] at d2
  generalize nrm (vv p) = a at *
  generalize nrm (vv q) = b at *
  have hcs : ∀ m y, m ≤ a.length → sz (conv a b m y) (k + j + 1) := fun m y hm => conv_sz sa sb (by omega) y
  have hn := fun u n => rNormT u (lst n fun y => conv a b a.length y) ((szR.lst fun i _ => hcs _ _ (Nat.le_refl _)).mono hk)
  have hpr : ∀ i t, sz (a.getD i 0 * b.getD t 0) (k + j + 1) := fun i t => ((sa.get i).mul (sb.get t)).mono (by omega)
  refine meets_of_vc Tryz.func108 (by kernel_rfl) rfl (by kernel_rfl) (Nat.le_of_ble_eq_true rfl) ?_
  refine empty_L (size := 2) (e := 26) J z0 (by decide) fun v0 hv0 => ?_
  refine call_fn d1 (Seals.refl _ _) qS ?_
  rintro _ _ _ ⟨rfl, rfl, rfl⟩
  refine call_fn d2 (Seals.refl _ _) qS ?_
  rintro _ _ _ ⟨rfl, rfl, rfl⟩
  generalize hg : (fun y => conv a b a.length y) = g at *
  have hgi : ∀ y, conv a b a.length y = g y := fun y => by rw [← hg]
  refine loop_rule (X := Nat × Value) (fun x => ([(0, v), (1, w), (5, x.2), (6, .int .i64 ((a.length : Nat) - 1 : Int)), (7, .int .i64 ((b.length : Nat) - 1 : Int)), (8, .int .i64 (x.1 : Nat))], [ownL 2 J z0 x.2 ((lst x.1 g).map cn)], [(v, V p), (w, V q)]))
    (fun x => isSl x.2 ∧ (a.length = 0 ∨ b.length = 0 → x.1 = 0) ∧ x.1 ≤ a.length + b.length - 1) (fun x => a.length + b.length - x.1) rfl ?_ ?_
  · exact again (0, v0) ⟨hv0, fun _ => rfl, Nat.zero_le _⟩ trivial qF (Seals.sub qS)
  · rintro ⟨y, vo⟩ ⟨hvo, hz, hy1⟩
    simp only at hvo hz hy1 ⊢
    have hll : (lst y g).length = y := lst_len _ _
    refine cmp_split _ rfl (fun h1 => ?_) (fun h1 => ?_)
    · refine cmp_split _ rfl (fun h2 => ?_) (fun h2 => ?_)
      · have hA : 0 < a.length := by omega
        have hB : 0 < b.length := by omega
        refine ar rfl qI ?_
        refine cmp_split _ rfl (fun h3 => ?_) (fun h3 => ?_)
        · have hy : y + 2 ≤ a.length + b.length := by omega
          refine build0 (da := .one (.bool false)) (db := U (lims 0)) (fun S w => ⟨[.bool false], [.slice none 0 0], rfl, rd_false S w, by rw [lims_zero]; exact rd_nil S w 1 _⟩) fun z => ?_
          refine alloc_rule (d := I false []) fun c hc => ?_
          refine store_box (d := zd 0) 0 rfl hc rfl (by kernel_rfl) ?_ ?_; exact Reads.fact qM
          refine ar rfl qI ?_
          refine max2_rule ?_
          have h00 : conv a b (y + 1 - b.length) y = 0 := conv_none fun t ht hty => by omega
          refine loop_rule (X := Nat) (fun i => ([(0, v), (1, w), (5, vo), (6, .int .i64 ((a.length : Nat) - 1 : Int)), (7, .int .i64 ((b.length : Nat) - 1 : Int)), (8, .int .i64 (y : Nat)), (9, c), (10, .int .i64 (i : Nat))], [own1 c 2 1 (fun _ => zd (conv a b i y)), ownL 2 J z0 vo ((lst y g).map cn)], [(v, V p), (w, V q)]))
            (fun i => i ≤ a.length ∧ i ≤ y + 1) (fun i => a.length - i) rfl ?_ ?_
          · exact again (y + 1 - b.length) ⟨by omega, by omega⟩ trivial ⟨rfl, rfl, rfl, rfl, rfl, rfl, rfl, i64_eq (by omega), trivial⟩ (Seals.trans (Seals.box0 (by rw [h00]; rfl)) (Seals.sub qS))
          · rintro i ⟨hi1, hi2⟩
            simp only at hi1 hi2 ⊢
            refine min2_rule ?_
            refine cmp_split _ rfl (fun h4 => ?_) (fun h4 => ?_)
            · have hia : i < a.length := by omega
              have hiy : i ≤ y := by omega
              have hat := a2 (y - i)
              rw [show ((y - i : Nat) : Int) = (y : Int) - (i : Int) by omega] at hat
              have hsum : conv a b i y + a.getD i 0 * b.getD (y - i) 0 = conv a b (i + 1) y := by rw [conv_succ, if_pos hiy]
              have hadd := fun u u' => rAddZ u u' _ _ (k + j + 1) (hcs i y (by omega)) (hpr i (y - i)) hk
              rw [hsum] at hadd
              refine draw_rule [0, 1, 2, 4, 5, 6, 7, 3, 8, 9, 10, 11] [0, 1, 2, 3, 4, 5, 6, 7, 8, 9, 10, 11] (by kernel_rfl) (by kernel_rfl) ?_
              refine load_box (d := zd (conv a b i y)) 0 rfl hc rfl (load_I _ _) fun y1 => ?_
              refine ar rfl qI ?_
              refine call_fn (a1 i) (Seals.refl _ _) qS ?_
              rintro y2 _ _ ⟨rfl, rfl⟩
              refine call_fn hat (Seals.refl _ _) qS ?_
              rintro y3 _ _ ⟨rfl, rfl⟩
              refine call_fn (rMulZZ' y2 y3 _ _ (k + j + 1) ((sa.get i).mono (by omega)) ((sb.get (y - i)).mono (by omega)) hk) (Seals.refl _ _) qS ?_
              rintro y4 _ _ ⟨rfl, rfl⟩
              refine call_fn (hadd y1 y4) (Seals.refl _ _) qS ?_
              rintro y5 _ _ ⟨rfl, rfl⟩
              refine store_box (d := zd (conv a b (i + 1) y)) 0 rfl hc rfl (by kernel_rfl) ?_ ?_; exact Reads.fact qM
              refine ar rfl qI ?_
              exact again (i + 1) ⟨by omega, by omega⟩ (by simp only; omega) qF (Seals.trans (Seals.box0 rfl) (Seals.sub qS))
            · have hfin : conv a b i y = g y := by
                rw [← hgi]
                obtain ⟨d, hd⟩ : ∃ d, a.length = i + d := ⟨a.length - i, by omega⟩
                rw [hd]
                exact (conv_more d (by omega)).symm
              rw [hfin]
              refine load_box (d := zd (g y)) 0 rfl hc rfl (load_I _ _) fun y6 => ?_
              refine lit_L (size := 2) (f := J) (z := z0) (e := 26) (cn (g y)) (by decide) (Reads.fact qM) rfl fun y7 => ?_
              refine append_L (size := 2) (e := 26) (f := J) (z := z0) (l := (lst y g).map cn) (m := [cn (g y)]) 1 rfl hvo (Knw.fact qM) (by simp only [List.length_map, hll, List.length_cons, List.length_nil]; omega) (by simp only [List.length_map, hll, List.length_cons, List.length_nil]; omega) fun vn hvn => ?_
              refine ar rfl qI ?_
              refine again (y + 1, vn) ⟨hvn, fun h => by omega, by simp only; omega⟩ (by simp only; omega) qF ?_
              rw [show (lst y g).map cn ++ [cn (g y)] = (lst (y + 1) g).map cn by rw [lst_snoc, List.map_append]; rfl]
              exact Seals.trans (Seals.drop 0 _ _) (Seals.sub qS)
        · by_cases hy0 : y = a.length + b.length - 1
          · have hne : ¬ (a = [] ∨ b = []) := fun h => h.elim (fun e => by rw [e] at hA; simp at hA) fun e => by rw [e] at hB; simp at hB
            rw [if_neg hne, ← hy0]
            refine call_fn (hn vo y (by rw [lst_len]; omega)) (Seals.toldL hvo) qS ?_
            rintro r _ _ ⟨rfl, rfl⟩
            exact fin ⟨rfl, rfl⟩ (Seals.sub qS)
          · omega
      · have hB : b = [] := List.eq_nil_of_length_eq_zero (by omega)
        have hy0 := hz (.inr (by rw [hB]; rfl))
        subst hy0
        rw [if_pos (.inr hB)]
        refine call_fn (hn vo 0 (by rw [lst_len]; omega)) (Seals.toldL hvo) qS ?_
        rintro r _ _ ⟨rfl, rfl⟩
        exact fin ⟨rfl, rfl⟩ (Seals.sub qS)
    · have hA : a = [] := List.eq_nil_of_length_eq_zero (by omega)
      have hy0 := hz (.inl (by rw [hA]; rfl))
      subst hy0
      rw [if_pos (.inl hA)]
      refine call_fn (hn vo 0 (by rw [lst_len]; omega)) (Seals.toldL hvo) qS ?_
      rintro r _ _ ⟨rfl, rfl⟩
      exact fin ⟨rfl, rfl⟩ (Seals.sub qS)
open Go.RowKit
theorem Seals.madeR' {v : Value} {vs : Nat → Value} {m : List Row} {n : Nat} {os : List Own} {fs : List Fact} (hn : m.length = n) (hv : isSl v) (hs : ∀ i, i < n → isSl (vs i)) :
    Seals (famR vs m :: outer v n vs :: os) fs os ((v, W m) :: fs) := by subst hn; exact Seals.madeR hv hs
open Go.RowKit
end Go.Proofs.YtjebljkoiaojaaaGreat
namespace Go.Proofs.YtjebljkoiaojaaaGreat
theorem kernel_det {n : Nat} {A : Mx} {u : Nat → Int} {i : Nat} (hi : i < n) (hu : u i ≠ 0) (h : ∀ j, j < n → isum (fun i => u i * A i j) n = 0) : det n A = 0 := by
  obtain ⟨n, rfl⟩ : ∃ m, n = m + 1 := ⟨n - 1, by omega⟩
  have h1 : isum (fun j => isum (fun k => u k * A k j) (n + 1) * adj n A j i) (n + 1) = 0 := isum_zero fun k hk => by rw [h k hk]; simp
  rw [isum_congr (g' := fun j => isum (fun k => u k * (A k j * adj n A j i)) (n + 1)) fun j _ => by
    rw [← isum_mul_right]; exact isum_congr fun k _ => by grind, isum_swap,
    isum_congr (g' := fun k => u k * (if k = i then det (n + 1) A else 0)) fun k hk => by rw [isum_mul, ← mul_adj A hk hi]; rfl,
    isum_one hi fun k _ hk => by rw [if_neg hk]; simp, if_pos rfl] at h1
  rcases Int.mul_eq_zero.1 h1 with h2 | h2
  · exact absurd h2 hu
  · exact h2
theorem isum_rev (g : Nat → Int) : ∀ n, isum (fun k => g (n - 1 - k)) n = isum g n
  | 0 => rfl
  | n + 1 => by
    rw [isum_front]
    show g (n + 1 - 1 - 0) + isum (fun k => g (n + 1 - 1 - (k + 1))) n = isum g n + g n
    rw [isum_congr (g' := fun k => g (n - 1 - k)) fun k hk => by congr 1; omega, isum_rev g n]
    simp only [Nat.add_sub_cancel, Nat.sub_zero]
    omega
end Go.Proofs.YtjebljkoiaojaaaGreat
namespace Go.Proofs.YtjebljkoiaojaaaGreat
open Go.RowKit
theorem deg_dgM (l : List Int) : deg l = (dg l : Int) - 1 := by
  have h1 := degTo_le l l.length (dg l) (dg_le_len l) fun j h _ => dg_le.1 (Nat.le_refl _) j h
  unfold deg
  rw [h1]
  by_cases h0 : dg l = 0
  · rw [h0]; rfl
  · have h2 := ld_ne (l := l) (by omega)
    unfold ld at h2
    obtain ⟨m, hm⟩ : ∃ m, dg l = m + 1 := ⟨dg l - 1, by omega⟩
    rw [hm] at h2 ⊢
    simp only [degTo, Nat.add_sub_cancel] at h2 ⊢
    rw [if_neg h2]; omega
theorem pDegreeN (v : Value) (p : Row) (hp : Fit 137438953472 p) :
    Meets Tryz.prog 99 [v] [(v, V p)] (fun r os fs => os = [] ∧ fs = [] ∧ r = .int .i64 ((dg (vv p) : Nat) - 1 : Int)) := by
  have := pDegree_meets v p hp
  rw [deg_dgM] at this; exact this
open Go.RowKit
theorem reduced_call {K : Cont} {os : List Own} {fs : List Fact} {v : Value} {l : List Int} {k : Nat} (hs : isSl v) (hn : Nm l) (hp : szR k l) (hk : k ≤ 34359738368)
    (kk : K v (ownL 2 J z0 v ((redc l).map cn) :: os) fs) : CallK Tryz.prog false (.func (.func 166) #[] #[]) [v] (ownL 2 J z0 v (l.map cn) :: os) fs K := by
  have hml : (l.map cn).length = l.length := List.length_map _
  have hgs : sz (cont l : Nat) k := cont_sz hp
  have hne : 0 < l.length → ((cont l : Nat) : Int) ≠ 0 := fun h e => by
    have h1 := cont_zero.1 (show cont l = 0 by omega)
    rw [dg_nm hn] at h1; omega
  have hcv : ∀ y, y < l.length → J ((l.map cn).getD y z0) = zd (if y < 0 then l.getD y 0 / (cont l : Int) else l.getD y 0) := fun y hy => by rw [map_cn_get hy, if_neg (Nat.not_lt_zero _)]; rfl
  have hce : ∀ y, y < l.length → zd (if y < l.length then l.getD y 0 / (cont l : Int) else l.getD y 0) = J (((redc l).map cn).getD y z0) := fun y hy => by
    rw [if_pos hy, map_cn_get (by rw [redc_len]; exact hy)]
    unfold redc
    rw [List.getD_eq_getElem?_getD (l := List.map _ _), List.getElem?_map, List.getD_eq_getElem?_getD, List.getElem?_eq_getElem hy]; rfl
  refine call_inline Tryz.func166 (by kernel_rfl) rfl (by kernel_rfl) (Nat.le_of_ble_eq_true rfl) ?_
  refine content_call 0 rfl hs hp (by omega) fun x1 => ?_
  refine alloc_rule (d := I false []) fun c hc => ?_
  refine store_box (d := zd (cont l : Nat)) 0 rfl hc rfl (by kernel_rfl) (Reads.fact (v := x1) (List.Mem.head _)) ?_
  refine len_own 1 rfl hs fun _ => ?_
  generalize ((cont l : Nat) : Int) = g at *
  refine loop_rule (X := Nat) (fun i => ([(0, v), (3, c), (8, .int .i64 ((l.map cn).length : Nat)), (9, .int .i64 (i : Nat))], own1 c 2 1 (fun _ => zd g) :: own1 v 2 l.length (fun y => zd (if y < i then l.getD y 0 / g else l.getD y 0)) :: os, fs)) (fun i => i ≤ l.length) (fun i => l.length - i) rfl ?_ ?_
  · exact again 0 (Nat.zero_le _) trivial qF (Seals.trans (Seals.box0 rfl) (Seals.trans (Seals.own_cong (os := own1 c 2 1 (fun _ => zd g) :: ownL 2 J z0 v (l.map cn) :: os) 1 (n' := l.length) (fun y => zd (if y < 0 then l.getD y 0 / g else l.getD y 0)) rfl hml fun y hy => hcv y (by rw [hml] at hy; exact hy)) (Seals.sub fun F hF => List.Mem.tail _ hF)))
  rintro i hi
  refine cmp_split _ rfl (fun hlt => ?_) (fun hlt => ?_)
  · have hin : i < l.length := by omega
    have hai := hp.get i
    have hg0 := hne (by omega)
    refine draw_ord [0, 1, 2, 3, 4, 5, 6, 7, 8, 9, 12, 13, 10, 11] (by kernel_rfl) ?_
    refine ord_go [0, 1, 2, 3, 4, 5, 6, 7, 8, 9, 10, 11, 12, 13] (by kernel_rfl) (by kernel_rfl) ?_
    refine index_elem 1 rfl hs i rfl (by omega) ?_
    refine load_elem' (d := zd (l.getD i 0)) 1 rfl i (by omega) (by rw [if_neg (by omega)]) (load_I _ _) fun y1 => ?_
    refine load_box (d := zd g) 0 rfl hc rfl (load_I _ _) fun y2 => ?_
    refine call_fn (zDivModZ y1 y2 _ _ _ _ hai hgs (by omega) (by omega) hg0) (Seals.refl _ _) qS ?_
    rintro _ _ _ ⟨rfl, y3, y4, rfl, rfl⟩
    refine index_elem 1 rfl hs i rfl (by omega) ?_
    refine StoreK.post (store_elem (d := zd (l.getD i 0 / g)) 1 rfl i (by omega) rfl (by kernel_rfl) (Reads.fact qM) ⟨_, _, Seals.own_cong (os := own1 c 2 1 (fun _ => zd g) :: _ :: os) 1 (fun y => zd (if y < i + 1 then l.getD y 0 / g else l.getD y 0)) rfl rfl (fun y _ => div_s l g i y), ?_⟩)
    refine ar rfl qI ?_
    exact again (i + 1) (by omega) (by simp only; omega) qF (Seals.trans (Seals.box0 rfl) (Seals.sub qD))
  · have hin : i = l.length := by omega
    subst hin
    exact fin kk (Seals.trans (Seals.drop 0 _ _) (Seals.own_cong (os := own1 v 2 l.length _ :: os) 0 (n' := ((redc l).map cn).length) (fun y => J (((redc l).map cn).getD y z0)) rfl (by rw [List.length_map, redc_len]) fun y hy => hce y hy))
theorem map_snoc {α β : Type} (f : α → β) (l : List α) (a : α) : l.map f ++ [f a] = (l ++ [a]).map f := by rw [List.map_append]; rfl
theorem szR.redc {k : Nat} {l : List Int} (h : szR k l) : szR k (redc l) := fun x hx => by
  unfold Go.Proofs.YtjebljkoiaojaaaGreat.redc at hx
  obtain ⟨y, hy, rfl⟩ := List.mem_map.1 hx
  exact sz_div (h y hy)
theorem pDegreeL (v : Value) (l : List Int) (k : Nat) (h : szR k l) (hk : k ≤ 137438953472) :
    Meets Tryz.prog 99 [v] [(v, vd l)] (fun r os fs => os = [] ∧ fs = [] ∧ r = .int .i64 ((dg l : Nat) - 1 : Int)) := by
  have := pDegreeN v (l.map cn) (h.fit.mono hk)
  rw [vv_cn] at this; exact this
structure ChS where
  lv : Value
  nv : Value
  ls : List (List Int)
  nx : List Int
  e : Nat
def chK (k n : Nat) : Nat := ge (dvk k n + 1) n n
def SimOk (P : List Int) (K n : Nat) : Prop := ∀ s, SimSpec P s → ∃ e, szR e s ∧ s.length ≤ n ∧ ge (e + 1) n n ≤ K
theorem chain_meets (v : Value) (p : Row) (k N K n : Nat) (hp : Fit k p) (lp : p.length ≤ N) (hN : N ≤ 1048576) (hd0 : 0 < dg (vv p)) (hk : ge (k + 1) (N - 1) N + (k + 1) ≤ 137438953472) (hd : k + (N + 1) * (dvk (k + 1) N + 1) ≤ 137438953472)
    (hss : SimOk (vv p) K n) (hnN : n ≤ N) (hK : K * (n + 2) ≤ 34359738368) :
    Meets Tryz.prog 146 [v] [(v, V p)] (fun r os fs => os = [] ∧ ∃ s ls, SimSpec (vv p) s ∧ CH s ls [] ∧ (∀ l, l ∈ ls → szR K l ∧ l.length ≤ N) ∧ fs = [(r, wd ls)]) := by
  have hml : ∀ l : List Int, (l.map cn).length = l.length := fun l => List.length_map _
  have hK2 : K * 2 ≤ K * (n + 2) := Nat.mul_le_mul_left _ (by omega)
  refine meets_of_vc Tryz.func146 (by kernel_rfl) rfl (by kernel_rfl) (Nat.le_of_ble_eq_true rfl) ?_
  refine call_fn (pSimpleN_meets v p k N hp lp (by omega) hk hd) (Seals.refl _ _) qS ?_
  rintro x1 _ _ ⟨rfl, s, hs, _, rfl⟩
  obtain ⟨e0, zs, hsm, hKe⟩ := hss s hs
  have hn : n ≤ 1048576 := by omega
  have hge : e0 + 1 + 1 ≤ K := by
    refine Nat.le_trans ?_ hKe
    unfold ge
    exact Nat.le_mul_of_pos_right _ (Nat.mul_pos (Nat.pow_pos (by decide)) (Nat.pow_pos (by decide)))
  obtain ⟨gg, hg1, hg2⟩ := hs.ok hd0
  have hsd : 0 < dg s ∧ dg s ≤ dg (pprim (vv p)) := Dv.deg (a := s) (b := pprim (vv p)) ⟨gg, fun x => by rw [hg2]; exact Int.mul_comm _ _⟩ (by rw [pprim_dg]; exact hd0)
  rw [pprim_dg] at hsd
  have hsl : s.length = dg s := (dg_nm hs.sn).symm
  have hs0 : s ≠ [] := List.length_pos_iff.1 (by omega)
  refine buildSlice_own (size := 1) (n := 1) [x1] [V (s.map cn)] rfl rfl (by decide) (by decide) ⟨Reads.fact qM, rfl, trivial⟩ fun l0 hl0 => ?_
  refine index_elem 0 rfl hl0 0 rfl (by decide) ?_
  refine load_elem' (d := V (s.map cn)) 0 rfl 0 (by decide) rfl (load_P _) fun y1 => ?_
  refine call_fn (pDeriveT y1 s (e0) zs (by omega) (by omega)) (Seals.refl _ _) qS ?_
  rintro n0 _ _ ⟨rfl, rfl⟩
  refine loop_rule (X := ChS) (fun x => ([(3, x.lv), (4, x.nv)], [ownL 1 V [] x.lv (x.ls.map fun l => l.map cn)], [(x.nv, vd x.nx)]))
    (fun x => isSl x.lv ∧ CH s x.ls x.nx ∧ (∀ l, l ∈ x.ls → szR (K) l ∧ l.length ≤ n) ∧ szR x.e (chF x.ls x.nx (x.ls.length - 1)) ∧ szR x.e x.nx ∧ x.nx.length ≤ n ∧ e0 + 1 ≤ x.e ∧ x.e + 1 ≤ ge (e0 + 1) x.ls.length (dg s - dg (chF x.ls x.nx (x.ls.length - 1)))) (fun x => x.nx.length) rfl ?_ ?_
  · refine again ⟨l0, n0, [s], pder s, e0 + 1⟩ ⟨hl0, CH.start hs.sn hs0, fun l hl => ?_, zs.mono (Nat.le_succ _), zs.pder (by omega), ?_, Nat.le_refl _, ?_⟩ trivial qF (Seals.trans (Seals.own_cong (os := [_]) 0 (n' := 1) (fun i => V (([s].map fun l => l.map cn).getD i [])) rfl rfl fun i hi => ?_) (Seals.sub qS))
    · rw [List.mem_singleton.1 hl]; exact ⟨zs.mono (by omega), by omega⟩
    · have := pder_len s; show (pder s).length ≤ n; omega
    · show e0 + 1 + 1 ≤ ge (e0 + 1) 1 _
      unfold ge
      exact Nat.le_mul_of_pos_right _ (Nat.mul_pos (Nat.pow_pos (by decide)) (Nat.pow_pos (by decide)))
    · have : i = 0 := by omega
      subst this; rfl
  rintro ⟨lv, nv, ls, nx, e⟩ ⟨hlv, hc, hall, za, zb, lb, he1, he⟩
  simp only at hlv hc hall za zb lb he1 he ⊢
  have hln := hc.len
  have hsh := hc.short (ls.length - 1) (by omega)
  have hsh2 := hc.short ls.length (Nat.le_refl _)
  have hlow := hc.low (ls.length - 1) (by omega)
  rw [show ls.length - 1 + 1 = ls.length by omega] at hlow
  have hlast := chF_last ls nx
  rw [hlast] at hlow hsh2
  have han := hc.nm (ls.length - 1) (by omega)
  have hbn := hc.nm ls.length (Nat.le_refl _)
  rw [hlast] at hbn
  have hapos := hc.pos (ls.length - 1) (by omega)
  have hag : ls.getD (ls.length - 1) [] = chF ls nx (ls.length - 1) := (chF_lt (by omega)).symm
  have hstep := fun (h0 : nx ≠ []) T R h => hc.step (T := T) (R := R) h0 h
  refine len_vd qM ?_
  refine cmp_split _ rfl (fun hgt => ?_) (fun hgt => ?_)
  · have hb0 : 0 < nx.length := by omega
    have hnx : nx ≠ [] := List.length_pos_iff.1 hb0
    have hdb : dg nx = nx.length := dg_nm hbn
    have hda : dg (chF ls nx (ls.length - 1)) = (chF ls nx (ls.length - 1)).length := dg_nm han
    have he2 : e + 1 ≤ K := Nat.le_trans he (Nat.le_trans (ge_mono (by omega) (by omega)) hKe)
    have hstep' := hstep hnx
    generalize hA : chF ls nx (ls.length - 1) = A at *
    have hAl : A.length ≤ n := by omega
    have hre : ∀ j, j ≤ n + 1 → re e j ≤ 34359738368 := fun j hj => by
      unfold re
      have h1 : (e + 1) * (j + 1) ≤ K * (n + 2) := Nat.mul_le_mul he2 (by omega)
      have h2 : (e + 1) * (j + 1) = j * (e + 1) + (e + 1) := by rw [Nat.mul_add, Nat.mul_comm]; omega
      omega
    have hrest := fun a b => pRestOT a b A nx e za zb (by omega) (Nat.le_trans (hre _ (by omega)) (by decide)) (by omega) (by omega)
    have hj := ge_step (j := dg A + 1 - dg nx) (δ := dg A - dg nx) he (by omega)
    rw [show dg s - dg A + (dg A - dg nx) = dg s - dg nx by omega] at hj
    refine lit_L (size := 1) V [] (nx.map cn) (by decide) (Reads.fact (v := nv) (d := V (nx.map cn)) qM) rfl fun l1 => ?_
    refine append_L 0 rfl hlv (Knw.fact (v := l1) qM) (by simp; omega) (by simp; omega) fun lv2 hlv2 => ?_
    rw [map_snoc (fun l : List Int => l.map cn)]
    have hl2 : ((ls ++ [nx]).map fun l : List Int => l.map cn).length = ls.length + 1 := by simp
    have hel : ((ls ++ [nx]).map fun l : List Int => l.map cn).getD (ls.length - 1) [] = A.map cn := by
      rw [get_cn, ← chF_lt (nx := []) (by simp; omega), chF_snoc (by omega), hA]
    refine len_own 0 rfl hlv2 fun _ => ?_
    refine ar rfl qI ?_
    refine index_elem 0 rfl hlv2 (ls.length - 1) (by omega) (by omega) ?_
    refine load_elem' (d := V (A.map cn)) 0 rfl (ls.length - 1) (by omega) (by show V _ = _; rw [hel]) (load_P _) fun y2 => ?_
    refine call_fn (hrest y2 nv) (Seals.refl _ _) qS ?_
    rintro _ _ _ ⟨ta, rb, T, R, hrb, rfl, hR, rfl⟩
    rw [if_neg (by omega)] at hR
    obtain ⟨rfl, hspec, zT, zR, lT, lR⟩ := hR
    have hlast2 : ∀ y, chF (ls ++ [nx]) y ((ls ++ [nx]).length - 1) = nx := fun y => by
      rw [List.length_append, show ls.length + [nx].length - 1 = ls.length from Nat.add_sub_cancel _ _, chF_snoc (Nat.le_refl _), hlast]
    refine call_fn (pDegreeL y2 A e za (by omega)) (Seals.refl _ _) qS ?_
    rintro _ _ _ ⟨rfl, rfl, rfl⟩
    refine call_fn (pDegreeL nv nx e zb (by omega)) (Seals.refl _ _) qS ?_
    rintro _ _ _ ⟨rfl, rfl, rfl⟩
    refine ar rfl qI ?_
    refine ar (n := ((dg A + 1 - dg nx : Nat) : Int)) (congrArg some (by omega)) ⟨by omega, by omega⟩ ?_
    refine rem_rule (by omega) (by decide) ?_
    refine cmp_split _ rfl (fun hev => ?_) (fun hev => ?_)
    · have hcond : (dg A + 1 - dg nx) % 2 = 0 ∨ 0 < ld nx := .inl (by omega)
      have en : nxt A nx R = ptim (-1) R := if_pos hcond
      have hzz : szR (re e (dg A + 1 - dg nx)) (ptim (-1) R) := zR.neg
      refine call_fn (zof_meets (-1) (by decide) (by decide)) (Seals.refl _ _) qS ?_
      rintro u1 _ _ ⟨rfl, rfl⟩
      refine call_fn (pTimesOT rb u1 R (-1) _ 1 zR (sz_one _ (by decide)) (by have := hre (dg A + 1 - dg nx) (by omega); omega) (by omega)) (Seals.L 0 rfl hrb) qS ?_
      rintro r2 _ _ ⟨hr2, rfl, rfl⟩
      have hnn : Nm (ptim (-1) R) := by first | exact hspec.rn | (rw [← en]; exact nxt_nm hspec.rn)
      have hdn : dg (ptim (-1) R) = dg R := by first | rfl | (rw [← en]; exact nxt_dg _ _ _)
      have hll := dg_nm hnn
      have hstep2 := hstep' T R hspec
      rw [en] at hstep2
      have hlow2 := hspec.low
      refine reduced_call hr2 hnn hzz (hre _ (by omega)) ?_
      refine again ⟨lv2, r2, ls ++ [nx], redc (ptim (-1) R), re e (dg A + 1 - dg nx)⟩ ⟨hlv2, hstep2, fun l hl => ?_, ?_, hzz.redc, ?_, Nat.le_trans he1 (re_ge _ _), ?_⟩ ?_ qF (Seals.trans (Seals.toldL hr2) (Seals.sub qS))
      · rcases List.mem_append.1 hl with h | h
        · exact hall l h
        · rw [List.mem_singleton.1 h]; exact ⟨zb.mono (by omega), lb⟩
      · show szR _ (chF (ls ++ [nx]) _ ((ls ++ [nx]).length - 1))
        rw [hlast2]; exact zb.mono (re_ge _ _)
      · show (redc _).length ≤ n
        rw [redc_len, ← hll, hdn]; omega
      · show _ ≤ ge _ (ls ++ [nx]).length (dg s - dg (chF (ls ++ [nx]) _ ((ls ++ [nx]).length - 1)))
        rw [hlast2, List.length_append]; exact hj
      · show (redc _).length < nx.length
        rw [redc_len, ← hll, hdn]; omega
    · have hld : ld nx = nx.getD (nx.length - 1) 0 := by unfold ld; rw [hdb]
      refine len_vd qM ?_
      refine ar rfl qI ?_
      refine index_fact (v := nv) qM (nx.length - 1) (by omega) (by rw [List.length_map]; omega) fun a1 => ?_
      refine load_fact (d := J ((nx.map cn).getD (nx.length - 1) z0)) qM (load_J _) fun a2 => ?_
      have hsg : ∀ y, Meets Tryz.prog 51 [y] [(y, J ((nx.map cn).getD (nx.length - 1) z0))] (fun r os fs => os = [] ∧ fs = [] ∧ r = .int .i64 (ld nx).sign) := fun y => by
        rw [map_cn_get (by omega), hld]; exact zSignZ y _ e (zb.get _) (by omega)
      refine call_fn (hsg a2) (Seals.refl _ _) qS ?_
      rintro _ _ _ ⟨rfl, rfl, rfl⟩
      refine cmp_split _ rfl (fun hpos => ?_) (fun hpos => ?_)
      · have hcond : (dg A + 1 - dg nx) % 2 = 0 ∨ 0 < ld nx := .inr (by
          rcases Int.lt_trichotomy (ld nx) 0 with h | h | h
          · rw [sgn_neg h] at hpos; omega
          · rw [h] at hpos; simp at hpos
          · exact h)
        have en : nxt A nx R = ptim (-1) R := if_pos hcond
        have hzz : szR (re e (dg A + 1 - dg nx)) (ptim (-1) R) := zR.neg
        refine call_fn (zof_meets (-1) (by decide) (by decide)) (Seals.refl _ _) qS ?_
        rintro u1 _ _ ⟨rfl, rfl⟩
        refine call_fn (pTimesOT rb u1 R (-1) _ 1 zR (sz_one _ (by decide)) (by have := hre (dg A + 1 - dg nx) (by omega); omega) (by omega)) (Seals.L 0 rfl hrb) qS ?_
        rintro r2 _ _ ⟨hr2, rfl, rfl⟩
        have hnn : Nm (ptim (-1) R) := by first | exact hspec.rn | (rw [← en]; exact nxt_nm hspec.rn)
        have hdn : dg (ptim (-1) R) = dg R := by first | rfl | (rw [← en]; exact nxt_dg _ _ _)
        have hll := dg_nm hnn
        have hstep2 := hstep' T R hspec
        rw [en] at hstep2
        have hlow2 := hspec.low
        refine reduced_call hr2 hnn hzz (hre _ (by omega)) ?_
        refine again ⟨lv2, r2, ls ++ [nx], redc (ptim (-1) R), re e (dg A + 1 - dg nx)⟩ ⟨hlv2, hstep2, fun l hl => ?_, ?_, hzz.redc, ?_, Nat.le_trans he1 (re_ge _ _), ?_⟩ ?_ qF (Seals.trans (Seals.toldL hr2) (Seals.sub qS))
        · rcases List.mem_append.1 hl with h | h
          · exact hall l h
          · rw [List.mem_singleton.1 h]; exact ⟨zb.mono (by omega), lb⟩
        · show szR _ (chF (ls ++ [nx]) _ ((ls ++ [nx]).length - 1))
          rw [hlast2]; exact zb.mono (re_ge _ _)
        · show (redc _).length ≤ n
          rw [redc_len, ← hll, hdn]; omega
        · show _ ≤ ge _ (ls ++ [nx]).length (dg s - dg (chF (ls ++ [nx]) _ ((ls ++ [nx]).length - 1)))
          rw [hlast2, List.length_append]; exact hj
        · show (redc _).length < nx.length
          rw [redc_len, ← hll, hdn]; omega
      · have hcond : ¬ ((dg A + 1 - dg nx) % 2 = 0 ∨ 0 < ld nx) := fun h => by
          rcases h with h | h
          · omega
          · rw [sgn_pos h] at hpos; omega
        have en : nxt A nx R = R := if_neg hcond
        have hzz := zR
        have hnn : Nm (R) := by first | exact hspec.rn | (rw [← en]; exact nxt_nm hspec.rn)
        have hdn : dg (R) = dg R := by first | rfl | (rw [← en]; exact nxt_dg _ _ _)
        have hll := dg_nm hnn
        have hstep2 := hstep' T R hspec
        rw [en] at hstep2
        have hlow2 := hspec.low
        refine reduced_call hrb hnn hzz (hre _ (by omega)) ?_
        refine again ⟨lv2, rb, ls ++ [nx], redc (R), re e (dg A + 1 - dg nx)⟩ ⟨hlv2, hstep2, fun l hl => ?_, ?_, hzz.redc, ?_, Nat.le_trans he1 (re_ge _ _), ?_⟩ ?_ qF (Seals.trans (Seals.toldL hrb) (Seals.sub qS))
        · rcases List.mem_append.1 hl with h | h
          · exact hall l h
          · rw [List.mem_singleton.1 h]; exact ⟨zb.mono (by omega), lb⟩
        · show szR _ (chF (ls ++ [nx]) _ ((ls ++ [nx]).length - 1))
          rw [hlast2]; exact zb.mono (re_ge _ _)
        · show (redc _).length ≤ n
          rw [redc_len, ← hll, hdn]; omega
        · show _ ≤ ge _ (ls ++ [nx]).length (dg s - dg (chF (ls ++ [nx]) _ ((ls ++ [nx]).length - 1)))
          rw [hlast2, List.length_append]; exact hj
        · show (redc _).length < nx.length
          rw [redc_len, ← hll, hdn]; omega
  · obtain rfl : nx = [] := List.length_eq_zero_iff.1 (by omega)
    exact fin ⟨rfl, s, ls, hs, hc, fun l hl => ⟨(hall l hl).1, Nat.le_trans (hall l hl).2 hnN⟩, rfl⟩ (Seals.trans (Seals.L 0 rfl hlv) (Seals.sub qS))
open Go.RowKit
theorem vx_drop (ls : List (List Int)) (x : Int) : ∀ (e i : Nat), i + e = ls.length → vx (fun j => ls.getD j []) x i e = (ls.drop i).map fun l => pev l x
  | 0, i, h => by rw [List.drop_eq_nil_of_le (by omega)]; rfl
  | e + 1, i, h => by
    have hi : i < ls.length := by omega
    rw [List.drop_eq_getElem_cons hi, List.map_cons, ← vx_drop ls x e (i + 1) (by omega)]
    have : ls[i] = ls.getD i [] := by rw [List.getD_eq_getElem?_getD, List.getElem?_eq_getElem hi]; rfl
    rw [this]; rfl
def tns (ls : List (List Int)) (x : Int) : Nat := vs 0 (ls.map fun l => pev l x)
theorem tns_sV {ls : List (List Int)} (h : 1 ≤ ls.length) (x : Int) : tns ls x = sV (fun i => ls.getD i []) (ls.length - 1) x := by
  unfold tns sV
  rw [show ls.length - 1 + 1 = ls.length by omega, vx_drop ls x ls.length 0 (by omega), List.drop_zero]
theorem tns_le (ls : List (List Int)) (x : Int) : tns ls x ≤ ls.length - 1 := by
  unfold tns
  have := vs_len0 (ls.map fun l => pev l x)
  rwa [List.length_map] at this
theorem turnsT (v w : Value) (ls : List (List Int)) (x : Bool × List Nat) (k a n : Nat) (hm : ∀ l, l ∈ ls → szR k l ∧ l.length ≤ n) (hxl : Lim x.2) (hxa : x.2.length ≤ a) (hk : k + (n + 1) * (a + 1) ≤ 137438953472) (ln : n ≤ 1073741824) (lm : ls.length ≤ 1073741824) :
    Meets Tryz.prog 148 [v, w] [(v, wd ls), (w, J x)] (fun r os fs => os = [] ∧ fs = [] ∧ r = .int .i64 (tns ls (jv x) : Nat)) := by
  have h := turns_meets v w (ls.map fun l => l.map cn) x k a n (fun r hr => by
    obtain ⟨l, hl, rfl⟩ := List.mem_map.1 hr
    exact ⟨(hm l hl).1.fit, by rw [List.length_map]; exact (hm l hl).2⟩) hxl hxa hk ln (by rw [List.length_map]; exact lm)
  rw [List.map_map] at h
  have e : (ls.map ((fun r => pev (vv r) (jv x)) ∘ fun l => l.map cn)) = ls.map fun l => pev l (jv x) := List.map_congr_left fun l _ => by show pev (vv (l.map cn)) _ = _; rw [vv_cn]
  rw [e] at h
  exact h
structure ChOk (P : List Int) (k n a : Nat) : Prop where
  n1 : n ≤ 1048576
  k1 : ge (k + 1) (n - 1) n + (k + 1) ≤ 137438953472
  k2 : k + (n + 1) * (dvk (k + 1) n + 1) ≤ 137438953472
  k3 : ∃ K m, SimOk P K m ∧ m ≤ n ∧ K * (m + 2) ≤ 34359738368 ∧ K + (n + 1) * (a + 1) ≤ 137438953472
  k5 : k + (n + 1) * (a + 1) ≤ 137438953472
structure Ch0 (k n a : Nat) : Prop where
  n1 : n ≤ 1048576
  k1 : ge (k + 1) n n * (n + 2) ≤ 137438953472
  k2 : k + (n + 1) * (dvk (k + 1) n + 1) ≤ 137438953472
  k3 : chK k n * (n + 2) ≤ 34359738368
  k4 : chK k n + (n + 1) * (a + 1) ≤ 137438953472
  k5 : k + (n + 1) * (a + 1) ≤ 137438953472
theorem sim_sz {P s : List Int} {k n : Nat} (hP : szR k P) (hl : P.length ≤ n) (hn : n ≤ 1048576) (h : SimSpec P s) : szR (dvk k n) s ∧ s.length ≤ n := by
  by_cases h0 : dg P = 0
  · rw [h.zero h0]; exact ⟨fun x hx => by simp at hx, Nat.zero_le _⟩
  · obtain ⟨g, _, hg⟩ := h.ok (by omega)
    have hd := pprim_dg P
    have hdl := dg_le_len P
    have hv : Dv s (pprim P) := ⟨g, fun x => by rw [hg]; exact Int.mul_comm _ _⟩
    refine ⟨dv_szR hv (by omega) hP.pprim h.sn (by omega) (by omega), ?_⟩
    have := (hv.deg (by omega)).2
    rw [dg_nm h.sn] at this
    omega
theorem Ch0.of {p : Row} {k n a : Nat} (h : Ch0 k n a) (hp : Fit k p) (lp : p.length ≤ n) : ChOk (vv p) k n a :=
  ⟨h.n1, Nat.le_trans (ge_old _ _) h.k1, h.k2, ⟨chK k n, n, fun _ hs => ⟨dvk k n, (sim_sz hp.szR (by rw [vv_len]; exact lp) h.n1 hs).1, (sim_sz hp.szR (by rw [vv_len]; exact lp) h.n1 hs).2, Nat.le_refl _⟩, Nat.le_refl _, h.k3, h.k4⟩, h.k5⟩
open Go.RowKit
def pfx : Value → Nat → Value
  | .slice a _ c, k => .slice a k c
  | v, _ => v
theorem pfx_sl {v : Value} {k : Nat} (h : isSl v) : isSl (pfx v k) := by
  obtain ⟨a, n, c, rfl⟩ := h
  exact ⟨_, _, _, rfl⟩
theorem own_cases {G : Ctx} {os : List Own} {fs : List Fact} {w : World} {pos size n : Nat} {v : Value} {d : Nat → Dat} (hw : Holds G os fs w) (h : nthOwn os pos = some (own1 v size n d)) (hs : isSl v) (hsz : 0 < size) :
    (v = .slice none 0 0 ∧ n = 0) ∨ ∃ r cap, v = .slice (some ⟨r, 0, none⟩) n cap ∧ OwnRow (Good G.A os w) G.B w r size n cap d := by
  rcases hw.own _ (nthOwn_mem h) 0 Nat.zero_lt_one with h1 | h1 | ⟨r, h1, _⟩ | ⟨_, h2, _⟩
  · exact .inl h1
  · exact .inr h1
  · obtain ⟨_, _, _, rfl⟩ := hs; simp [own1] at h1
  · simp only [own1] at h2; omega
theorem slice_pfx {P : Program} {t e : TypeId} {v : Value} {size n : Nat} {d : Nat → Dat} {kk : IntKind} {x : Int} {os : List Own} {fs : List Fact} {K : Cont} [ht : TSl P t e size] (pos : Nat) (h : nthOwn os pos = some (own1 v size n d)) (hs : isSl v)
    (k : Nat) (hx : x = (k : Int)) (hk : k ≤ n) (hsz : 0 < size) (kf : K (pfx v k) os fs) : SliceK P t v none (some (.int kk x)) none os fs K := by
  subst hx
  refine ⟨fun G w hw => ⟨pfx v k, fs, fun w' _ => val_run ?_, kf, hw⟩⟩
  rcases own_cases hw h hs hsz with ⟨rfl, rfl⟩ | ⟨r, cap, rfl, h1, h2, _⟩
  · obtain rfl : k = 0 := by omega
    simp [Instr.sliceAt, run_underlying ht.und, Instr.slice, Instr.sliceBounds, Instr.sliceBound, asIntOf, run_sizeOf ht.size, pfx]
  · have h3 : (0 : Int) ≤ (k : Int) := by omega
    have h4 : (k : Int) ≤ (cap : Int) := by omega
    have h5 : Addr.add ⟨r, 0, none⟩ 0 = ⟨r, 0, none⟩ := by simp [add_none]
    by_cases hc : cap = 0
    · subst hc
      obtain rfl : k = 0 := by omega
      simp [Instr.sliceAt, run_underlying ht.und, Instr.slice, Instr.sliceBounds, Instr.sliceBound, asIntOf, run_sizeOf ht.size, pfx]
    · simp [Instr.sliceAt, run_underlying ht.und, Instr.slice, Instr.sliceBounds, Instr.sliceBound, asIntOf, h3, run_sizeOf ht.size, pfx, hc, h5]
      intro hcon; omega
theorem Seals.pfx {v : Value} {size n : Nat} {d : Nat → Dat} {os : List Own} {fs : List Fact} (pos : Nat) (h : nthOwn os pos = some (own1 v size n d)) (hs : isSl v) (k : Nat) (hk : k ≤ n) (hsz : 0 < size := by exact Nat.zero_lt_succ _) :
    Seals os fs (setOwn os pos (own1 (Go.Proofs.YtjebljkoiaojaaaGreat.pfx v k) size k d)) fs := by
  intro G w hw
  have hv := own_cases hw h hs hsz
  have hb : vblk (Go.Proofs.YtjebljkoiaojaaaGreat.pfx v k) = vblk v := by
    obtain ⟨a, m, c, rfl⟩ := hs
    cases a <;> rfl
  refine hw.step h rfl rfl rfl (Nat.le_refl _) (fun _ _ _ => rfl) (fun b hb' => .inl ?_) (fun i j b hi hj _ _ => by simp only [own1] at hi hj; omega) fun mono i hi => ?_
  · obtain ⟨i, hi, hbb⟩ := hb'
    exact ⟨i, hi, by simp only [own1] at hbb ⊢; rw [← hbb]; exact hb.symm⟩
  rcases hv with ⟨rfl, rfl⟩ | ⟨r, cap, rfl, b1, b2, b3, cur, t, b4, b5, b6⟩
  · obtain rfl : k = 0 := by omega
    exact .inl ⟨rfl, rfl⟩
  · exact .inr (.inl ⟨r, cap, rfl, b1, by simp only [own1]; omega, b3, cur, t, b4, b5, fun j hj => by
      simp only [own1] at hj
      obtain ⟨cs, c1, c2⟩ := b6 j (by omega)
      exact ⟨cs, mono _ _ c1, c2⟩⟩)
theorem store_part {P : Program} {ty : TypeId} {x v : Value} {k size : Nat} {e : Nat → Dat} {d d' : Dat} {os : List Own} {fs : List Fact} {K : Cont} (pos : Nat) (h : nthOwn os pos = some (own1 v size 1 e)) (hbx : isBox v) (hk : k + d.cells ≤ size) (hd0 : 0 < d.cells)
    (ht : (P.info? ty).map (·.size) = some d.cells) (hx : Reads os fs x d)
    (hd : ∀ S w cs cs', RdC S w (e 0) cs → RdC S w d cs' → RdC S w d' (cs.take k ++ cs' ++ cs.drop (k + cs'.length))) (k' : K undef (setOwn os pos (own1 v size 1 fun _ => d')) fs) : StoreK P ty (eptr v k) x os fs K := by
  obtain ⟨r, rfl⟩ := hbx
  refine ⟨fun G w hw => ?_⟩
  obtain ⟨cx, x1, x2⟩ := hx G w hw
  have hlx : cx.length = d.cells := RdC.length x1
  have hov := hw.own _ (nthOwn_mem h) 0 Nat.zero_lt_one
  obtain ⟨r', cap, hr⟩ := hov.row Nat.zero_lt_one
  have hrr : r' = r := by have := hr.blk; simp [own1, vblk] at this; exact this.symm
  subst hrr
  obtain ⟨b1, b2, b3, cur, t, b4, b5, b6⟩ := hr.row
  obtain ⟨cs, c1, c2, c3⟩ := b6 0 Nat.zero_lt_one
  have hcap : 1 ≤ cap := b2
  have hs : (own1 (.pointer (some ⟨r', 0, none⟩)) size 1 e).size = size := rfl
  have hfit : k + cx.length ≤ cur.size := by
    have : 1 * size ≤ cap * size := Nat.mul_le_mul_right _ hcap
    rw [b5, hs, hlx]; omega
  have he : eptr (.pointer (some ⟨r', 0, none⟩)) k = .pointer (some ⟨r', k, none⟩) := by simp [eptr, add_none]
  rw [he, unt_run (run_storeVar (cs := cx) x2 (RdC.oneCells x1) (by rw [hlx]; exact ht) b4 hfit)]
  refine ⟨_, _, k', ?_⟩
  have hhas : (own1 (.pointer (some ⟨r', 0, none⟩)) size 1 e).has r' := ⟨0, Nat.zero_lt_one, hr.blk⟩
  refine hw.step h rfl rfl rfl (by simp) (fun q hq hno => setRow_other w r' q _ fun e' => hno (e' ▸ hhas)) (fun b hb => .inl hb) (fun a b c ha hb _ _ => by
    have ha' : a < 1 := ha
    have hb' : b < 1 := hb
    omega) fun mono y hy => ?_
  have hy0 : y = 0 := by have : y < 1 := hy; omega
  subst hy0
  have hc1 : cap = 1 := by
    rcases hov with ⟨h1, h2⟩ | ⟨q, cap', h1, h2⟩ | ⟨q, h1, h2, h3⟩ | ⟨h1, _⟩
    · simp [own1] at h1
    · simp [own1] at h1
    · have : q = r' := by simp [own1] at h1; exact h1.symm
      subst this
      obtain ⟨_, _, _, cur', t', q4, q5, _⟩ := h3
      rw [b4] at q4
      simp only [Option.some.injEq, Obj.cells.injEq] at q4
      obtain ⟨rfl, _⟩ := q4
      rw [q5] at b5
      exact (Nat.eq_of_mul_eq_mul_right (show 0 < (own1 (.pointer (some ⟨q, 0, none⟩)) size 1 e).size by rw [hs]; omega) b5).symm
    · simp [own1] at h1
  subst hc1
  refine .inr (.inr (.inl ⟨r', rfl, rfl, b1, Nat.le_refl _, b3, _, t, setRow_heap w r' cur _ t _ b4, ?_, fun i hi => ?_⟩))
  · simp only [List.size_toArray, List.length_append, List.length_take, List.length_drop, Array.length_toList] at hfit ⊢
    rw [b5] at hfit ⊢
    show _ = 1 * size
    simp only [hs] at hfit ⊢
    omega
  · have hi0 : i = 0 := by omega
    subst hi0
    have hm := mono _ cs c1
    have hmx := mono _ cx x1
    have c2' : cs.length = size := c2
    refine ⟨cs.take k ++ cx ++ cs.drop (k + cx.length), hd _ _ _ _ hm hmx, by
      show _ = size
      simp only [List.length_append, List.length_take, List.length_drop]; omega, fun j hj => ?_⟩
    rw [List.getElem?_toArray, seg_get _ _ _ _ (by simpa using hfit)]
    have hj' : j < size := hj
    have c3' := c3 j hj'
    have c3'' : cur[0 * size + j]? = cs[j]? := c3'
    rw [Nat.zero_mul, Nat.zero_add] at c3''
    show (if k ≤ 0 * size + j ∧ 0 * size + j < k + cx.length then cx[0 * size + j - k]? else cur.toList[0 * size + j]?) = _
    have c4 : cur.toList[j]? = cs[j]? := by rw [Array.getElem?_toList]; exact c3''
    rw [Nat.zero_mul, Nat.zero_add, seg_get cs cx k j (by omega), c4]
class TStr2211 (P : Program) (t : TypeId) : Prop where
  und : ∃ fs f0 f1 f2 f3, P.underlying t = some (.struct fs) ∧ fs = #[f0, f1, f2, f3] ∧ f0.offset = 0 ∧ f1.offset = 2 ∧ f2.offset = 4 ∧ f3.offset = 5 ∧ (P.info? f0.type).map (·.size) = some 2 ∧ (P.info? f1.type).map (·.size) = some 2 ∧ (P.info? f2.type).map (·.size) = some 1 ∧ (P.info? f3.type).map (·.size) = some 1
  zero : ∃ i z0 z1 z2 z3 z4 z5, P.info? t = some i ∧ i.zero = some (.agg #[z0, z1, z2, z3, z4, z5])
theorem build_run2211 {P : Program} {t : TypeId} {a b c d : Value} {x y : Int} (ht : TStr2211 P t) (w : World) :
    (Instr.build t #[(0, .agg #[a, b]), (1, .agg #[c, d]), (2, .int .i64 x), (3, .int .i64 y)]).run P w = .ok (.agg #[a, b, c, d, .int .i64 x, .int .i64 y]) w := by
  obtain ⟨fs, f0, f1, f2, f3, h1, rfl, h3, h4, h5, h6, h7, h8, h9, h10⟩ := ht.und
  obtain ⟨i, z0, z1, z2, z3, z4, z5, k1, k2⟩ := ht.zero
  simp [Instr.build, zeroValue, typeInfo, k1, k2, run_underlying h1, run_sizeOf h7, run_sizeOf h8, run_sizeOf h9, run_sizeOf h10, h3, h4, h5, h6, Instr.fill, Value.cells, Array.zipIdx]
theorem RdC.two' {S : Nat → Prop} {w : World} {d1 d2 : Dat} {cs : List Value} (h : RdC S w (.cat d1 d2) cs) (hc : d1.cells + d2.cells = 2) : ∃ x y, cs = [x, y] := by
  have := RdC.length h
  simp only [Dat.cells, hc] at this
  match cs, this with
  | [x, y], _ => exact ⟨x, y, rfl⟩
theorem build2211 {P : Program} {t : TypeId} {a b : Value} {x y : Int} [ht : TStr2211 P t] {d1 d2 d3 d4 : Dat} {os : List Own} {fs : List Fact} {K : Cont} (ha : Knw os fs a (.cat d1 d2)) (hb : Knw os fs b (.cat d3 d4)) (ca : d1.cells + d2.cells = 2) (cb : d3.cells + d4.cells = 2)
    (k : ∀ v, K v os ((v, .cat (.cat d1 d2) (.cat (.cat d3 d4) (.cat (.one (.int .i64 x)) (.one (.int .i64 y))))) :: fs)) : BuildK P t [(0, a), (1, b), (2, .int .i64 x), (3, .int .i64 y)] os fs K := by
  refine ⟨fun G w hw => ?_⟩
  obtain ⟨c1, a1, rfl⟩ := ha G w hw
  obtain ⟨c2, b1, rfl⟩ := hb G w hw
  obtain ⟨p, q, rfl⟩ := RdC.two' a1 ca
  obtain ⟨r, s, rfl⟩ := RdC.two' b1 cb
  exact ⟨_, _, fun w' _ => val_run (build_run2211 ht w'), k _, hw.put ⟨[p, q, r, s, .int .i64 x, .int .i64 y], ⟨[p, q], [r, s, .int .i64 x, .int .i64 y], rfl, a1, ⟨[r, s], [.int .i64 x, .int .i64 y], rfl, b1, ⟨[.int .i64 x], [.int .i64 y], rfl, ⟨rfl, rfl⟩, ⟨rfl, rfl⟩⟩⟩⟩, rfl⟩⟩
open Go.RowKit
def pD (lo hi m n : Int) : Dat := .cat (zd lo) (.cat (zd hi) (.cat (.one (.int .i64 m)) (.one (.int .i64 n))))
theorem info_part : (Tryz.prog.info? 152).map (fun i => (i.zero, i.size, i.bytes)) = some (some (.agg #[.bool false, .slice none 0 0, .bool false, .slice none 0 0, .int .i64 0, .int .i64 0]), 6, 80) := by kernel_rfl
instance iCSd1 : TStr2211 Tryz.prog 152 := ⟨⟨_, _, _, _, _, Tryz.underlying152, rfl, rfl, rfl, rfl, rfl, by kernel_rfl, by kernel_rfl, by kernel_rfl, by kernel_rfl⟩, by
  obtain ⟨i, h1, _, _, h4⟩ := info_of info_part
  exact ⟨i, _, _, _, _, _, _, h1, h4⟩⟩
instance iCSd2 : TAgg Tryz.prog 152 6 := ⟨⟨_, Tryz.underlying152, rfl⟩, by kernel_rfl⟩
instance iCSd3 : TFld Tryz.prog 152 0 0 := ⟨_, _, Tryz.underlying152, rfl, rfl, 1, by kernel_rfl⟩
instance iCSd4 : TFld Tryz.prog 152 1 2 := ⟨_, _, Tryz.underlying152, rfl, rfl, 1, by kernel_rfl⟩
instance iCSd5 : TFld Tryz.prog 152 2 4 := ⟨_, _, Tryz.underlying152, rfl, rfl, 0, by kernel_rfl⟩
instance iCSd6 : TFld Tryz.prog 152 3 5 := ⟨_, _, Tryz.underlying152, rfl, rfl, 0, by kernel_rfl⟩
instance iCSd7 : TEl Tryz.prog 152 6 80 := tel info_part rfl (by decide)
instance iCSd8 : TSl Tryz.prog 155 152 6 := ⟨Tryz.underlying155, by kernel_rfl⟩
instance iCSd9 : TOne Tryz.prog 109 := ⟨⟨_, Tryz.underlying109, trivial⟩, by kernel_rfl⟩
theorem info_pp5 : (Tryz.prog.info? 109).map (fun i => (i.zero, i.size, i.bytes)) = some (some (.slice none 0 0), 1, 24) := by kernel_rfl
instance tzpp5 : TZero Tryz.prog 109 (.sl 1 0 fun _ => .one (.bool false)) := tzero info_pp5 fun S w => rd_nil S w 1 _
def pZ : Dat := .cat (I false []) (.cat (I false []) (.cat (.one (.int .i64 0)) (.one (.int .i64 0))))
instance tzPart : TZero Tryz.prog 152 pZ :=
  tzero info_part fun S w => ⟨[.bool false, .slice none 0 0], [.bool false, .slice none 0 0, .int .i64 0, .int .i64 0], rfl, ⟨[.bool false], [.slice none 0 0], rfl, rd_false S w, rd_nil S w 1 _⟩,
    ⟨[.bool false, .slice none 0 0], [.int .i64 0, .int .i64 0], rfl, ⟨[.bool false], [.slice none 0 0], rfl, rd_false S w, rd_nil S w 1 _⟩, ⟨[.int .i64 0], [.int .i64 0], rfl, ⟨rfl, rfl⟩, ⟨rfl, rfl⟩⟩⟩⟩
theorem load_pD (lo hi m n : Int) : LoadAs Tryz.prog 152 (pD lo hi m n) := (inferInstance : TAgg Tryz.prog 152 6)
theorem pD_lo {lo hi m n x : Int} (S : Nat → Prop) (w : World) (cs cs' : List Value) (h : RdC S w (pD lo hi m n) cs) (h' : RdC S w (zd x) cs') : RdC S w (pD x hi m n) (cs.take 0 ++ cs' ++ cs.drop (0 + cs'.length)) := by
  have hl : cs'.length = 2 := RdC.length h'
  obtain ⟨c1, c2, rfl, a1, a2⟩ := h
  have hl1 : c1.length = 2 := RdC.length a1
  refine ⟨cs', c2, ?_, h', a2⟩
  rw [List.take_zero, List.nil_append, hl, ← hl1]
  simp
theorem pD_hi {lo hi m n x : Int} (S : Nat → Prop) (w : World) (cs cs' : List Value) (h : RdC S w (pD lo hi m n) cs) (h' : RdC S w (zd x) cs') : RdC S w (pD lo x m n) (cs.take 2 ++ cs' ++ cs.drop (2 + cs'.length)) := by
  have hl : cs'.length = 2 := RdC.length h'
  obtain ⟨c1, c2, rfl, a1, c3, c4, rfl, a3, a4⟩ := h
  have hl1 : c1.length = 2 := RdC.length a1
  have hl3 : c3.length = 2 := RdC.length a3
  refine ⟨c1, cs' ++ c4, ?_, a1, cs', c4, rfl, h', a4⟩
  have e1 : (c1 ++ (c3 ++ c4)).take 2 = c1 := by rw [← hl1]; simp
  have e2 : (c1 ++ (c3 ++ c4)).drop (2 + cs'.length) = c4 := by
    rw [hl, ← List.append_assoc, show 2 + 2 = (c1 ++ c3).length by rw [List.length_append]; omega]
    exact List.drop_left
  rw [e1, e2, List.append_assoc]
theorem rtSignT (v w : Value) (l : List Int) (x : Int) (k a n : Nat) (hl : szR k l) (hx : sz x a) (hn : l.length ≤ n) (hk : k + (n + 1) * (a + 1) ≤ 137438953472) (ln : n ≤ 1073741824) :
    Meets Tryz.prog 112 [v, w] [(v, vd l), (w, zd x)] (fun r os fs => os = [] ∧ fs = [] ∧ r = .int .i64 (pev l x).sign) := by
  have hm : (l.length + 1) * (a + 1) ≤ (n + 1) * (a + 1) := Nat.mul_le_mul_right _ (by omega)
  have h := rtSign_meets v w (l.map cn) (cn x) k a hl.fit (Lim_lims _) hx.len (by rw [List.length_map]; omega) (by rw [List.length_map]; omega)
  rw [vv_cn, jv_cn] at h
  exact h
theorem sgn3b (y : Int) : y.sign = -1 ∨ y.sign = 0 ∨ y.sign = 1 := by
  rcases Int.lt_trichotomy y 0 with h | h | h
  · rw [sgn_neg h]; omega
  · rw [h]; simp
  · rw [sgn_pos h]; omega
theorem sgn0 {y : Int} : y.sign = 0 ↔ y = 0 := Int.sign_eq_zero_iff_zero
def manyV (s : List Int) (lo hi m n : Int) : Int := m - n + (if pev s lo = 0 then 1 else 0) - (if pev s hi = 0 then 1 else 0)
theorem many_meets (v b : Value) (ls : List (List Int)) (lo hi m n : Int) (k a N : Nat) (h1 : 1 ≤ ls.length) (hs : szR k (ls.getD 0 [])) (hN : (ls.getD 0 []).length ≤ N) (hlo : sz lo a) (hhi : sz hi a) (hk : k + (N + 1) * (a + 1) ≤ 137438953472) (lN : N ≤ 1073741824)
    (hm : 0 ≤ m ∧ m ≤ 1073741824) (hn : 0 ≤ n ∧ n ≤ 1073741824) :
    Meets Tryz.prog 147 [v, b] [(v, pD lo hi m n), (b, .ptr (wd ls))] (fun r os fs => os = [] ∧ fs = [] ∧ r = .int .i64 (manyV (ls.getD 0 []) lo hi m n)) := by
  have hsg : ∀ x, sz x a → ∀ y z, Meets Tryz.prog 112 [y, z] [(y, V ((ls.map fun l => l.map cn).getD 0 [])), (z, zd x)] (fun r os fs => os = [] ∧ fs = [] ∧ r = .int .i64 (pev (ls.getD 0 []) x).sign) := fun x hx y z => by
    rw [get_cn]; exact rtSignT y z _ x k a N hs hx hN hk lN
  have hsl := hsg lo hlo
  have hsh := hsg hi hhi
  refine meets_of_vc Tryz.func147 (by kernel_rfl) rfl (by kernel_rfl) (Nat.le_of_ble_eq_true rfl) ?_
  refine box_rule (Reads.fact (d := pD lo hi m n) qM) fun q hq => ?_
  refine field_box 0 rfl hq ?_
  refine load_box_field_one 0 rfl (Part.right (Part.right (Part.left (Part.refl _)))) ?_
  refine field_box 0 rfl hq ?_
  refine load_box_field_one 0 rfl (Part.right (Part.right (Part.right (Part.refl _)))) ?_
  refine ar rfl qI ?_
  refine draw_rule [0, 1, 2, 3, 4, 5, 6] [0, 1, 2, 3, 4, 5, 6] (by kernel_rfl) (by kernel_rfl) ?_
  refine load_fact (d := wd ls) qM (inferInstanceAs (TOne Tryz.prog 109)) fun y1 => ?_
  refine index_fact (v := y1) qM 0 rfl (by rw [List.length_map]; exact h1) fun y2 => ?_
  refine load_fact (d := V ((ls.map fun l => l.map cn).getD 0 [])) qM (load_P _) fun y3 => ?_
  refine field_box 0 rfl hq ?_
  refine load_box_field (d := zd lo) 0 rfl (Part.left (Part.refl _)) (load_I _ _) fun y4 => ?_
  refine call_fn (hsl y3 y4) (Seals.refl _ _) qS ?_
  rintro _ _ _ ⟨rfl, rfl, rfl⟩
  unfold manyV
  refine cmp_split _ rfl (fun e1 => ?_) (fun e1 => ?_)
  · rw [if_pos (sgn0.1 e1)]
    refine ar rfl qI ?_
    refine draw_rule [0, 1, 2, 3, 4, 5, 6] [0, 1, 2, 3, 4, 5, 6] (by kernel_rfl) (by kernel_rfl) ?_
    refine load_fact (d := wd ls) qM (inferInstanceAs (TOne Tryz.prog 109)) fun z1 => ?_
    refine index_fact (v := z1) qM 0 rfl (by rw [List.length_map]; exact h1) fun z2 => ?_
    refine load_fact (d := V ((ls.map fun l => l.map cn).getD 0 [])) qM (load_P _) fun z3 => ?_
    refine field_box 0 rfl hq ?_
    refine load_box_field (d := zd hi) 0 rfl (Part.right (Part.left (Part.refl _))) (load_I _ _) fun z4 => ?_
    refine call_fn (hsh z3 z4) (Seals.refl _ _) qS ?_
    rintro _ _ _ ⟨rfl, rfl, rfl⟩
    refine cmp_split _ rfl (fun e2 => ?_) (fun e2 => ?_)
    · rw [if_pos (sgn0.1 e2)]
      refine ar rfl qI ?_
      exact fin ⟨rfl, rfl, rfl⟩ (Seals.trans (Seals.drop 0 _ _) (Seals.nil _ _))
    · rw [if_neg (fun h => e2 (sgn0.2 h)), Int.sub_zero]
      exact fin ⟨rfl, rfl, rfl⟩ (Seals.trans (Seals.drop 0 _ _) (Seals.nil _ _))
  · rw [if_neg (fun h => e1 (sgn0.2 h)), Int.add_zero]
    refine draw_rule [0, 1, 2, 3, 4, 5, 6] [0, 1, 2, 3, 4, 5, 6] (by kernel_rfl) (by kernel_rfl) ?_
    refine load_fact (d := wd ls) qM (inferInstanceAs (TOne Tryz.prog 109)) fun z1 => ?_
    refine index_fact (v := z1) qM 0 rfl (by rw [List.length_map]; exact h1) fun z2 => ?_
    refine load_fact (d := V ((ls.map fun l => l.map cn).getD 0 [])) qM (load_P _) fun z3 => ?_
    refine field_box 0 rfl hq ?_
    refine load_box_field (d := zd hi) 0 rfl (Part.right (Part.left (Part.refl _))) (load_I _ _) fun z4 => ?_
    refine call_fn (hsh z3 z4) (Seals.refl _ _) qS ?_
    rintro _ _ _ ⟨rfl, rfl, rfl⟩
    refine cmp_split _ rfl (fun e2 => ?_) (fun e2 => ?_)
    · rw [if_pos (sgn0.1 e2)]
      refine ar rfl qI ?_
      exact fin ⟨rfl, rfl, rfl⟩ (Seals.trans (Seals.drop 0 _ _) (Seals.nil _ _))
    · rw [if_neg (fun h => e2 (sgn0.2 h)), Int.sub_zero]
      exact fin ⟨rfl, rfl, rfl⟩ (Seals.trans (Seals.drop 0 _ _) (Seals.nil _ _))
end Go.Proofs.YtjebljkoiaojaaaGreat
