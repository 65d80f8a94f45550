/- Towards the statement, part 5 of 6: contracts of functions, and what they rest on. Conditions: each theorem names its own. -/
import Derived.Test.YtgpcepcbdpigfaaGreatM4
set_option linter.unusedVariables false
set_option linter.unusedSimpArgs false
namespace Go.Proofs.YtgpcepcbdpigfaaGreat
open Go.RowKit
structure FlSpec (p : List Int) (x y : Int) (O : List Int) (e : Int) : Prop where
  bad : dg p = 0 ∨ y < x → O = [] ∧ e = 1
  ok : 0 < dg p → x ≤ y → e = 0 ∧ ∃ s ls, SimSpec p s ∧ ChL ls ∧ ls.getD 0 [] = s ∧ ls.length ≤ dg s ∧ Flr ls x (y + 1) O
  few : O.length ≤ 1048578
def fP5 (ls : List (List Int)) (q : Int × Int) : Dat := pD q.1 q.2 (tns ls q.1 : Nat) (tns ls q.2 : Nat)
def Dbl (st : List (Int × Int)) (b : Int) : Prop := ∀ p, p ∈ st → p.1 - b ≤ p.2 - p.1
theorem dbl_len : ∀ {st : List (Int × Int)} {b c e : Int}, Stk st c e → (∀ p, p ∈ st → p.1 - b ≤ p.2 - p.1) → b ≤ c → (c - b) * 2 ^ st.length ≤ e - b
  | [], b, c, e, h, _, _ => by have : c = e := h; simp [this]
  | p :: r, b, c, e, h, hd, hbc => by
    have h1 := h.1
    have h2 := h.2.1
    have h3 := hd p (List.mem_cons_self ..)
    have ih := dbl_len h.2.2 (b := b) (fun q hq => hd q (List.mem_cons_of_mem _ hq)) (by omega)
    have h4 : (0 : Int) ≤ 2 ^ r.length := Int.le_of_lt (Int.pow_pos (by decide))
    have h5 : (c - b) * 2 * 2 ^ r.length ≤ (p.2 - b) * 2 ^ r.length := Int.mul_le_mul_of_nonneg_right (by omega) h4
    rw [List.length_cons, Int.pow_succ]
    have e1 : (c - b) * (2 ^ r.length * 2) = (c - b) * 2 * 2 ^ r.length := by grind
    omega
theorem stk_short {st : List (Int × Int)} {b e : Int} {a : Nat} (h : Stk st b e) (hd : Dbl st b) (hb : sz b a) (he : sz e a) : st.length ≤ 64 * a + 2 := by
  cases st with
  | nil => simp
  | cons p r =>
    have h1 := h.1
    have h2 := h.2.1
    have h3 := dbl_len h.2.2 (b := b) (fun q hq => hd q (List.mem_cons_of_mem _ hq)) (by omega)
    have h4 : (1 : Int) ≤ 2 ^ r.length := Int.pow_pos (by decide)
    have h5 : (1 : Int) * 2 ^ r.length ≤ (p.2 - b) * 2 ^ r.length := Int.mul_le_mul_of_nonneg_right (by omega) (by omega)
    have h6 : (2 : Int) ^ r.length ≤ e - b := by omega
    unfold sz at hb he
    have h7 : ((2 ^ r.length : Nat) : Int) ≤ e - b := by rw [Int.natCast_pow]; exact h6
    have h8 : 2 ^ r.length < 2 ^ (64 * a + 1) := by
      rw [Nat.pow_succ, Nat.pow_mul, show 2 ^ 64 = 18446744073709551616 from rfl]; omega
    have := (Nat.pow_lt_pow_iff_right (show 1 < 2 by decide)).1 h8
    simp only [List.length_cons]; omega
structure FlS where
  st : List (Int × Int)
  O : List Int
  ov : Value
  wv : Value
  b : Int
theorem floors_meets (v w u : Value) (p : Row) (x y : Bool × List Nat) (k n a : Nat) (hp : Fit k p) (lp : p.length ≤ n) (hx : Lim x.2) (hxa : x.2.length ≤ a) (hy : Lim y.2) (hya : y.2.length ≤ a) (ha : 1 ≤ a) (haa : a ≤ 1073741824) (hk : ChOk (vv p) k n (a + 1)) :
    Meets Tryz.prog 17 [v, w, u] [(v, V p), (w, J x), (u, J y)] (fun r os fs => os = [] ∧ ∃ q O e, r = .tuple #[q, .int .i64 e] ∧ FlSpec (vv p) (jv x) (jv y) O e ∧ fs = [(q, vd O)]) := by
  obtain ⟨z1, z2, z3, ⟨K, mm, hss, hmn, z4, z5⟩, z6⟩ := hk
  have hka : k ≤ 137438953472 := by
    have : (n + 1) * (a + 1 + 1) = n * (a + 1 + 1) + (a + 1 + 1) := Nat.add_one_mul _ _
    omega
  have zx : sz (jv x) (a + 1) := (sz_jv hx hxa).mono (by omega)
  have zE : sz (jv y + 1) (a + 1) := by
    have := sz_sub (sz_jv hy hya) (((sz_one 1 (by decide)).mono ha).neg)
    rwa [Int.sub_neg] at this
  have hadd : ∀ r1 r2, Meets Tryz.prog 29 [r1, r2] [(r1, J y), (r2, zd 1)] (fun r os fs => os = [] ∧ fs = [(r, zd (jv y + 1))]) := fun r1 r2 => by
    have := zAddJ r1 r2 y (cn 1) hy (by omega) (Lim_lims _) (Nat.le_trans (sz_one 1 (by decide)).len (by decide))
    rw [jv_cn] at this
    exact this
  have hnorm : ∀ r1, Meets Tryz.prog 47 [r1] [(r1, J x)] (fun r os fs => os = [] ∧ fs = [(r, zd (jv x))]) := fun r1 => znorm_meets r1 x.1 x.2 hx (by omega)
  refine meets_of_vc Tryz.func17 (by kernel_rfl) rfl (by kernel_rfl) (Nat.le_of_ble_eq_true rfl) ?_
  refine box_rule (Reads.fact (d := J x) qM) fun bx hbx => ?_
  refine box_rule (Reads.fact (d := J y) qM) fun by' hby => ?_
  refine call_fn (pDegreeN v p (hp.mono hka)) (Seals.refl _ _) qS ?_
  rintro _ _ _ ⟨rfl, rfl, rfl⟩
  have hpos := fun (h : 0 < dg (vv p)) => chain_meets v p k n K mm hp lp z1 h z2 z3 hss hmn z4
  have hlsn : dg (vv p) ≤ n := Nat.le_trans (dg_le_len _) (by rw [vv_len]; exact lp)
  generalize hP : vv p = P at *
  refine cmp_split _ rfl (fun hz => ?_) (fun hz => ?_)
  · refine fin ⟨rfl, .slice none 0 0, [], 1, rfl, ⟨fun _ => ⟨rfl, rfl⟩, fun h => by omega, by decide⟩, rfl⟩ (Seals.trans (Seals.drop 0 _ _) (Seals.trans (Seals.drop 0 _ _) (Seals.cons (Knw.nil 2 _) (Seals.nil _ _))))
  have hd0 : 0 < dg P := by omega
  refine load_box (d := J y) 0 rfl hby rfl (load_J _) fun y1 => ?_
  refine load_box (d := J x) 1 rfl hbx rfl (load_J _) fun y2 => ?_
  refine call_fn (zCmpS y1 y2 y x hy hx (by omega) (by omega)) (Seals.refl _ _) qS ?_
  rintro _ _ _ ⟨rfl, rfl, rfl⟩
  refine cmp_split _ rfl (fun hlt => ?_) (fun hlt => ?_)
  · have hl : jv y < jv x := by have := sgn_lt.1 hlt; omega
    refine fin ⟨rfl, .slice none 0 0, [], 1, rfl, ⟨fun _ => ⟨rfl, rfl⟩, fun _ h => by omega, by decide⟩, rfl⟩ (Seals.trans (Seals.drop 0 _ _) (Seals.trans (Seals.drop 0 _ _) (Seals.cons (Knw.nil 2 _) (Seals.nil _ _))))
  have hl : jv x ≤ jv y := Int.not_lt.1 fun h => hlt (sgn_lt.2 (by omega))
  refine call_fn (hpos hd0) (Seals.refl _ _) qS ?_
  rintro lv _ _ ⟨rfl, s, ls, hs, hc, hall, rfl⟩
  obtain ⟨c1, c2, c3⟩ := hc.chain hd0 hs
  have hch : ChL ls := ⟨hc.len, c1⟩
  have hln := hc.len
  have hsd : dg s ≤ n := by
    obtain ⟨gg, hg1, hg2⟩ := hs.ok hd0
    have := Dv.deg (a := s) (b := pprim P) ⟨gg, fun x => by rw [hg2]; exact Int.mul_comm _ _⟩ (by rw [pprim_dg]; exact hd0)
    rw [pprim_dg] at this; omega
  have hs0 : szR K (ls.getD 0 []) ∧ (ls.getD 0 []).length ≤ n := by
    refine hall _ ?_
    rw [List.getD_eq_getElem?_getD, List.getElem?_eq_getElem (by omega)]
    exact List.getElem_mem _
  have htj := fun l w (x : Bool × List Nat) (hx : Lim x.2) (hxa : x.2.length ≤ a + 1) => turnsT l w ls x K (a + 1) n hall hx hxa z5 (by omega) (by omega)
  have htz : ∀ l w t, sz t (a + 1) → Meets Tryz.prog 38 [l, w] [(l, wd ls), (w, zd t)] (fun r os fs => os = [] ∧ fs = [] ∧ r = .int .i64 (tns ls t : Nat)) := fun l w t ht => by
    have := htj l w (cn t) (Lim_lims _) ht.len
    rw [jv_cn] at this
    exact this
  have hT : ∀ t, tns ls t ≤ 1048576 := fun t => by have := tns_le ls t; omega
  refine alloc_rule (t := 51) (d := .sl 1 0 fun _ => .one (.bool false)) fun bl hbl => ?_
  refine store_box (d := wd ls) 0 rfl hbl rfl (by kernel_rfl) (Reads.fact (v := lv) qM) ?_
  refine draw_join (X := Value) (fun eb => ([(4, bx), (8, bl), (9, .func (.func 46) #[] #[bl]), (10, .slice none 0 0), (11, eb)], [own1 by' 2 1 (fun _ => J y), own1 bx 2 1 (fun _ => J x)], [(eb, .ptr (zd (jv y + 1))), (bl, .ptr (wd ls))])) (fun _ => True) ?_ ?_
  ·
    refine draw_ord [0, 1, 2, 3, 4] (by kernel_rfl) ?_
    refine ord_split 1 3 (by kernel_rfl) (by kernel_rfl) (by kernel_rfl) ?_ ?_
    · refine ord_split 2 3 (by kernel_rfl) (by kernel_rfl) (by kernel_rfl) ?_ ?_
      · refine ord_go [0, 1, 2, 3, 4] (by kernel_rfl) (by kernel_rfl) ?_
        refine load_box (d := J y) 1 rfl hby rfl (load_J _) fun r1 => ?_
        refine call_fn (zof_meets 1 (by decide) (by decide)) (Seals.refl _ _) qS ?_
        rintro r2 _ _ ⟨rfl, rfl⟩
        refine call_fn (hadd r1 r2) (Seals.refl _ _) qS ?_
        rintro r3 _ _ ⟨rfl, rfl⟩
        refine alloc_rule (d := I false []) fun eb heb => ?_
        refine store_box (d := zd (jv y + 1)) 0 rfl heb rfl (by kernel_rfl) (Reads.fact (v := r3) qM) ?_
        exact again eb trivial trivial qF (Seals.trans (Seals.box (d := zd (jv y + 1)) 0 rfl heb rfl) (Seals.trans (Seals.box (d := wd ls) 0 rfl hbl rfl) (Seals.sub qS)))
      · refine ord_go [0, 1, 3, 2, 4] (by kernel_rfl) (by kernel_rfl) ?_
        refine load_box (d := J y) 1 rfl hby rfl (load_J _) fun r1 => ?_
        refine call_fn (zof_meets 1 (by decide) (by decide)) (Seals.refl _ _) qS ?_
        rintro r2 _ _ ⟨rfl, rfl⟩
        refine alloc_rule (d := I false []) fun eb heb => ?_
        refine call_fn (hadd r1 r2) (Seals.refl _ _) qS ?_
        rintro r3 _ _ ⟨rfl, rfl⟩
        refine store_box (d := zd (jv y + 1)) 0 rfl heb rfl (by kernel_rfl) (Reads.fact (v := r3) qM) ?_
        exact again eb trivial trivial qF (Seals.trans (Seals.box (d := zd (jv y + 1)) 0 rfl heb rfl) (Seals.trans (Seals.box (d := wd ls) 0 rfl hbl rfl) (Seals.sub qS)))
    · refine ord_go [0, 3, 1, 2, 4] (by kernel_rfl) (by kernel_rfl) ?_
      refine load_box (d := J y) 1 rfl hby rfl (load_J _) fun r1 => ?_
      refine alloc_rule (d := I false []) fun eb heb => ?_
      refine call_fn (zof_meets 1 (by decide) (by decide)) (Seals.refl _ _) qS ?_
      rintro r2 _ _ ⟨rfl, rfl⟩
      refine call_fn (hadd r1 r2) (Seals.refl _ _) qS ?_
      rintro r3 _ _ ⟨rfl, rfl⟩
      refine store_box (d := zd (jv y + 1)) 0 rfl heb rfl (by kernel_rfl) (Reads.fact (v := r3) qM) ?_
      exact again eb trivial trivial qF (Seals.trans (Seals.box (d := zd (jv y + 1)) 0 rfl heb rfl) (Seals.trans (Seals.box (d := wd ls) 0 rfl hbl rfl) (Seals.sub qS)))
  rintro eb -
  simp only
  have loadW : LoadAs Tryz.prog 51 (wd ls) := (inferInstanceAs (TOne Tryz.prog 51))
  refine draw_rule [0, 2, 3, 4, 6, 7, 1, 5, 8, 9, 10, 11] [0, 1, 2, 3, 4, 5, 6, 7, 8, 9, 10, 11] (by kernel_rfl) (by kernel_rfl) ?_
  refine load_box (d := J x) 1 rfl hbx rfl (load_J _) fun f1 => ?_
  refine load_fact (d := zd (jv y + 1)) qM (load_I _ _) fun f2 => ?_
  refine load_fact (d := wd ls) qM loadW fun f3 => ?_
  refine load_box (d := J x) 1 rfl hbx rfl (load_J _) fun f4 => ?_
  refine load_fact (d := wd ls) qM loadW fun f5 => ?_
  refine load_fact (d := zd (jv y + 1)) qM (load_I _ _) fun f6 => ?_
  refine call_fn (hnorm f1) (Seals.refl _ _) qS ?_
  rintro f7 _ _ ⟨rfl, rfl⟩
  refine call_fn (htj f3 f4 x hx (by omega)) (Seals.refl _ _) qS ?_
  rintro _ _ _ ⟨rfl, rfl, rfl⟩
  refine call_fn (htz f5 f6 (jv y + 1) zE) (Seals.refl _ _) qS ?_
  rintro _ _ _ ⟨rfl, rfl, rfl⟩
  generalize hX : jv x = X at *
  generalize hY : jv y + 1 = E at *
  have hXE : X < E := by omega
  refine build2211 (Knw.fact (v := f7) (d := zd X) qM) (Knw.fact (v := f2) (d := zd E) qM) rfl rfl fun pv => ?_
  refine buildSlice_own (size := 6) (n := 1) [pv] [fP5 ls (X, E)] rfl rfl (by decide) (by decide) ⟨Reads.fact (v := pv) (List.Mem.head _), rfl, trivial⟩ fun w0 hw0 => ?_
  have hf0 : Flr ls X X [] := ⟨trivial, fun t => ⟨fun h => by simp at h, fun h => by omega⟩⟩
  have hml : ∀ l : List Int, (l.map cn).length = l.length := fun l => List.length_map _
  refine loop_rule (X := FlS) (fun x => ([(8, bl), (9, .func (.func 46) #[] #[bl]), (10, x.ov), (12, x.wv)], [ownL 2 J z0 x.ov (x.O.map cn), ownL 6 (fP5 ls) (0, 0) x.wv x.st.reverse], [(bl, .ptr (wd ls))]))
    (fun x => isSl x.ov ∧ isSl x.wv ∧ Stk x.st x.b E ∧ Dbl x.st x.b ∧ Flr ls X x.b x.O ∧ X ≤ x.b ∧ (x.O.length : Int) ≤ cnt ls X x.b) (fun x => (2 * (E - x.b) - x.st.length).toNat) rfl ?_ ?_
  · refine again ⟨[(X, E)], [], .slice none 0 0, w0, X⟩ ⟨isSl_nil, hw0, ⟨rfl, hXE, rfl⟩, fun q hq => by rw [List.mem_singleton.1 hq]; simp only; omega, hf0, Int.le_refl _, hch.nn0 (Int.le_refl _)⟩ trivial qF ?_
    refine Seals.trans (Seals.drop 1 _ _) (Seals.trans (Seals.drop 1 _ _) (Seals.trans (Seals.own_nil _ _ 2 fun i => J ((([] : List Int).map cn).getD i z0)) (Seals.trans (Seals.own_cong (os := [_, _]) 1 (n' := 1) (fun i => fP5 ls (([(X, E)] : List (Int × Int)).getD i (0, 0))) rfl rfl fun i hi => ?_) (Seals.sub qS))))
    have : i = 0 := by omega
    subst this; rfl
  rintro ⟨st, O, ov, wv, b⟩ ⟨hov, hwv, hsk, hdb, hfl, hXb, hOl⟩
  simp only at hov hwv hsk hdb hfl hXb hOl ⊢
  have hskl := hsk.le
  have zb : sz b (a + 1) := sz_btw zx zE hXb (by omega)
  have hsh := stk_short hsk hdb zb zE
  have hcb := hch.nn0 hXb
  have hcle : cnt ls X b ≤ 1048578 := by
    have := hT X
    unfold cnt manyV; split <;> split <;> omega
  have hrl : st.reverse.length = st.length := List.length_reverse
  refine len_own 1 rfl hwv fun _ => ?_
  refine cmp_split _ rfl (fun hgt => ?_) (fun hgt => ?_)
  · cases st with
    | nil => simp at hgt
    | cons q r =>
      obtain ⟨P1, P2⟩ := q
      obtain ⟨rfl, hP12, hsk2⟩ := hsk
      simp only at hP12 hsk2 hXb hOl hfl hdb hskl zb hsh hcb hcle
      simp only [List.length_cons] at hrl hskl hsh
      have hr2 : r.reverse.length = r.length := List.length_reverse
      have hrev : ((P1, P2) :: r).reverse = r.reverse ++ [(P1, P2)] := List.reverse_cons
      have hsk2l := hsk2.le
      have zP2 : sz P2 (a + 1) := sz_btw zx zE (by omega) (by omega)
      have hel : fP5 ls (((P1, P2) :: r).reverse.getD r.length (0, 0)) = pD P1 P2 (tns ls P1 : Nat) (tns ls P2 : Nat) := by
        rw [hrev, List.getD_eq_getElem?_getD, List.getElem?_append_right (by omega), hr2, Nat.sub_self]; rfl
      have hdb2 : Dbl r P2 := fun q hq => by have := hdb q (List.mem_cons_of_mem _ hq); omega
      have hm1 := hT P1
      have hm2 := hT P2
      have hmany : ∀ y2, Meets Tryz.prog 46 ([] ++ [y2] ++ [bl]) [(y2, pD P1 P2 (tns ls P1 : Nat) (tns ls P2 : Nat)), (bl, .ptr (wd ls))] (fun r os fs => os = [] ∧ fs = [] ∧ r = .int .i64 (cnt ls P1 P2)) := fun y2 => many_meets y2 bl ls P1 P2 _ _ K (a + 1) n hln hs0.1 hs0.2 zb zP2 z5 (by omega) ⟨by omega, by omega⟩ ⟨by omega, by omega⟩
      have hc12 := hch.nn0 (Int.le_of_lt hP12)
      have hcsum := cnt_add ls X P1 P2
      have hst2 := hsk2
      have hal := fun (I0 : Int → Int → Prop) (h0 : I0 P1 P2) (hst : ∀ x y, I0 x y → P1 ≤ x → y ≤ P2 → x + 1 < y → pev (ls.getD 0 []) x ≠ 0 → if pev (ls.getD 0 []) x * pev (ls.getD 0 []) ((x + y) / 2) < 0 then I0 x ((x + y) / 2) else I0 ((x + y) / 2) y) (u1 u2 : Value) => (by
        rw [get_cn]
        exact alone_meets u1 u2 (ls.getD 0 []) P1 P2 (tns ls P1 : Nat) (tns ls P2 : Nat) K (a + 1) n I0 hs0.1 hs0.2 zb zP2 (by omega) z5 (by omega) (by omega) h0 hP12 hst : Meets Tryz.prog 48 [u1, u2] [(u1, V ((ls.map fun l => l.map cn).getD 0 [])), (u2, fP5 ls (P1, P2))] (fun r os fs => os = [] ∧ ∃ x y, P1 ≤ x ∧ x < y ∧ y ≤ P2 ∧ I0 x y ∧ (pev (ls.getD 0 []) x = 0 ∨ y = x + 1) ∧ fs = [(r, zd x)]))
      have hcg : ∀ i, i < r.length → fP5 ls (((P1, P2) :: r).reverse.getD i (0, 0)) = fP5 ls (r.reverse.getD i (0, 0)) := fun i hi => by
        rw [hrev, List.getD_eq_getElem?_getD, List.getElem?_append_left (by omega), ← List.getD_eq_getElem?_getD]
      have hpop : ∀ {o1 : Own} {ob : Own} {fs : List Fact}, Seals [ob, o1, ownL 6 (fP5 ls) (0, 0) wv ((P1, P2) :: r).reverse] fs [o1, ownL 6 (fP5 ls) (0, 0) (pfx wv r.length) r.reverse] fs := fun {o1 ob fs} =>
        Seals.trans (Seals.drop 0 _ _) (Seals.trans (Seals.pfx (os := [o1, ownL 6 (fP5 ls) (0, 0) wv ((P1, P2) :: r).reverse]) 1 rfl hwv r.length (by omega)) (Seals.own_cong (os := [o1, own1 (pfx wv r.length) 6 r.length _]) 1 (n' := r.reverse.length) (fun i => fP5 ls (r.reverse.getD i (0, 0))) rfl hr2.symm hcg))
      have hpre : ∀ {o1 o2 o3 : Own} {fs : List Fact}, Seals [o1, o2, o3, ownL 6 (fP5 ls) (0, 0) wv ((P1, P2) :: r).reverse] fs [o1, o2, o3, ownL 6 (fP5 ls) (0, 0) (pfx wv r.length) r.reverse] fs := fun {o1 o2 o3 fs} =>
        Seals.trans (Seals.pfx (os := [o1, o2, o3, ownL 6 (fP5 ls) (0, 0) wv ((P1, P2) :: r).reverse]) 3 rfl hwv r.length (by omega)) (Seals.own_cong (os := [o1, o2, o3, own1 (pfx wv r.length) 6 r.length _]) 3 (n' := r.reverse.length) (fun i => fP5 ls (r.reverse.getD i (0, 0))) rfl hr2.symm hcg)
      refine len_own 1 rfl hwv fun _ => ?_
      refine ar rfl qI ?_
      refine index_elem 1 rfl hwv r.length (by omega) (by omega) ?_
      refine load_elem' (d := fP5 ls (P1, P2)) 1 rfl r.length (by omega) hel (load_pD _ _ _ _) fun y1 => ?_
      refine alloc_rule (d := pZ) fun wb hwb => ?_
      refine store_box (d := fP5 ls (P1, P2)) 0 rfl hwb rfl (by kernel_rfl) (Reads.fact (v := y1) qM) ?_
      refine len_own 2 rfl hwv fun _ => ?_
      refine ar rfl qI ?_
      refine slice_pfx 2 rfl hwv r.length (by omega) (by omega) (by decide) ?_
      refine load_box (d := fP5 ls (P1, P2)) 0 rfl hwb rfl (load_pD _ _ _ _) fun y2 => ?_
      refine call_rule (first := []) (cap := [bl]) (Seals.refl _ _) (hmany y2) qS ?_
      rintro _ _ _ ⟨rfl, rfl, rfl⟩
      refine cmp_split _ rfl (fun hn0 => ?_) (fun hn0 => ?_)
      · exact again ⟨r, O, ov, pfx wv r.length, P2⟩ ⟨hov, pfx_sl hwv, hst2, hdb2, hfl.skip hch (Int.le_of_lt hP12) hn0, by simp only; omega, by simp only; omega⟩ (by simp only [List.length_cons]; omega) qF (Seals.trans hpop (Seals.sub qS))
      refine draw_rule [0, 1, 2, 3, 4, 7, 8, 5, 6, 9, 10, 11, 12] [0, 1, 2, 3, 4, 5, 6, 7, 8, 9, 10, 11, 12] (by kernel_rfl) (by kernel_rfl) ?_
      refine cmp_split _ rfl (fun hn1 => ?_) (fun hn1 => ?_)
      · have hI : ∃ I0 : Int → Int → Prop, I0 P1 P2 ∧ (∀ x y, I0 x y → P1 ≤ x → y ≤ P2 → x + 1 < y → pev (ls.getD 0 []) x ≠ 0 → if pev (ls.getD 0 []) x * pev (ls.getD 0 []) ((x + y) / 2) < 0 then I0 x ((x + y) / 2) else I0 ((x + y) / 2) y) ∧
            ∀ x y, P1 ≤ x → x < y → y ≤ P2 → I0 x y → (pev (ls.getD 0 []) x = 0 ∨ y = x + 1) → 0 < cnt ls x (x + 1) ∧ cnt ls P1 x = 0 ∧ cnt ls (x + 1) P2 = 0 := by
          refine ⟨fun x y => cnt ls x y = 1, hn1, fun x y h1 h2 h3 h4 h5 => hch.half (by omega) (by omega) h1 h5, fun x y h1 h2 h3 h4 h5 => ?_⟩
          have g1 : 0 < cnt ls x (x + 1) := by
            rcases h5 with h5 | h5
            · have := hch.nn (show x < x + 1 by omega)
              rw [if_pos h5] at this; omega
            · rw [← h5, h4]; decide
          have e1 := cnt_add ls P1 x P2
          have e2 := cnt_add ls x (x + 1) P2
          have p1 := hch.nn0 h1
          have p2 := hch.nn0 (show x + 1 ≤ P2 by omega)
          exact ⟨g1, by omega, by omega⟩
        obtain ⟨I0, hi0, hst, hfin⟩ := hI
        refine draw_rule [0, 1, 2, 3, 4, 5, 6, 7, 8] [0, 1, 2, 3, 4, 5, 6, 7, 8] (by kernel_rfl) (by kernel_rfl) ?_
        refine load_fact (d := wd ls) qM loadW fun h1 => ?_
        refine index_fact (v := h1) qM 0 rfl (by rw [List.length_map]; omega) fun h2 => ?_
        refine load_fact (d := V ((ls.map fun l => l.map cn).getD 0 [])) qM (load_P _) fun h3 => ?_
        refine load_box (d := fP5 ls (P1, P2)) 0 rfl hwb rfl (load_pD _ _ _ _) fun h4 => ?_
        refine call_fn (hal I0 hi0 hst h3 h4) (Seals.refl _ _) qS ?_
        rintro h5 _ _ ⟨rfl, x', y', g1, g2, g3, g4, g5, rfl⟩
        obtain ⟨q1, q2, q3⟩ := hfin x' y' g1 g2 g3 g4 g5
        refine lit_L (size := 2) J z0 (cn x') (by decide) (Reads.fact (v := h5) (d := zd x') qM) rfl fun h6 => ?_
        refine append_L 1 rfl hov (Knw.fact (v := h6) qM) (by rw [hml]; simp only [List.length_cons, List.length_nil]; omega) (by rw [hml]; simp only [List.length_cons, List.length_nil]; omega) fun ov2 hov2 => ?_
        rw [map_snoc cn]
        have hO2 : ((O ++ [x']).length : Int) ≤ cnt ls X P2 := by
          rw [List.length_append]
          have e1 := cnt_add ls X P1 P2
          have e2 := cnt_add ls P1 x' P2
          have e3 := cnt_add ls x' (x' + 1) P2
          simp only [List.length_cons, List.length_nil]; omega
        exact again ⟨r, O ++ [x'], ov2, pfx wv r.length, P2⟩ ⟨hov2, pfx_sl hwv, hst2, hdb2, hfl.one hch hXb g1 (show x' + 1 ≤ P2 by omega) q1 q2 q3, by simp only; omega, hO2⟩ (by simp only [List.length_cons]; omega) qF (Seals.trans hpop (Seals.sub qS))
      ·
        refine field_box 0 rfl hwb ?_
        refine load_box_field (d := zd P1) 0 rfl (Part.left (Part.refl _)) (load_I _ _) fun u1 => ?_
        refine field_box 0 rfl hwb ?_
        refine load_box_field (d := zd P2) 0 rfl (Part.right (Part.left (Part.refl _))) (load_I _ _) fun u2 => ?_
        refine call_fn (zof_meets 1 (by decide) (by decide)) (Seals.refl _ _) qS ?_
        rintro u3 _ _ ⟨rfl, rfl⟩
        have zb1 : sz (P1 + 1) (a + 1) := sz_btw zx zE (by omega) (by omega)
        refine call_fn (zAddZ2 u1 u3 P1 1 (a + 1) zb ((sz_one 1 (by decide)).mono (by omega)) (by omega)) (Seals.refl _ _) qS ?_
        rintro u4 _ _ ⟨rfl, rfl⟩
        refine call_fn (zCmpZS u4 u2 (P1 + 1) P2 (a + 1) zb1 zP2 (by omega)) (Seals.refl _ _) qS ?_
        rintro _ _ _ ⟨rfl, rfl, rfl⟩
        refine cmp_split _ rfl (fun hw1 => ?_) (fun hw1 => ?_)
        · have hPP : P2 = P1 + 1 := by have := sgn0.1 hw1; omega
          have hI : ∃ I0 : Int → Int → Prop, I0 P1 P2 ∧ (∀ x y, I0 x y → P1 ≤ x → y ≤ P2 → x + 1 < y → pev (ls.getD 0 []) x ≠ 0 → if pev (ls.getD 0 []) x * pev (ls.getD 0 []) ((x + y) / 2) < 0 then I0 x ((x + y) / 2) else I0 ((x + y) / 2) y) ∧
              ∀ x y, P1 ≤ x → x < y → y ≤ P2 → I0 x y → (pev (ls.getD 0 []) x = 0 ∨ y = x + 1) → 0 < cnt ls x (x + 1) ∧ cnt ls P1 x = 0 ∧ cnt ls (x + 1) P2 = 0 := by
            refine ⟨fun _ _ => True, trivial, fun _ _ _ _ _ h _ => by omega, fun x y h1 h2 h3 _ _ => ?_⟩
            obtain rfl : x = P1 := by omega
            have e1 : cnt ls x x = 0 := by unfold cnt manyV; omega
            have e2 : cnt ls P2 P2 = 0 := by unfold cnt manyV; omega
            rw [← hPP]
            exact ⟨by omega, e1, e2⟩
          obtain ⟨I0, hi0, hst, hfin⟩ := hI
          refine draw_rule [0, 1, 2, 3, 4, 5, 6, 7, 8] [0, 1, 2, 3, 4, 5, 6, 7, 8] (by kernel_rfl) (by kernel_rfl) ?_
          refine load_fact (d := wd ls) qM loadW fun h1 => ?_
          refine index_fact (v := h1) qM 0 rfl (by rw [List.length_map]; omega) fun h2 => ?_
          refine load_fact (d := V ((ls.map fun l => l.map cn).getD 0 [])) qM (load_P _) fun h3 => ?_
          refine load_box (d := fP5 ls (P1, P2)) 0 rfl hwb rfl (load_pD _ _ _ _) fun h4 => ?_
          refine call_fn (hal I0 hi0 hst h3 h4) (Seals.refl _ _) qS ?_
          rintro h5 _ _ ⟨rfl, x', y', g1, g2, g3, g4, g5, rfl⟩
          obtain ⟨q1, q2, q3⟩ := hfin x' y' g1 g2 g3 g4 g5
          refine lit_L (size := 2) J z0 (cn x') (by decide) (Reads.fact (v := h5) (d := zd x') qM) rfl fun h6 => ?_
          refine append_L 1 rfl hov (Knw.fact (v := h6) qM) (by rw [hml]; simp only [List.length_cons, List.length_nil]; omega) (by rw [hml]; simp only [List.length_cons, List.length_nil]; omega) fun ov2 hov2 => ?_
          rw [map_snoc cn]
          have hO2 : ((O ++ [x']).length : Int) ≤ cnt ls X P2 := by
            rw [List.length_append]
            have e1 := cnt_add ls X P1 P2
            have e2 := cnt_add ls P1 x' P2
            have e3 := cnt_add ls x' (x' + 1) P2
            simp only [List.length_cons, List.length_nil]; omega
          exact again ⟨r, O ++ [x'], ov2, pfx wv r.length, P2⟩ ⟨hov2, pfx_sl hwv, hst2, hdb2, hfl.one hch hXb g1 (show x' + 1 ≤ P2 by omega) q1 q2 q3, by simp only; omega, hO2⟩ (by simp only [List.length_cons]; omega) qF (Seals.trans hpop (Seals.sub qS))
        · have hw : P1 + 1 < P2 := by
            have : P1 + 1 - P2 ≠ 0 := fun e => hw1 (sgn0.2 e)
            omega
          have zs : sz (P1 + P2) (a + 2) := by
            have := sz_sub zb zP2.neg
            rwa [Int.sub_neg] at this
          have zM : sz ((P1 + P2) / 2) (a + 1) := sz_btw zx zE (by omega) (by omega)
          have hM : P1 < (P1 + P2) / 2 ∧ (P1 + P2) / 2 < P2 ∧ (P1 + P2) / 2 - P1 ≤ P2 - (P1 + P2) / 2 := by omega
          refine field_box 0 rfl hwb ?_
          refine load_box_field (d := zd P1) 0 rfl (Part.left (Part.refl _)) (load_I _ _) fun u5 => ?_
          refine field_box 0 rfl hwb ?_
          refine load_box_field (d := zd P2) 0 rfl (Part.right (Part.left (Part.refl _))) (load_I _ _) fun u6 => ?_
          refine call_fn (zAddZ2 u5 u6 P1 P2 (a + 1) zb zP2 (by omega)) (Seals.refl _ _) qS ?_
          rintro u7 _ _ ⟨rfl, rfl⟩
          refine call_fn (zShrZ u7 (P1 + P2) (a + 2) zs (by omega)) (Seals.refl _ _) qS ?_
          rintro u8 _ _ ⟨rfl, rfl⟩
          generalize (P1 + P2) / 2 = M at *
          have hm3 := hT M
          refine alloc_rule (d := I false []) fun mb hmb => ?_
          refine store_box (d := zd M) 0 rfl hmb rfl (by kernel_rfl) (Reads.fact (v := u8) qM) ?_
          refine load_fact (d := wd ls) qM loadW fun v1 => ?_
          refine load_box (d := zd M) 0 rfl hmb rfl (load_I _ _) fun v2 => ?_
          refine call_fn (htz v1 v2 M zM) hpre qS ?_
          rintro _ _ _ ⟨rfl, rfl, rfl⟩
          refine load_box (d := zd M) 0 rfl hmb rfl (load_I _ _) fun v3 => ?_
          refine field_box 1 rfl hwb ?_
          refine load_box_field (d := zd P2) 1 rfl (Part.right (Part.left (Part.refl _))) (load_I _ _) fun v4 => ?_
          refine field_box 1 rfl hwb ?_
          refine load_box_field_one (u := .int .i64 (tns ls P2 : Nat)) 1 rfl (Part.right (Part.right (Part.right (Part.refl _)))) ?_
          refine build2211 (Knw.fact (v := v3) (d := zd M) qM) (Knw.fact (v := v4) (d := zd P2) qM) rfl rfl fun v5 => ?_
          refine field_box 1 rfl hwb ?_
          refine load_box_field (d := zd P1) 1 rfl (Part.left (Part.refl _)) (load_I _ _) fun v6 => ?_
          refine load_box (d := zd M) 0 rfl hmb rfl (load_I _ _) fun v7 => ?_
          refine field_box 1 rfl hwb ?_
          refine load_box_field_one (u := .int .i64 (tns ls P1 : Nat)) 1 rfl (Part.right (Part.right (Part.left (Part.refl _)))) ?_
          refine build2211 (Knw.fact (v := v6) (d := zd P1) qM) (Knw.fact (v := v7) (d := zd M) qM) rfl rfl fun v8 => ?_
          refine lit2_L (size := 6) (fP5 ls) (0, 0) (M, P2) (P1, M) (by decide) (Reads.fact (v := v5) (d := fP5 ls (M, P2)) qM) (Reads.fact (v := v8) (d := fP5 ls (P1, M)) qM) rfl rfl fun v9 => ?_
          refine append_L 3 rfl (pfx_sl hwv) (Knw.fact (v := v9) qM) (by rw [hr2]; simp only [List.length_cons, List.length_nil]; omega) (by rw [hr2]; simp only [List.length_cons, List.length_nil]; omega) fun wv2 hwv2 => ?_
          have hrev2 : r.reverse ++ [(M, P2), (P1, M)] = ((P1, M) :: (M, P2) :: r).reverse := by simp
          rw [hrev2]
          refine again ⟨(P1, M) :: (M, P2) :: r, O, ov, wv2, P1⟩ ⟨hov, hwv2, ⟨rfl, hM.1, rfl, hM.2.1, hsk2⟩, fun q hq => ?_, hfl, hXb, hOl⟩ (by simp only [List.length_cons]; omega) qF (Seals.trans (Seals.drop 0 _ _) (Seals.trans (Seals.drop 0 _ _) (Seals.sub qS)))
          rcases List.mem_cons.1 hq with rfl | hq
          · simp only; omega
          · rcases List.mem_cons.1 hq with rfl | hq
            · simp only; omega
            · exact hdb q (List.mem_cons_of_mem _ hq)
  · have hst0 : st = [] := List.length_eq_zero_iff.1 (by omega)
    subst hst0
    obtain rfl : b = E := hsk
    refine fin ⟨rfl, ov, O, 0, rfl, ⟨fun h => by omega, fun _ _ => ⟨rfl, s, ls, hs, hch, c3, hc.chain hd0 hs |>.2.1, by rw [hY]; exact hfl⟩, by omega⟩, rfl⟩ (Seals.trans (Seals.drop 1 _ _) (Seals.trans (Seals.toldL hov) (Seals.sub qS)))
open Go.RowKit
def mxa : List Int → Nat
  | [] => 0
  | c :: l => max c.natAbs (mxa l)
theorem mxa_snoc : ∀ (l : List Int) (c : Int), mxa (l ++ [c]) = max (mxa l) c.natAbs
  | [], c => by simp [mxa]
  | b :: l, c => by simp only [List.cons_append, mxa, mxa_snoc l c]; omega
theorem mxa_take {l : List Int} {i : Nat} (h : i < l.length) : mxa (l.take (i + 1)) = max (mxa (l.take i)) (l.getD i 0).natAbs := by
  rw [List.take_add_one, List.getElem?_eq_getElem h]
  have : l.getD i 0 = l[i] := by rw [List.getD_eq_getElem?_getD, List.getElem?_eq_getElem h]; rfl
  rw [this]
  exact mxa_snoc _ _
theorem mxa_sz {k : Nat} : ∀ {l : List Int}, szR k l → sz (mxa l : Nat) k
  | [], _ => sz_zero _
  | b :: l, h => by
    have h1 := mxa_sz (l := l) fun x hx => h x (List.mem_cons_of_mem _ hx)
    have h2 := h b (List.mem_cons_self ..)
    unfold sz at *
    simp only [mxa]; omega
def rbnd (l : List Int) : Int := (mxa (l.take (dg l - 1)) : Nat) / ((ld l).natAbs : Int) + 2
theorem zAbsJ (v : Value) (x : Bool × List Nat) (hx : Lim x.2) (lx : x.2.length ≤ 137438953472) :
    Meets Tryz.prog 27 [v] [(v, J x)] (fun r os fs => os = [] ∧ fs = [(r, zd ((jv x).natAbs : Nat))]) := by
  have h := zabs_meets v x.1 x.2 hx lx
  have e : nv x.2 = (jv x).natAbs := (iv_abs x.1 x.2).symm
  rw [e] at h
  exact h
theorem bound_meets (v : Value) (p : Row) (k : Nat) (hp : Fit k p) (hk : k ≤ 1073741824) (h1k : 1 ≤ k) (lp : p.length ≤ 1048576) :
    Meets Tryz.prog 8 [v] [(v, V p)] (fun r os fs => os = [] ∧ ∃ q, r = .tuple #[q, .int .i64 (if dg (vv p) = 0 then 1 else 0)] ∧ fs = [(q, zd (if dg (vv p) = 0 then 0 else rbnd (vv p)))]) := by
  have hdeg := pDegreeN v p (hp.mono (by omega))
  have hlen : (vv p).length = p.length := vv_len p
  have hdl := dg_le_len (vv p)
  refine meets_of_vc Tryz.func8 (by kernel_rfl) rfl (by kernel_rfl) (Nat.le_of_ble_eq_true rfl) ?_
  refine alloc_rule (d := I false []) fun o ho => ?_
  by_cases hz : dg (vv p) = 0
  · rw [if_pos hz, if_pos hz]
    refine call_fn hdeg (Seals.refl _ _) qS ?_
    rintro _ _ _ ⟨rfl, rfl, rfl⟩
    refine cmp_true rfl (by omega) ?_
    refine build0 (da := .one (.bool false)) (db := U (lims 0)) (fun S w => ⟨[.bool false], [.slice none 0 0], rfl, rd_false S w, by rw [lims_zero]; exact rd_nil S w 1 _⟩) fun z => ?_
    refine store_box (d := zd 0) 0 rfl ho rfl (by kernel_rfl) (Reads.fact (v := z) (d := zd 0) qM) ?_
    refine load_box (d := zd 0) 0 rfl ho rfl (load_I _ _) fun r => ?_
    exact fin ⟨rfl, r, rfl, rfl⟩ (Seals.trans (Seals.drop 0 _ _) (Seals.sub qS))
  rw [if_neg hz, if_neg hz]
  obtain ⟨D, hD⟩ : ∃ D, dg (vv p) = D + 1 := ⟨dg (vv p) - 1, by omega⟩
  rw [hD, show (((D + 1 : Nat) : Int) - 1) = (D : Nat) by omega] at hdeg
  have hld : ld (vv p) = jv (p.getD D z0) := by
    unfold ld; rw [hD]; exact vv_get p D (by omega)
  have hld0 := ld_ne (l := vv p) (by omega)
  have hM : ∀ i, sz (mxa ((vv p).take i) : Nat) k := fun i => mxa_sz (hp.szR.take i)
  have hMs : ∀ i, i < p.length → mxa ((vv p).take (i + 1)) = max (mxa ((vv p).take i)) (jv (p.getD i z0)).natAbs := fun i hi => by
    rw [mxa_take (by omega), vv_get p i hi]
  have hnn : ∀ (z : Int), sz z k → sz ((z.natAbs : Nat) : Int) k := fun z h => by unfold sz at *; rwa [Int.natAbs_natCast]
  have habs : ∀ y i, Meets Tryz.prog 27 [y] [(y, J (p.getD i z0))] (fun r os fs => os = [] ∧ fs = [(r, zd ((jv (p.getD i z0)).natAbs : Nat))]) := fun y i => by
    have := hp.get i
    exact zAbsJ y _ this.1 (by omega)
  have hdm := fun r1 r2 => zDivModZ r1 r2 (mxa ((vv p).take D) : Nat) ((jv (p.getD D z0)).natAbs : Nat) k k (hM D) (hnn _ (sz_jv (hp.get D).1 (hp.get D).2)) (by omega) (by omega) (by rw [hld] at hld0; omega)
  have hbd : rbnd (vv p) = ((mxa ((vv p).take D) : Nat) : Int) / ((jv (p.getD D z0)).natAbs : Int) + 2 := by unfold rbnd; rw [hD, hld]; rfl
  rw [hbd]
  have hQz : sz (((mxa ((vv p).take D) : Nat) : Int) / ((jv (p.getD D z0)).natAbs : Int)) k := sz_div (hM D)
  generalize hQ : ((mxa ((vv p).take D) : Nat) : Int) / ((jv (p.getD D z0)).natAbs : Int) = Q at *
  generalize ((mxa ((vv p).take D) : Nat) : Int) % ((jv (p.getD D z0)).natAbs : Int) = R at *
  refine call_fn hdeg (Seals.refl _ _) qS ?_
  rintro _ _ _ ⟨rfl, rfl, rfl⟩
  refine cmp_false rfl (by omega) ?_
  refine build0 (da := .one (.bool false)) (db := U (lims 0)) (fun S w => ⟨[.bool false], [.slice none 0 0], rfl, rd_false S w, by rw [lims_zero]; exact rd_nil S w 1 _⟩) fun z => ?_
  refine alloc_rule (d := I false []) fun mb hmb => ?_
  refine store_box (d := zd 0) 0 rfl hmb rfl (by kernel_rfl) (Reads.fact (v := z) (d := zd 0) qM) ?_
  refine slice_L (kl := .i64) (f := J) (z := z0) (l := p) qM 0 D none (some (.int .i64 (D : Nat))) (.inl ⟨rfl, rfl⟩) (.inr rfl) (Nat.zero_le _) (by omega) fun u => ?_
  refine len_fact (v := u) (n := D - 0) (List.Mem.tail _ (List.Mem.head _)) fun _ => ?_
  refine loop_rule (X := Nat) (fun i => ([(0, v), (2, o), (4, .int .i64 (D : Nat)), (5, mb), (19, u), (20, .int .i64 (D : Nat)), (21, .int .i64 (i : Nat))], [own1 mb 2 1 (fun _ => zd (mxa ((vv p).take i) : Nat)), own1 o 2 1 (fun _ => I false [])], [(u, .sl 2 (D - 0) fun i => J (p.getD (0 + i) z0)), (v, V p)]))
    (fun i => i ≤ D) (fun i => D - i) rfl ?_ ?_
  · exact again 0 (Nat.zero_le _) trivial qF (Seals.trans (Seals.box0 rfl) (Seals.sub qS))
  rintro i hi
  refine cmp_split _ rfl (fun hlt => ?_) (fun hlt => ?_)
  · have hiD : i < D := by omega
    have hs := hMs i (by omega)
    have za := hnn _ (sz_jv (hp.get i).1 (hp.get i).2)
    refine index_fact (v := u) qM i rfl (by omega) fun a1 => ?_
    refine load_fact (d := J (p.getD (0 + i) z0)) qM (load_J _) fun a2 => ?_
    rw [Nat.zero_add]
    refine alloc_rule (d := I false []) fun cb hcb => ?_
    refine store_box (d := J (p.getD i z0)) 0 rfl hcb rfl (by kernel_rfl) (Reads.fact (v := a2) qM) ?_
    refine draw_rule [0, 2, 1, 3, 4] [0, 1, 2, 3, 4] (by kernel_rfl) (by kernel_rfl) ?_
    refine load_box (d := J (p.getD i z0)) 0 rfl hcb rfl (load_J _) fun a3 => ?_
    refine load_box (d := zd (mxa ((vv p).take i) : Nat)) 1 rfl hmb rfl (load_I _ _) fun a4 => ?_
    refine call_fn (habs a3 i) (Seals.refl _ _) qS ?_
    rintro a5 _ _ ⟨rfl, rfl⟩
    refine call_fn (zCmpZS a5 a4 _ _ k za (hM i) (by omega)) (Seals.refl _ _) qS ?_
    rintro _ _ _ ⟨rfl, rfl, rfl⟩
    refine cmp_split _ rfl (fun hgt => ?_) (fun hgt => ?_)
    · have hg : mxa ((vv p).take i) < (jv (p.getD i z0)).natAbs := by
        refine Nat.lt_of_not_ge fun h => ?_
        rcases Int.lt_trichotomy (((jv (p.getD i z0)).natAbs : Int) - (mxa ((vv p).take i) : Nat)) 0 with g | g | g
        · rw [sgn_neg g] at hgt; omega
        · rw [g] at hgt; simp at hgt
        · omega
      refine load_box (d := J (p.getD i z0)) 0 rfl hcb rfl (load_J _) fun a6 => ?_
      refine call_fn (habs a6 i) (Seals.refl _ _) qS ?_
      rintro a7 _ _ ⟨rfl, rfl⟩
      refine store_box (d := zd ((jv (p.getD i z0)).natAbs : Nat)) 1 rfl hmb rfl (by kernel_rfl) (Reads.fact (v := a7) qM) ?_
      refine ar rfl qI ?_
      exact again (i + 1) (by omega) (by simp only; omega) qF (Seals.trans (Seals.drop 0 _ _) (Seals.trans (Seals.box0 (by rw [hs, Nat.max_eq_right (Nat.le_of_lt hg)]; rfl)) (Seals.sub qS)))
    · have hg : (jv (p.getD i z0)).natAbs ≤ mxa ((vv p).take i) := by
        refine Nat.le_of_not_lt fun h => hgt ?_
        rw [sgn_pos (show 0 < ((jv (p.getD i z0)).natAbs : Int) - (mxa ((vv p).take i) : Nat) by omega)]; decide
      refine ar rfl qI ?_
      exact again (i + 1) (by omega) (by simp only; omega) qF (Seals.trans (Seals.drop 0 _ _) (Seals.trans (Seals.box0 (by rw [hs, Nat.max_eq_left hg])) (Seals.sub qS)))
  have hiD : D = i := by omega
  subst hiD
  refine draw_join (X := Value) (fun b1 => ([(2, o), (8, b1)], [own1 o 2 1 (fun _ => I false [])], [(b1, .ptr (zd Q))])) (fun _ => True) ?_ ?_
  ·
      refine draw_ord [0, 1, 2, 3, 4, 5, 6, 7, 8, 11, 12, 13, 9, 14, 10, 15] (by kernel_rfl) ?_
      refine ord_split 5 11 (by kernel_rfl) (by kernel_rfl) (by kernel_rfl) ?_ ?_
      · refine ord_split 5 12 (by kernel_rfl) (by kernel_rfl) (by kernel_rfl) ?_ ?_
        · refine ord_split 6 11 (by kernel_rfl) (by kernel_rfl) (by kernel_rfl) ?_ ?_
          · refine ord_split 6 12 (by kernel_rfl) (by kernel_rfl) (by kernel_rfl) ?_ ?_
            · refine ord_split 11 12 (by kernel_rfl) (by kernel_rfl) (by kernel_rfl) ?_ ?_
              · refine ord_go [0, 1, 2, 3, 4, 5, 6, 7, 8, 9, 10, 11, 12, 13, 14, 15] (by kernel_rfl) (by kernel_rfl) ?_
                refine load_box (d := zd (mxa ((vv p).take D) : Nat)) 0 rfl hmb rfl (load_I _ _) fun r1 => ?_
                refine index_fact (v := v) qM D rfl (by omega) fun r2 => ?_
                refine load_fact (d := J (p.getD D z0)) qM (load_J _) fun r3 => ?_
                refine call_fn (habs r3 D) (Seals.refl _ _) qS ?_
                rintro r4 _ _ ⟨rfl, rfl⟩
                refine call_fn (hdm r1 r4) (Seals.refl _ _) qS ?_
                rintro _ _ _ ⟨rfl, r5, r6, rfl, rfl⟩
                refine alloc_rule (d := I false []) fun b1 h1 => ?_
                refine alloc_rule (d := I false []) fun b2 h2 => ?_
                refine store_box (d := zd Q) 1 rfl h1 rfl (by kernel_rfl) (Reads.fact (v := r5) qM) ?_
                refine store_box (d := zd R) 0 rfl h2 rfl (by kernel_rfl) (Reads.fact (v := r6) qM) ?_
                exact again b1 trivial trivial qF (Seals.trans (Seals.drop 0 _ _) (Seals.trans (Seals.box (d := zd Q) 0 rfl h1 rfl) (Seals.trans (Seals.drop 0 _ _) (Seals.sub qS))))
              · refine ord_go [0, 1, 2, 3, 4, 5, 6, 7, 8, 9, 10, 12, 11, 13, 14, 15] (by kernel_rfl) (by kernel_rfl) ?_
                refine load_box (d := zd (mxa ((vv p).take D) : Nat)) 0 rfl hmb rfl (load_I _ _) fun r1 => ?_
                refine index_fact (v := v) qM D rfl (by omega) fun r2 => ?_
                refine load_fact (d := J (p.getD D z0)) qM (load_J _) fun r3 => ?_
                refine call_fn (habs r3 D) (Seals.refl _ _) qS ?_
                rintro r4 _ _ ⟨rfl, rfl⟩
                refine call_fn (hdm r1 r4) (Seals.refl _ _) qS ?_
                rintro _ _ _ ⟨rfl, r5, r6, rfl, rfl⟩
                refine alloc_rule (d := I false []) fun b2 h2 => ?_
                refine alloc_rule (d := I false []) fun b1 h1 => ?_
                refine store_box (d := zd Q) 0 rfl h1 rfl (by kernel_rfl) (Reads.fact (v := r5) qM) ?_
                refine store_box (d := zd R) 1 rfl h2 rfl (by kernel_rfl) (Reads.fact (v := r6) qM) ?_
                exact again b1 trivial trivial qF (Seals.trans (Seals.box (d := zd Q) 0 rfl h1 rfl) (Seals.trans (Seals.drop 0 _ _) (Seals.trans (Seals.drop 0 _ _) (Seals.sub qS))))
            · refine ord_go [0, 1, 2, 3, 4, 5, 12, 6, 7, 8, 9, 10, 11, 13, 14, 15] (by kernel_rfl) (by kernel_rfl) ?_
              refine load_box (d := zd (mxa ((vv p).take D) : Nat)) 0 rfl hmb rfl (load_I _ _) fun r1 => ?_
              refine index_fact (v := v) qM D rfl (by omega) fun r2 => ?_
              refine load_fact (d := J (p.getD D z0)) qM (load_J _) fun r3 => ?_
              refine call_fn (habs r3 D) (Seals.refl _ _) qS ?_
              rintro r4 _ _ ⟨rfl, rfl⟩
              refine alloc_rule (d := I false []) fun b2 h2 => ?_
              refine call_fn (hdm r1 r4) (Seals.refl _ _) qS ?_
              rintro _ _ _ ⟨rfl, r5, r6, rfl, rfl⟩
              refine alloc_rule (d := I false []) fun b1 h1 => ?_
              refine store_box (d := zd Q) 0 rfl h1 rfl (by kernel_rfl) (Reads.fact (v := r5) qM) ?_
              refine store_box (d := zd R) 1 rfl h2 rfl (by kernel_rfl) (Reads.fact (v := r6) qM) ?_
              exact again b1 trivial trivial qF (Seals.trans (Seals.box (d := zd Q) 0 rfl h1 rfl) (Seals.trans (Seals.drop 0 _ _) (Seals.trans (Seals.drop 0 _ _) (Seals.sub qS))))
          · refine ord_split 6 12 (by kernel_rfl) (by kernel_rfl) (by kernel_rfl) ?_ ?_
            · refine ord_go [0, 1, 2, 3, 4, 5, 11, 6, 7, 8, 9, 10, 12, 13, 14, 15] (by kernel_rfl) (by kernel_rfl) ?_
              refine load_box (d := zd (mxa ((vv p).take D) : Nat)) 0 rfl hmb rfl (load_I _ _) fun r1 => ?_
              refine index_fact (v := v) qM D rfl (by omega) fun r2 => ?_
              refine load_fact (d := J (p.getD D z0)) qM (load_J _) fun r3 => ?_
              refine call_fn (habs r3 D) (Seals.refl _ _) qS ?_
              rintro r4 _ _ ⟨rfl, rfl⟩
              refine alloc_rule (d := I false []) fun b1 h1 => ?_
              refine call_fn (hdm r1 r4) (Seals.refl _ _) qS ?_
              rintro _ _ _ ⟨rfl, r5, r6, rfl, rfl⟩
              refine alloc_rule (d := I false []) fun b2 h2 => ?_
              refine store_box (d := zd Q) 1 rfl h1 rfl (by kernel_rfl) (Reads.fact (v := r5) qM) ?_
              refine store_box (d := zd R) 0 rfl h2 rfl (by kernel_rfl) (Reads.fact (v := r6) qM) ?_
              exact again b1 trivial trivial qF (Seals.trans (Seals.drop 0 _ _) (Seals.trans (Seals.box (d := zd Q) 0 rfl h1 rfl) (Seals.trans (Seals.drop 0 _ _) (Seals.sub qS))))
            · refine ord_split 11 12 (by kernel_rfl) (by kernel_rfl) (by kernel_rfl) ?_ ?_
              · refine ord_go [0, 1, 2, 3, 4, 5, 11, 12, 6, 7, 8, 9, 10, 13, 14, 15] (by kernel_rfl) (by kernel_rfl) ?_
                refine load_box (d := zd (mxa ((vv p).take D) : Nat)) 0 rfl hmb rfl (load_I _ _) fun r1 => ?_
                refine index_fact (v := v) qM D rfl (by omega) fun r2 => ?_
                refine load_fact (d := J (p.getD D z0)) qM (load_J _) fun r3 => ?_
                refine call_fn (habs r3 D) (Seals.refl _ _) qS ?_
                rintro r4 _ _ ⟨rfl, rfl⟩
                refine alloc_rule (d := I false []) fun b1 h1 => ?_
                refine alloc_rule (d := I false []) fun b2 h2 => ?_
                refine call_fn (hdm r1 r4) (Seals.refl _ _) qS ?_
                rintro _ _ _ ⟨rfl, r5, r6, rfl, rfl⟩
                refine store_box (d := zd Q) 1 rfl h1 rfl (by kernel_rfl) (Reads.fact (v := r5) qM) ?_
                refine store_box (d := zd R) 0 rfl h2 rfl (by kernel_rfl) (Reads.fact (v := r6) qM) ?_
                exact again b1 trivial trivial qF (Seals.trans (Seals.drop 0 _ _) (Seals.trans (Seals.box (d := zd Q) 0 rfl h1 rfl) (Seals.trans (Seals.drop 0 _ _) (Seals.sub qS))))
              · refine ord_go [0, 1, 2, 3, 4, 5, 12, 11, 6, 7, 8, 9, 10, 13, 14, 15] (by kernel_rfl) (by kernel_rfl) ?_
                refine load_box (d := zd (mxa ((vv p).take D) : Nat)) 0 rfl hmb rfl (load_I _ _) fun r1 => ?_
                refine index_fact (v := v) qM D rfl (by omega) fun r2 => ?_
                refine load_fact (d := J (p.getD D z0)) qM (load_J _) fun r3 => ?_
                refine call_fn (habs r3 D) (Seals.refl _ _) qS ?_
                rintro r4 _ _ ⟨rfl, rfl⟩
                refine alloc_rule (d := I false []) fun b2 h2 => ?_
                refine alloc_rule (d := I false []) fun b1 h1 => ?_
                refine call_fn (hdm r1 r4) (Seals.refl _ _) qS ?_
                rintro _ _ _ ⟨rfl, r5, r6, rfl, rfl⟩
                refine store_box (d := zd Q) 0 rfl h1 rfl (by kernel_rfl) (Reads.fact (v := r5) qM) ?_
                refine store_box (d := zd R) 1 rfl h2 rfl (by kernel_rfl) (Reads.fact (v := r6) qM) ?_
                exact again b1 trivial trivial qF (Seals.trans (Seals.box (d := zd Q) 0 rfl h1 rfl) (Seals.trans (Seals.drop 0 _ _) (Seals.trans (Seals.drop 0 _ _) (Seals.sub qS))))
        · refine ord_split 6 11 (by kernel_rfl) (by kernel_rfl) (by kernel_rfl) ?_ ?_
          · refine ord_go [0, 1, 2, 3, 4, 12, 5, 6, 7, 8, 9, 10, 11, 13, 14, 15] (by kernel_rfl) (by kernel_rfl) ?_
            refine load_box (d := zd (mxa ((vv p).take D) : Nat)) 0 rfl hmb rfl (load_I _ _) fun r1 => ?_
            refine index_fact (v := v) qM D rfl (by omega) fun r2 => ?_
            refine load_fact (d := J (p.getD D z0)) qM (load_J _) fun r3 => ?_
            refine alloc_rule (d := I false []) fun b2 h2 => ?_
            refine call_fn (habs r3 D) (Seals.refl _ _) qS ?_
            rintro r4 _ _ ⟨rfl, rfl⟩
            refine call_fn (hdm r1 r4) (Seals.refl _ _) qS ?_
            rintro _ _ _ ⟨rfl, r5, r6, rfl, rfl⟩
            refine alloc_rule (d := I false []) fun b1 h1 => ?_
            refine store_box (d := zd Q) 0 rfl h1 rfl (by kernel_rfl) (Reads.fact (v := r5) qM) ?_
            refine store_box (d := zd R) 1 rfl h2 rfl (by kernel_rfl) (Reads.fact (v := r6) qM) ?_
            exact again b1 trivial trivial qF (Seals.trans (Seals.box (d := zd Q) 0 rfl h1 rfl) (Seals.trans (Seals.drop 0 _ _) (Seals.trans (Seals.drop 0 _ _) (Seals.sub qS))))
          · refine ord_go [0, 1, 2, 3, 4, 12, 5, 11, 6, 7, 8, 9, 10, 13, 14, 15] (by kernel_rfl) (by kernel_rfl) ?_
            refine load_box (d := zd (mxa ((vv p).take D) : Nat)) 0 rfl hmb rfl (load_I _ _) fun r1 => ?_
            refine index_fact (v := v) qM D rfl (by omega) fun r2 => ?_
            refine load_fact (d := J (p.getD D z0)) qM (load_J _) fun r3 => ?_
            refine alloc_rule (d := I false []) fun b2 h2 => ?_
            refine call_fn (habs r3 D) (Seals.refl _ _) qS ?_
            rintro r4 _ _ ⟨rfl, rfl⟩
            refine alloc_rule (d := I false []) fun b1 h1 => ?_
            refine call_fn (hdm r1 r4) (Seals.refl _ _) qS ?_
            rintro _ _ _ ⟨rfl, r5, r6, rfl, rfl⟩
            refine store_box (d := zd Q) 0 rfl h1 rfl (by kernel_rfl) (Reads.fact (v := r5) qM) ?_
            refine store_box (d := zd R) 1 rfl h2 rfl (by kernel_rfl) (Reads.fact (v := r6) qM) ?_
            exact again b1 trivial trivial qF (Seals.trans (Seals.box (d := zd Q) 0 rfl h1 rfl) (Seals.trans (Seals.drop 0 _ _) (Seals.trans (Seals.drop 0 _ _) (Seals.sub qS))))
      · refine ord_split 5 12 (by kernel_rfl) (by kernel_rfl) (by kernel_rfl) ?_ ?_
        · refine ord_split 6 12 (by kernel_rfl) (by kernel_rfl) (by kernel_rfl) ?_ ?_
          · refine ord_go [0, 1, 2, 3, 4, 11, 5, 6, 7, 8, 9, 10, 12, 13, 14, 15] (by kernel_rfl) (by kernel_rfl) ?_
            refine load_box (d := zd (mxa ((vv p).take D) : Nat)) 0 rfl hmb rfl (load_I _ _) fun r1 => ?_
            refine index_fact (v := v) qM D rfl (by omega) fun r2 => ?_
            refine load_fact (d := J (p.getD D z0)) qM (load_J _) fun r3 => ?_
            refine alloc_rule (d := I false []) fun b1 h1 => ?_
            refine call_fn (habs r3 D) (Seals.refl _ _) qS ?_
            rintro r4 _ _ ⟨rfl, rfl⟩
            refine call_fn (hdm r1 r4) (Seals.refl _ _) qS ?_
            rintro _ _ _ ⟨rfl, r5, r6, rfl, rfl⟩
            refine alloc_rule (d := I false []) fun b2 h2 => ?_
            refine store_box (d := zd Q) 1 rfl h1 rfl (by kernel_rfl) (Reads.fact (v := r5) qM) ?_
            refine store_box (d := zd R) 0 rfl h2 rfl (by kernel_rfl) (Reads.fact (v := r6) qM) ?_
            exact again b1 trivial trivial qF (Seals.trans (Seals.drop 0 _ _) (Seals.trans (Seals.box (d := zd Q) 0 rfl h1 rfl) (Seals.trans (Seals.drop 0 _ _) (Seals.sub qS))))
          · refine ord_go [0, 1, 2, 3, 4, 11, 5, 12, 6, 7, 8, 9, 10, 13, 14, 15] (by kernel_rfl) (by kernel_rfl) ?_
            refine load_box (d := zd (mxa ((vv p).take D) : Nat)) 0 rfl hmb rfl (load_I _ _) fun r1 => ?_
            refine index_fact (v := v) qM D rfl (by omega) fun r2 => ?_
            refine load_fact (d := J (p.getD D z0)) qM (load_J _) fun r3 => ?_
            refine alloc_rule (d := I false []) fun b1 h1 => ?_
            refine call_fn (habs r3 D) (Seals.refl _ _) qS ?_
            rintro r4 _ _ ⟨rfl, rfl⟩
            refine alloc_rule (d := I false []) fun b2 h2 => ?_
            refine call_fn (hdm r1 r4) (Seals.refl _ _) qS ?_
            rintro _ _ _ ⟨rfl, r5, r6, rfl, rfl⟩
            refine store_box (d := zd Q) 1 rfl h1 rfl (by kernel_rfl) (Reads.fact (v := r5) qM) ?_
            refine store_box (d := zd R) 0 rfl h2 rfl (by kernel_rfl) (Reads.fact (v := r6) qM) ?_
            exact again b1 trivial trivial qF (Seals.trans (Seals.drop 0 _ _) (Seals.trans (Seals.box (d := zd Q) 0 rfl h1 rfl) (Seals.trans (Seals.drop 0 _ _) (Seals.sub qS))))
        · refine ord_split 11 12 (by kernel_rfl) (by kernel_rfl) (by kernel_rfl) ?_ ?_
          · refine ord_go [0, 1, 2, 3, 4, 11, 12, 5, 6, 7, 8, 9, 10, 13, 14, 15] (by kernel_rfl) (by kernel_rfl) ?_
            refine load_box (d := zd (mxa ((vv p).take D) : Nat)) 0 rfl hmb rfl (load_I _ _) fun r1 => ?_
            refine index_fact (v := v) qM D rfl (by omega) fun r2 => ?_
            refine load_fact (d := J (p.getD D z0)) qM (load_J _) fun r3 => ?_
            refine alloc_rule (d := I false []) fun b1 h1 => ?_
            refine alloc_rule (d := I false []) fun b2 h2 => ?_
            refine call_fn (habs r3 D) (Seals.refl _ _) qS ?_
            rintro r4 _ _ ⟨rfl, rfl⟩
            refine call_fn (hdm r1 r4) (Seals.refl _ _) qS ?_
            rintro _ _ _ ⟨rfl, r5, r6, rfl, rfl⟩
            refine store_box (d := zd Q) 1 rfl h1 rfl (by kernel_rfl) (Reads.fact (v := r5) qM) ?_
            refine store_box (d := zd R) 0 rfl h2 rfl (by kernel_rfl) (Reads.fact (v := r6) qM) ?_
            exact again b1 trivial trivial qF (Seals.trans (Seals.drop 0 _ _) (Seals.trans (Seals.box (d := zd Q) 0 rfl h1 rfl) (Seals.trans (Seals.drop 0 _ _) (Seals.sub qS))))
          · refine ord_go [0, 1, 2, 3, 4, 12, 11, 5, 6, 7, 8, 9, 10, 13, 14, 15] (by kernel_rfl) (by kernel_rfl) ?_
            refine load_box (d := zd (mxa ((vv p).take D) : Nat)) 0 rfl hmb rfl (load_I _ _) fun r1 => ?_
            refine index_fact (v := v) qM D rfl (by omega) fun r2 => ?_
            refine load_fact (d := J (p.getD D z0)) qM (load_J _) fun r3 => ?_
            refine alloc_rule (d := I false []) fun b2 h2 => ?_
            refine alloc_rule (d := I false []) fun b1 h1 => ?_
            refine call_fn (habs r3 D) (Seals.refl _ _) qS ?_
            rintro r4 _ _ ⟨rfl, rfl⟩
            refine call_fn (hdm r1 r4) (Seals.refl _ _) qS ?_
            rintro _ _ _ ⟨rfl, r5, r6, rfl, rfl⟩
            refine store_box (d := zd Q) 0 rfl h1 rfl (by kernel_rfl) (Reads.fact (v := r5) qM) ?_
            refine store_box (d := zd R) 1 rfl h2 rfl (by kernel_rfl) (Reads.fact (v := r6) qM) ?_
            exact again b1 trivial trivial qF (Seals.trans (Seals.box (d := zd Q) 0 rfl h1 rfl) (Seals.trans (Seals.drop 0 _ _) (Seals.trans (Seals.drop 0 _ _) (Seals.sub qS))))
  rintro b1 -
  simp only
  refine draw_rule [0, 1, 2, 3, 4] [0, 1, 2, 3, 4] (by kernel_rfl) (by kernel_rfl) ?_
  refine load_fact (d := zd Q) qM (load_I _ _) fun e1 => ?_
  refine call_fn (zof_meets 2 (by decide) (by decide)) (Seals.refl _ _) qS ?_
  rintro e2 _ _ ⟨rfl, rfl⟩
  refine call_fn (zAddZ2 e1 e2 Q 2 k hQz ((show sz 2 1 by unfold sz; decide).mono h1k) (by omega)) (Seals.refl _ _) qS ?_
  rintro e3 _ _ ⟨rfl, rfl⟩
  refine store_box (d := zd (Q + 2)) 0 rfl ho rfl (by kernel_rfl) (Reads.fact (v := e3) qM) ?_
  refine load_box (d := zd (Q + 2)) 0 rfl ho rfl (load_I _ _) fun r => ?_
  exact fin ⟨rfl, r, rfl, rfl⟩ (Seals.trans (Seals.drop 0 _ _) (Seals.sub qS))
open Go.RowKit
theorem FlSpec.mem {p : List Int} {x y : Int} {O : List Int} {e : Int} (h : FlSpec p x y O e) : ∀ t, t ∈ O → x ≤ t ∧ t ≤ y := fun t ht => by
  by_cases hb : dg p = 0 ∨ y < x
  · rw [(h.bad hb).1] at ht; simp at ht
  · obtain ⟨_, s, ls, _, _, _, _, f⟩ := h.ok (by omega) (by omega)
    have := (f.mem t).1 ht; omega
def inRt (p O : List Int) : List Int := O.filter fun t => decide (pev p t = 0)
theorem inL_snoc (p : List Int) {O : List Int} {i : Nat} (h : i < O.length) : inRt p (O.take (i + 1)) = if pev p (O.getD i 0) = 0 then inRt p (O.take i) ++ [O.getD i 0] else inRt p (O.take i) := by
  have e : O.getD i 0 = O[i] := by rw [List.getD_eq_getElem?_getD, List.getElem?_eq_getElem h]; rfl
  unfold inRt
  rw [List.take_add_one, List.getElem?_eq_getElem h, List.filter_append, e]
  by_cases hz : pev p O[i] = 0
  · rw [if_pos hz]; simp [hz]
  · rw [if_neg hz]; simp [hz]
theorem in_meets (v w u : Value) (p : Row) (x y : Bool × List Nat) (k n a : Nat) (hp : Fit k p) (lp : p.length ≤ n) (hx : Lim x.2) (hxa : x.2.length ≤ a) (hy : Lim y.2) (hya : y.2.length ≤ a) (ha : 1 ≤ a) (haa : a ≤ 1073741824) (hk : ChOk (vv p) k n (a + 1)) :
    Meets Tryz.prog 19 [v, w, u] [(v, V p), (w, J x), (u, J y)] (fun r os fs => os = [] ∧ ∃ q O e, r = .tuple #[q, .int .i64 e] ∧ FlSpec (vv p) (jv x) (jv y) O e ∧ fs = [(q, vd (inRt (vv p) O))]) := by
  refine meets_of_vc Tryz.func19 (by kernel_rfl) rfl (by kernel_rfl) (Nat.le_of_ble_eq_true rfl) ?_
  refine box_rule (Reads.fact (d := J x) qM) fun bx hbx => ?_
  refine box_rule (Reads.fact (d := J y) qM) fun by' hby => ?_
  refine load_box (d := J x) 1 rfl hbx rfl (load_J _) fun y1 => ?_
  refine load_box (d := J y) 0 rfl hby rfl (load_J _) fun y2 => ?_
  refine call_fn (floors_meets v y1 y2 p x y k n a hp lp hx hxa hy hya ha haa hk) (Seals.refl _ _) qS ?_
  rintro _ _ _ ⟨rfl, q, O, e, rfl, hO, rfl⟩
  have hfew := hO.few
  have hsz : ∀ t, t ∈ O → sz t a := fun t ht => by
    have := hO.mem t ht
    exact sz_btw (sz_jv hx hxa) (sz_jv hy hya) this.1 this.2
  have hgm : ∀ i, i < O.length → O.getD i 0 ∈ O := fun i hi => by
    rw [List.getD_eq_getElem?_getD, List.getElem?_eq_getElem hi]; exact List.getElem_mem _
  have hml : (O.map cn).length = O.length := List.length_map _
  have z6 := hk.k5
  have hsg : ∀ y i, i < O.length → Meets Tryz.prog 13 [v, y] [(v, V p), (y, J ((O.map cn).getD i z0))] (fun r os fs => os = [] ∧ fs = [] ∧ r = .int .i64 (pev (vv p) (O.getD i 0)).sign) := fun y i hi => by
    rw [map_cn_get hi]
    have hm : (p.length + 1) * (a + 1) ≤ (n + 1) * (a + 1 + 1) := Nat.mul_le_mul (by omega) (by omega)
    have := rtSign_meets v y p (cn (O.getD i 0)) k a hp (Lim_lims _) (hsz _ (hgm i hi)).len (by omega) (by have := hk.n1; omega)
    rw [jv_cn] at this
    exact this
  refine len_fact (v := q) qM fun hOm => ?_
  refine loop_rule (X := Nat × Value) (fun x => ([(0, v), (9, .int .i64 e), (10, x.2), (20, q), (21, .int .i64 ((O.map cn).length : Nat)), (22, .int .i64 (x.1 : Nat))], [ownL 2 J z0 x.2 ((inRt (vv p) (O.take x.1)).map cn)], [(q, vd O), (v, V p)]))
    (fun x => x.1 ≤ O.length ∧ isSl x.2) (fun x => O.length - x.1) rfl ?_ ?_
  · refine again (0, .slice none 0 0) ⟨Nat.zero_le _, isSl_nil⟩ trivial qF (Seals.trans (Seals.drop 0 _ _) (Seals.trans (Seals.drop 0 _ _) (Seals.trans (Seals.own_nil _ _ 2 fun i => J ((([] : List Int).map cn).getD i z0)) (Seals.sub qS))))
  rintro ⟨i, ov⟩ ⟨hi, hov⟩
  simp only at hi hov ⊢
  refine cmp_split _ rfl (fun hlt => ?_) (fun hlt => ?_)
  · have hin : i < O.length := by omega
    have hil : ((inRt (vv p) (O.take i)).map cn).length ≤ i := by
      rw [List.length_map]
      have := List.length_filter_le (fun t => decide (pev (vv p) t = 0)) (O.take i)
      unfold inRt
      rw [List.length_take] at this; omega
    have hsn := inL_snoc (vv p) hin
    refine index_fact (v := q) qM i rfl (by omega) fun a1 => ?_
    refine load_fact (d := J ((O.map cn).getD i z0)) qM (load_J _) fun a2 => ?_
    refine alloc_rule (d := I false []) fun tb htb => ?_
    refine store_box (d := J ((O.map cn).getD i z0)) 0 rfl htb rfl (by kernel_rfl) (Reads.fact (v := a2) qM) ?_
    refine load_box (d := J ((O.map cn).getD i z0)) 0 rfl htb rfl (load_J _) fun a3 => ?_
    refine call_fn (hsg a3 i hin) (Seals.refl _ _) qS ?_
    rintro _ _ _ ⟨rfl, rfl, rfl⟩
    refine cmp_split _ rfl (fun hz => ?_) (fun hz => ?_)
    · rw [if_pos (sgn0.1 hz)] at hsn
      refine load_box (d := J ((O.map cn).getD i z0)) 0 rfl htb rfl (load_J _) fun a4 => ?_
      refine lit_L (size := 2) J z0 ((O.map cn).getD i z0) (by decide) (Reads.fact (v := a4) qM) rfl fun a5 => ?_
      refine append_L 1 rfl hov (Knw.fact (v := a5) qM) (by simp only [List.length_cons, List.length_nil]; omega) (by simp only [List.length_cons, List.length_nil]; omega) fun ov2 hov2 => ?_
      refine ar rfl qI ?_
      refine again (i + 1, ov2) ⟨by simp only; omega, hov2⟩ (by simp only; omega) qF ?_
      rw [hsn, ← map_snoc, map_cn_get hin]
      exact Seals.trans (Seals.drop 0 _ _) (Seals.sub (fs' := [(q, vd O), (v, V p)]) qS)
    · rw [if_neg (fun h => hz (sgn0.2 h))] at hsn
      refine ar rfl qI ?_
      refine again (i + 1, ov) ⟨by simp only; omega, hov⟩ (by simp only; omega) qF ?_
      rw [hsn]
      exact Seals.trans (Seals.drop 0 _ _) (Seals.sub (fs' := [(q, vd O), (v, V p)]) qS)
  · have hin : O.length = i := by omega
    subst hin
    refine fin ⟨rfl, ov, O, e, rfl, hO, rfl⟩ (Seals.trans (Seals.toldL hov) (Seals.cons ?_ (Seals.nil _ _)))
    exact (Knw.fact (List.Mem.head _)).cast (by rw [List.take_length])
structure AlSpec (p : List Int) (Z : List Int) (e : Int) : Prop where
  bad : dg p = 0 → Z = [] ∧ e = 1
  ok : 0 < dg p → ∃ O, FlSpec p (-rbnd p) (rbnd p) O e ∧ Z = inRt p O
theorem rbnd_sz {p : List Int} {k : Nat} (h : szR k p) (hk : 1 ≤ k) : sz (rbnd p) (k + 1) := by
  have h1 := sz_div (y := ((ld p).natAbs : Int)) (mxa_sz (h.take (dg p - 1)))
  have h2 := sz_sub h1 (((show sz 2 1 by unfold sz; decide).mono hk).neg)
  rw [Int.sub_neg] at h2
  exact h2
theorem all_meets (v : Value) (p : Row) (k n : Nat) (hp : Fit k p) (lp : p.length ≤ n) (h1k : 1 ≤ k) (hkk : k ≤ 1048576) (hk : ChOk (vv p) k n (k + 1 + 1)) :
    Meets Tryz.prog 21 [v] [(v, V p)] (fun r os fs => os = [] ∧ ∃ q Z e, r = .tuple #[q, .int .i64 e] ∧ AlSpec (vv p) Z e ∧ fs = [(q, vd Z)]) := by
  have zb := rbnd_sz hp.szR h1k
  have hn := hk.n1
  refine meets_of_vc Tryz.func21 (by kernel_rfl) rfl (by kernel_rfl) (Nat.le_of_ble_eq_true rfl) ?_
  refine call_fn (bound_meets v p k hp (by omega) h1k (by omega)) (Seals.refl _ _) qS ?_
  rintro _ _ _ ⟨rfl, b0, rfl, rfl⟩
  refine alloc_rule (d := I false []) fun bb hbb => ?_
  by_cases hz : dg (vv p) = 0
  · rw [if_pos hz, if_pos hz]
    refine store_box (d := zd 0) 0 rfl hbb rfl (by kernel_rfl) (Reads.fact (v := b0) qM) ?_
    refine cmp_true rfl (by decide) ?_
    exact fin ⟨rfl, .slice none 0 0, [], 1, rfl, ⟨fun _ => ⟨rfl, rfl⟩, fun h => by omega⟩, rfl⟩ (Seals.trans (Seals.drop 0 _ _) (Seals.cons (Knw.nil 2 _) (Seals.nil _ _)))
  rw [if_neg hz, if_neg hz]
  have hin := fun y1 y2 => in_meets v y1 y2 p (cn (-rbnd (vv p))) (cn (rbnd (vv p))) k n (k + 1) hp lp (Lim_lims _) zb.neg.len (Lim_lims _) zb.len (by omega) (by omega) hk
  simp only [jv_cn] at hin
  have hneg := fun y => zNegZ y (rbnd (vv p)) (k + 1) zb (by omega)
  refine store_box (d := zd (rbnd (vv p))) 0 rfl hbb rfl (by kernel_rfl) (Reads.fact (v := b0) qM) ?_
  refine cmp_false rfl (by decide) ?_
  refine draw_rule [0, 1, 3, 2, 4, 5, 6, 7, 8] [0, 1, 2, 3, 4, 5, 6, 7, 8] (by kernel_rfl) (by kernel_rfl) ?_
  refine load_box (d := zd (rbnd (vv p))) 0 rfl hbb rfl (load_I _ _) fun y1 => ?_
  refine load_box (d := zd (rbnd (vv p))) 0 rfl hbb rfl (load_I _ _) fun y2 => ?_
  refine call_fn (hneg y1) (Seals.refl _ _) qS ?_
  rintro y3 _ _ ⟨rfl, rfl⟩
  refine call_fn (hin y3 y2) (Seals.refl _ _) qS ?_
  rintro _ _ _ ⟨rfl, q, O, e, rfl, hO, rfl⟩
  exact fin ⟨rfl, q, _, e, rfl, ⟨fun h => by omega, fun _ => ⟨O, hO, rfl⟩⟩, rfl⟩ (Seals.trans (Seals.drop 0 _ _) (Seals.sub qS))
open Go.RowKit
open Go.RowKit
theorem of5_meets (v : Value) (l : List Int) (hl : l.length ≤ 1000) (hz : ∀ x, x ∈ l → -9223372036854775808 ≤ x ∧ x < 9223372036854775808) :
    Meets Tryz.prog 23 [v] [(v, IL l)] (fun r os fs => os = [] ∧ fs = [(r, vd l)]) := by
  have hfin : lst l.length (fun i => l.getD i 0) = l := by
    have := lst_map l fun x => x
    rw [List.map_id'] at this
    exact this
  have hg : ∀ i, i < l.length → -9223372036854775808 ≤ l.getD i 0 ∧ l.getD i 0 < 9223372036854775808 := fun i hi => hz _ (getD_mem 0 hi)
  refine meets_of_vc Tryz.func23 (by kernel_rfl) rfl (by kernel_rfl) (Nat.le_of_ble_eq_true rfl) ?_
  refine empty_L (size := 2) (e := 26) J z0 (by decide) fun v0 hv0 => ?_
  refine loop_rule (X := Value × Nat) (fun x => ([(0, v), (3, x.1), (4, .int .i64 (x.2 : Nat))], [ownL 2 J z0 x.1 ((lst x.2 fun i => l.getD i 0).map cn)], [(v, IL l)])) (fun x => isSl x.1 ∧ x.2 ≤ l.length) (fun x => l.length - x.2) rfl ?_ ?_
  · exact again (v0, 0) ⟨hv0, Nat.zero_le _⟩ trivial qF (Seals.sub qS)
  · rintro ⟨vo, i⟩ ⟨hvo, h2⟩
    simp only at hvo h2 ⊢
    refine len_fact qM fun _ => ?_
    refine cmp_split _ rfl (fun hlt => ?_) (fun hlt => ?_)
    · have hin : i < l.length := by omega
      have hll : (lst i fun i => l.getD i 0).length = i := lst_len _ _
      refine index_fact qM i rfl hin fun a1 => ?_
      refine load_one qM ?_
      refine call_fn (rOf_meets (l.getD i 0) (hg i hin).1 (hg i hin).2) (Seals.refl _ _) qS ?_
      rintro y _ _ ⟨rfl, rfl⟩
      refine lit_L (size := 2) (f := J) (z := z0) (e := 26) (cn (l.getD i 0)) (by decide) (Reads.fact qM) rfl fun y4 => ?_
      refine append_L (size := 2) (e := 26) (f := J) (z := z0) (l := (lst i fun i => l.getD i 0).map cn) (m := [cn (l.getD i 0)]) 0 rfl hvo (Knw.fact qM) (by simp only [List.length_map, hll, List.length_cons, List.length_nil]; omega) (by simp only [List.length_map, hll, List.length_cons, List.length_nil]; omega) fun vn hvn => ?_
      refine ar rfl qI ?_
      refine again (vn, i + 1) ⟨hvn, by simp only; omega⟩ (by simp only; omega) qF ?_
      rw [show (lst i fun i => l.getD i 0).map cn ++ [cn (l.getD i 0)] = (lst (i + 1) fun i => l.getD i 0).map cn by rw [lst_snoc, List.map_append]; rfl]
      exact Seals.sub qS
    · have hii : i = l.length := by omega
      subst hii
      refine fin ⟨rfl, rfl⟩ (Seals.trans (Seals.toldL hvo) ?_)
      rw [hfin]
      exact Seals.sub qS
theorem num5_meets (x : Int) (h1 : -9223372036854775808 ≤ x) (h2 : x < 9223372036854775808) :
    Meets Tryz.prog 24 [.int .i64 x] [] (fun r os fs => os = [] ∧ fs = [(r, zd x)]) := by
  refine meets_of_vc Tryz.func24 (by kernel_rfl) rfl (by kernel_rfl) (Nat.le_of_ble_eq_true rfl) ?_
  refine alloc_rule (d := I false []) fun o ho => ?_
  refine call_fn (rOf_meets x h1 h2) (Seals.refl _ _) qS ?_
  rintro y _ _ ⟨rfl, rfl⟩
  refine store_box (d := zd x) 0 rfl ho rfl (by kernel_rfl) (Reads.fact (v := y) qM) ?_
  refine load_box (d := zd x) 0 rfl ho rfl (load_I _ _) fun r => ?_
  exact fin ⟨rfl, rfl⟩ (Seals.trans (Seals.drop 0 _ _) (Seals.sub qS))
end Go.Proofs.YtgpcepcbdpigfaaGreat
namespace Go.Proofs.YtgpcepcbdpigfaaGreat
theorem cnt_rc {ls : List (List Int)} (h : ChL ls) {x y : Int} (hxy : x ≤ y) : cnt ls x y = rc (ls.getD 0 []) x y + (if pev (ls.getD 0 []) x = 0 then 1 else 0) - (if pev (ls.getD 0 []) y = 0 then 1 else 0) := by
  rw [rc_eq h.ch rfl hxy, ← tns_sV h.len, ← tns_sV h.len]
  unfold cnt manyV; omega
def LA : Nat → List Int
  | 0 => [-2, 0, 1]
  | 1 => [0, 2]
  | _ => [2]
def LB : Nat → List Int
  | 0 => [0, -1, 0, 1]
  | 1 => [-1, 0, 3]
  | 2 => [0, 2]
  | _ => [2]
theorem chA : Chain LA 2 := ⟨fun _ => by decide, fun i hi => by
  obtain rfl : i = 0 := by omega
  exact ⟨4, 4, [0, 2], by decide, by decide, fun x => by simp only [LA, pev]; grind⟩, ⟨2, by decide, rfl⟩⟩
theorem chB : Chain LB 3 := ⟨fun _ => by decide, fun i hi => by
  have : i = 0 ∨ i = 1 := by omega
  rcases this with rfl | rfl
  · exact ⟨3, 1, [0, 1], by decide, by decide, fun x => by simp only [LB, pev]; grind⟩
  · exact ⟨2, 1, [0, 3], by decide, by decide, fun x => by simp only [LB, pev]; grind⟩, ⟨2, by decide, rfl⟩⟩
theorem gc_one {p d : List Int} {U W : List Int} {r : Int} (hr : r ≠ 0) (hp : cont p = 1) (h : ∀ x, pev p x * pev U x + pev d x * pev W x = r) : Gc [1] p d :=
  ⟨⟨p, fun x => by simp [pev]⟩, ⟨d, fun x => by simp [pev]⟩, fun g ⟨u, hu⟩ ⟨v, hv⟩ => by
    refine Dv.prim (k := r) (Dv.prim_of hp ⟨u, hu⟩) hr ⟨padd (pmul u U) (pmul v W), fun x => ?_⟩
    rw [ev_map_mul, ev_padd, ev_pmul, ev_pmul, ← h x, hu, hv]
    simp only [pev]; grind, by decide⟩
theorem simA : SimSpec [-2, 0, 1] [-2, 0, 1] := ⟨show nrm [-2, 0, 1] = [-2, 0, 1] by decide, fun h => absurd h (by decide), fun _ => ⟨[1], by
  rw [show pprim [-2, 0, 1] = [-2, 0, 1] by decide, show pder [-2, 0, 1] = [0, 2] by decide]
  exact gc_one (U := [-4]) (W := [0, 2]) (r := 8) (by decide) (by decide) fun x => by simp only [pev]; grind, fun x => by
  rw [show pprim [-2, 0, 1] = [-2, 0, 1] by decide]; simp [pev]⟩⟩
theorem simB : SimSpec [0, -1, 0, 1] [0, -1, 0, 1] := ⟨show nrm [0, -1, 0, 1] = [0, -1, 0, 1] by decide, fun h => absurd h (by decide), fun _ => ⟨[1], by
  rw [show pprim [0, -1, 0, 1] = [0, -1, 0, 1] by decide, show pder [0, -1, 0, 1] = [-1, 0, 3] by decide]
  exact gc_one (U := [0, -9]) (W := [-2, 0, 3]) (r := 2) (by decide) (by decide) fun x => by simp only [pev]; grind, fun x => by
  rw [show pprim [0, -1, 0, 1] = [0, -1, 0, 1] by decide]; simp [pev]⟩⟩
theorem rcA : rc [-2, 0, 1] 0 2 = 1 := by rw [rc_eq (s := [-2, 0, 1]) chA rfl (by decide)]; decide
theorem rcB : rc [0, -1, 0, 1] (-1) 1 = 2 := by rw [rc_eq (s := [0, -1, 0, 1]) chB rfl (by decide)]; decide
theorem keyA : ∀ x : Int, -5 ≤ x → x < 6 → (0 < (sV LA 2 x : Int) - sV LA 2 (x + 1) + (if pev [-2, 0, 1] x = 0 then 1 else 0) - (if pev [-2, 0, 1] (x + 1) = 0 then 1 else 0) ↔ x = -2 ∨ x = 1) := fun x h1 h2 => by
  have : x = -5 ∨ x = -4 ∨ x = -3 ∨ x = -2 ∨ x = -1 ∨ x = 0 ∨ x = 1 ∨ x = 2 ∨ x = 3 ∨ x = 4 ∨ x = 5 := by omega
  rcases this with rfl | rfl | rfl | rfl | rfl | rfl | rfl | rfl | rfl | rfl | rfl <;> decide
theorem keyB : ∀ x : Int, -3 ≤ x → x < 4 → (0 < (sV LB 3 x : Int) - sV LB 3 (x + 1) + (if pev [0, -1, 0, 1] x = 0 then 1 else 0) - (if pev [0, -1, 0, 1] (x + 1) = 0 then 1 else 0) ↔ x = -1 ∨ x = 0 ∨ x = 1) := fun x h1 h2 => by
  have : x = -3 ∨ x = -2 ∨ x = -1 ∨ x = 0 ∨ x = 1 ∨ x = 2 ∨ x = 3 := by omega
  rcases this with rfl | rfl | rfl | rfl | rfl | rfl | rfl <;> decide
theorem flA {O : List Int} {e : Int} (h : FlSpec [-2, 0, 1] (-5) 5 O e) : O = [-2, 1] ∧ e = 0 := by
  obtain ⟨h1, s, ls, h2, h3, h4, h5, h6⟩ := h.ok (by decide) (by decide)
  refine ⟨h6.up.ext (by simp [Rise]) fun x => ?_, h1⟩
  have e0 : ls.getD 0 [] = [-2, 0, 1] := by rw [h4]; exact h2.unique simA
  rw [h6.mem]
  simp only [List.mem_cons, List.not_mem_nil, or_false]
  constructor
  · rintro ⟨g1, g2, g3⟩
    rw [cnt_rc h3 (by omega), e0, rc_eq (s := [-2, 0, 1]) chA rfl (by omega)] at g3
    exact (keyA x g1 (by omega)).1 g3
  · intro g
    have g1 : -5 ≤ x := by omega
    have g2 : x < 6 := by omega
    refine ⟨g1, g2, ?_⟩
    rw [cnt_rc h3 (by omega), e0, rc_eq (s := [-2, 0, 1]) chA rfl (by omega)]
    exact (keyA x g1 g2).2 g
theorem flB {O : List Int} {e : Int} (h : FlSpec [0, -1, 0, 1] (-3) 3 O e) : O = [-1, 0, 1] ∧ e = 0 := by
  obtain ⟨h1, s, ls, h2, h3, h4, h5, h6⟩ := h.ok (by decide) (by decide)
  refine ⟨h6.up.ext (by simp [Rise]) fun x => ?_, h1⟩
  have e0 : ls.getD 0 [] = [0, -1, 0, 1] := by rw [h4]; exact h2.unique simB
  rw [h6.mem]
  simp only [List.mem_cons, List.not_mem_nil, or_false]
  constructor
  · rintro ⟨g1, g2, g3⟩
    rw [cnt_rc h3 (by omega), e0, rc_eq (s := [0, -1, 0, 1]) chB rfl (by omega)] at g3
    exact (keyB x g1 (by omega)).1 g3
  · intro g
    have g1 : -3 ≤ x := by omega
    have g2 : x < 4 := by omega
    refine ⟨g1, g2, ?_⟩
    rw [cnt_rc h3 (by omega), e0, rc_eq (s := [0, -1, 0, 1]) chB rfl (by omega)]
    exact (keyB x g1 g2).2 g
theorem alB {Z : List Int} {e : Int} (h : AlSpec [0, -1, 0, 1] Z e) : Z = [-1, 0, 1] ∧ e = 0 := by
  obtain ⟨O, h1, h2⟩ := h.ok (by decide)
  rw [show rbnd [0, -1, 0, 1] = 3 by decide] at h1
  obtain ⟨rfl, h4⟩ := flB h1
  exact ⟨by rw [h2]; decide, h4⟩
theorem ctA {c e : Int} (h : CntSpec [-2, 0, 1] 0 2 c e) : c = 1 ∧ e = 0 := by
  obtain ⟨h1, s, h2, _, h3, _⟩ := h.ok (by decide) (by decide)
  exact ⟨by rw [h3, h2.unique simA]; exact rcA, h1⟩
theorem ctB {c e : Int} (h : CntSpec [0, -1, 0, 1] (-1) 1 c e) : c = 2 ∧ e = 0 := by
  obtain ⟨h1, s, h2, _, h3, _⟩ := h.ok (by decide) (by decide)
  exact ⟨by rw [h3, h2.unique simB]; exact rcB, h1⟩
theorem ok6 : Ch0 1 6 1 ∧ Ch0 1 6 2 ∧ Ch0 1 6 3 := ⟨⟨by decide, by decide, by decide, by decide, by decide, by decide⟩, ⟨by decide, by decide, by decide, by decide, by decide, by decide⟩, ⟨by decide, by decide, by decide, by decide, by decide, by decide⟩⟩
open Go.RowKit
theorem fit5 {l : List Int} (h : ∀ x, x ∈ l → x.natAbs < 18446744073709551616) : Fit 1 (l.map cn) := Fit_cn fun x hx => by
  have := h x hx
  unfold sz; simpa using this
theorem sm5 (x : Int) (h : x.natAbs < 18446744073709551616) : sz x 1 := by unfold sz; simpa using h
theorem sbA (v : Value) : Meets Tryz.prog 8 [v] [(v, vd [-2, 0, 1])] (fun r os fs => os = [] ∧ ∃ q, r = .tuple #[q, .int .i64 0] ∧ fs = [(q, zd 4)]) := by
  have h := bound_meets v (([-2, 0, 1] : List Int).map cn) 1 (fit5 (by decide)) (by decide) (by decide) (by decide)
  rw [vv_cn, if_neg (by decide), if_neg (by decide), show rbnd [-2, 0, 1] = 4 by decide] at h
  exact h
theorem scA (v w u : Value) : Meets Tryz.prog 10 [v, w, u] [(v, vd [-2, 0, 1]), (w, zd 0), (u, zd 2)] (fun r os fs => os = [] ∧ fs = [] ∧ r = .tuple #[.int .i64 1, .int .i64 0]) := by
  have h := count_meets v w u (([-2, 0, 1] : List Int).map cn) (cn 0) (cn 2) 1 6 1 (fit5 (by decide)) (by decide) (Lim_lims _) (sm5 0 (by decide)).len (Lim_lims _) (sm5 2 (by decide)).len (ok6.1.of (fit5 (by decide)) (by decide))
  refine h.mono ?_
  rintro r os fs ⟨h1, h2, c, e, h3, h4⟩
  rw [vv_cn, jv_cn, jv_cn] at h4
  obtain ⟨rfl, rfl⟩ := ctA h4
  exact ⟨h1, h2, h3⟩
theorem scB (v w u : Value) : Meets Tryz.prog 10 [v, w, u] [(v, vd [0, -1, 0, 1]), (w, zd (-1)), (u, zd 1)] (fun r os fs => os = [] ∧ fs = [] ∧ r = .tuple #[.int .i64 2, .int .i64 0]) := by
  have h := count_meets v w u (([0, -1, 0, 1] : List Int).map cn) (cn (-1)) (cn 1) 1 6 1 (fit5 (by decide)) (by decide) (Lim_lims _) (sm5 (-1) (by decide)).len (Lim_lims _) (sm5 1 (by decide)).len (ok6.1.of (fit5 (by decide)) (by decide))
  refine h.mono ?_
  rintro r os fs ⟨h1, h2, c, e, h3, h4⟩
  rw [vv_cn, jv_cn, jv_cn] at h4
  obtain ⟨rfl, rfl⟩ := ctB h4
  exact ⟨h1, h2, h3⟩
theorem sfA (v w u : Value) : Meets Tryz.prog 17 [v, w, u] [(v, vd [-2, 0, 1]), (w, zd (-5)), (u, zd 5)] (fun r os fs => os = [] ∧ ∃ q, r = .tuple #[q, .int .i64 0] ∧ fs = [(q, vd [-2, 1])]) := by
  have h := floors_meets v w u (([-2, 0, 1] : List Int).map cn) (cn (-5)) (cn 5) 1 6 1 (fit5 (by decide)) (by decide) (Lim_lims _) (sm5 (-5) (by decide)).len (Lim_lims _) (sm5 5 (by decide)).len (by decide) (by decide) (ok6.2.1.of (fit5 (by decide)) (by decide))
  refine h.mono ?_
  rintro r os fs ⟨h1, q, O, e, h3, h4, h5⟩
  rw [vv_cn, jv_cn, jv_cn] at h4
  obtain ⟨rfl, rfl⟩ := flA h4
  exact ⟨h1, q, h3, h5⟩
theorem siA (v w u : Value) : Meets Tryz.prog 19 [v, w, u] [(v, vd [-2, 0, 1]), (w, zd (-5)), (u, zd 5)] (fun r os fs => os = [] ∧ ∃ q, r = .tuple #[q, .int .i64 0] ∧ fs = [(q, vd [])]) := by
  have h := in_meets v w u (([-2, 0, 1] : List Int).map cn) (cn (-5)) (cn 5) 1 6 1 (fit5 (by decide)) (by decide) (Lim_lims _) (sm5 (-5) (by decide)).len (Lim_lims _) (sm5 5 (by decide)).len (by decide) (by decide) (ok6.2.1.of (fit5 (by decide)) (by decide))
  refine h.mono ?_
  rintro r os fs ⟨h1, q, O, e, h3, h4, h5⟩
  rw [vv_cn] at h5
  rw [vv_cn, jv_cn, jv_cn] at h4
  obtain ⟨rfl, rfl⟩ := flA h4
  exact ⟨h1, q, h3, h5⟩
theorem saB (v : Value) : Meets Tryz.prog 21 [v] [(v, vd [0, -1, 0, 1])] (fun r os fs => os = [] ∧ ∃ q, r = .tuple #[q, .int .i64 0] ∧ fs = [(q, vd [-1, 0, 1])]) := by
  have h := all_meets v (([0, -1, 0, 1] : List Int).map cn) 1 6 (fit5 (by decide)) (by decide) (by decide) (by decide) (ok6.2.2.of (fit5 (by decide)) (by decide))
  refine h.mono ?_
  rintro r os fs ⟨h1, q, Z, e, h3, h4, h5⟩
  rw [vv_cn] at h4
  obtain ⟨rfl, rfl⟩ := alB h4
  exact ⟨h1, q, h3, h5⟩
theorem ssA (v w : Value) : Meets Tryz.prog 13 [v, w] [(v, vd [-2, 0, 1]), (w, zd 1)] (fun r os fs => os = [] ∧ fs = [] ∧ r = .int .i64 (-1)) :=
  rtSignT v w [-2, 0, 1] 1 1 1 3 (fun x hx => sm5 x (by revert x; decide)) (sm5 1 (by decide)) (by decide) (by decide) (by decide)
theorem exall5T (v w : Value) (x y : List Int) (h : x = y) : Meets Tryz.prog 15 [v, w] [(v, vd x), (w, vd y)] (fun r os fs => os = [] ∧ fs = [] ∧ r = .bool true) := by
  have := exactAllW v w x y
  rw [decide_eq_true h] at this
  exact this
theorem ex5T (v w : Value) (x y : Int) (h : x = y) : Meets Tryz.prog 12 [v, w] [(v, zd x), (w, zd y)] (fun r os fs => os = [] ∧ fs = [] ∧ r = .bool true) := by
  have := exactW v w x y
  rw [decide_eq_true h] at this
  exact this
theorem shown5_meets : Meets Tryz.prog 5 [] [] (fun r os fs => os = [] ∧ fs = [] ∧ r = .bool true) := by
  refine meets_of_vc Tryz.func5 (by kernel_rfl) rfl (by kernel_rfl) (Nat.le_of_ble_eq_true rfl) ?_
  refine lit_IL [-2, 0, 1] rfl rfl (by decide) fun s1 => ?_
  refine call_fn (of5_meets s1 [-2, 0, 1] (by decide) (by decide)) (Seals.refl _ _) qS ?_
  rintro p _ _ ⟨rfl, rfl⟩
  refine lit_IL [0, -1, 0, 1] rfl rfl (by decide) fun s2 => ?_
  refine call_fn (of5_meets s2 [0, -1, 0, 1] (by decide) (by decide)) (Seals.refl _ _) qS ?_
  rintro q _ _ ⟨rfl, rfl⟩
  refine call_fn (sbA p) (Seals.refl _ _) qS ?_
  rintro _ _ _ ⟨rfl, b, rfl, rfl⟩
  refine alloc_rule (d := I false []) fun bb hbb => ?_
  refine store_box (d := zd 4) 0 rfl hbb rfl (by kernel_rfl) (Reads.fact (v := b) qM) ?_
  refine call_fn (num5_meets 0 (by decide) (by decide)) (Seals.refl _ _) qS ?_
  rintro n1 _ _ ⟨rfl, rfl⟩
  refine call_fn (num5_meets 2 (by decide) (by decide)) (Seals.refl _ _) qS ?_
  rintro n2 _ _ ⟨rfl, rfl⟩
  refine call_fn (scA p n1 n2) (Seals.refl _ _) qS ?_
  rintro _ _ _ ⟨rfl, rfl, rfl⟩
  refine call_fn (num5_meets (-1) (by decide) (by decide)) (Seals.refl _ _) qS ?_
  rintro n3 _ _ ⟨rfl, rfl⟩
  refine call_fn (num5_meets 1 (by decide) (by decide)) (Seals.refl _ _) qS ?_
  rintro n4 _ _ ⟨rfl, rfl⟩
  refine call_fn (scB q n3 n4) (Seals.refl _ _) qS ?_
  rintro _ _ _ ⟨rfl, rfl, rfl⟩
  refine call_fn (num5_meets (-5) (by decide) (by decide)) (Seals.refl _ _) qS ?_
  rintro n5 _ _ ⟨rfl, rfl⟩
  refine call_fn (num5_meets 5 (by decide) (by decide)) (Seals.refl _ _) qS ?_
  rintro n6 _ _ ⟨rfl, rfl⟩
  refine call_fn (sfA p n5 n6) (Seals.refl _ _) qS ?_
  rintro _ _ _ ⟨rfl, l, rfl, rfl⟩
  refine call_fn (num5_meets (-5) (by decide) (by decide)) (Seals.refl _ _) qS ?_
  rintro n7 _ _ ⟨rfl, rfl⟩
  refine call_fn (num5_meets 5 (by decide) (by decide)) (Seals.refl _ _) qS ?_
  rintro n8 _ _ ⟨rfl, rfl⟩
  refine call_fn (siA p n7 n8) (Seals.refl _ _) qS ?_
  rintro _ _ _ ⟨rfl, k, rfl, rfl⟩
  refine call_fn (saB q) (Seals.refl _ _) qS ?_
  rintro _ _ _ ⟨rfl, z, rfl, rfl⟩
  refine draw_rule [0, 1, 2, 3, 4, 5, 6, 7, 8, 9, 10, 11, 12, 13, 14, 15, 16, 17, 18, 19, 20, 21, 22, 23, 24, 25, 26, 27, 28, 29, 30] [0, 1, 2, 3, 4, 5, 6, 7, 8, 9, 10, 11, 12, 13, 14, 15, 16, 17, 18, 19, 20, 21, 22, 23, 24, 25, 26, 27, 28, 29, 30] (by kernel_rfl) (by kernel_rfl) ?_
  refine load_box (d := zd 4) 0 rfl hbb rfl (load_I _ _) fun y1 => ?_
  refine call_fn (num5_meets 4 (by decide) (by decide)) (Seals.refl _ _) qS ?_
  rintro n9 _ _ ⟨rfl, rfl⟩
  refine call_fn (ex5T y1 n9 4 4 rfl) (Seals.refl _ _) qS ?_
  rintro _ _ _ ⟨rfl, rfl, rfl⟩
  refine cmp_false rfl (by decide) ?_
  refine cmp_false rfl (by decide) ?_
  refine lit_IL [-2, 1] rfl rfl (by decide) fun s3 => ?_
  refine call_fn (of5_meets s3 [-2, 1] (by decide) (by decide)) (Seals.refl _ _) qS ?_
  rintro m1 _ _ ⟨rfl, rfl⟩
  refine call_fn (exall5T l m1 [-2, 1] [-2, 1] rfl) (Seals.refl _ _) qS ?_
  rintro _ _ _ ⟨rfl, rfl, rfl⟩
  refine len_fact (v := k) (n := 0) qM fun _ => ?_
  refine cmp_false rfl (by decide) ?_
  refine lit_IL [-1, 0, 1] rfl rfl (by decide) fun s4 => ?_
  refine call_fn (of5_meets s4 [-1, 0, 1] (by decide) (by decide)) (Seals.refl _ _) qS ?_
  rintro m2 _ _ ⟨rfl, rfl⟩
  refine call_fn (exall5T z m2 [-1, 0, 1] [-1, 0, 1] rfl) (Seals.refl _ _) qS ?_
  rintro _ _ _ ⟨rfl, rfl, rfl⟩
  refine call_fn (num5_meets 1 (by decide) (by decide)) (Seals.refl _ _) qS ?_
  rintro n10 _ _ ⟨rfl, rfl⟩
  refine call_fn (ssA p n10) (Seals.refl _ _) qS ?_
  rintro _ _ _ ⟨rfl, rfl, rfl⟩
  refine cmp_true rfl rfl ?_
  refine cmp_true rfl rfl ?_
  refine cmp_true rfl rfl ?_
  refine cmp_true rfl rfl ?_
  refine cmp_true rfl rfl ?_
  refine cmp_true rfl rfl ?_
  refine cmp_true rfl rfl ?_
  exact fin ⟨rfl, rfl, rfl⟩ (Seals.trans (Seals.drop 0 _ _) (Seals.nil _ _))
open Go.RowKit
theorem Rise.filter (f : Int → Bool) : ∀ {l : List Int}, Rise l → Rise (l.filter f)
  | [], _ => trivial
  | a :: l, h => by
    have ih := Rise.filter f h.2
    rw [List.filter_cons]
    split
    · exact ⟨fun x hx => h.1 x ((List.mem_filter.1 hx).1), ih⟩
    · exact ih
end Go.Proofs.YtgpcepcbdpigfaaGreat
namespace Go.Proofs.YtgpcepcbdpigfaaGreat
theorem Rise.get : ∀ {l : List Int} {i : Nat}, Rise l → i + 1 < l.length → l.getD i 0 < l.getD (i + 1) 0
  | [], i, _, h => by simp at h
  | [a], i, _, h => by simp at h
  | a :: b :: l, 0, h, _ => h.1 b (List.mem_cons_self ..)
  | a :: b :: l, i + 1, h, hi => by
    have := Rise.get (l := b :: l) (i := i) h.2 (by simp only [List.length_cons] at hi ⊢; omega)
    exact this
end Go.Proofs.YtgpcepcbdpigfaaGreat
namespace Go.Proofs.YtgpcepcbdpigfaaGreat
theorem rc_nc {s : List Int} {L : Nat → List Int} {r : Nat} (h : Chain L r) (e : L 0 = s) (a : Int) (d : Nat) : ∃ W, ∀ w, W ≤ w → rc s a (a + d) = nc s w ((w : Int) * a) (w * d) := by
  obtain ⟨W, _, hW⟩ := h.sturm (a.natAbs + d)
  refine ⟨W, fun w hw => ?_⟩
  have h1 := (hW w hw).1 a d (Nat.le_refl _)
  rw [rc_eq h e (by omega), h1, e]; omega
theorem rbnd_two (P : List Int) : 2 ≤ rbnd P := by
  unfold rbnd
  have : 0 ≤ ((mxa (P.take (dg P - 1)) : Nat) : Int) / ((ld P).natAbs : Int) := Int.ediv_nonneg (Int.natCast_nonneg _) (Int.natCast_nonneg _)
  omega
end Go.Proofs.YtgpcepcbdpigfaaGreat
namespace Go.Proofs.YtgpcepcbdpigfaaGreat
theorem gh_snoc (c w u : Int) : ∀ l : List Int, gh (l ++ [c]) w u = w * gh l w u + c * u ^ l.length * w
  | [] => by
    show c * w ^ (0 + 1) + u * 0 = w * 0 + c * u ^ 0 * w
    rw [Int.pow_succ, Int.pow_zero, Int.pow_zero]; grind
  | x :: l => by
    rw [List.cons_append]
    simp only [gh, gh_snoc c w u l, List.length_append, List.length_cons, List.length_nil, Int.pow_succ]
    grind
theorem gh_rev (w u : Int) : ∀ l : List Int, w * gh l.reverse u w = u * gh l w u
  | [] => by simp [gh]
  | c :: l => by
    have ih := gh_rev w u l
    rw [List.reverse_cons, gh_snoc, List.length_reverse]
    simp only [gh, Int.pow_succ]
    grind
theorem gh_move {T R : List Int} {a w : Int} (h : ∀ x, pev T x = pev R (x + a)) (hw : w ≠ 0) (v : Int) : w ^ R.length * gh T w v = w ^ T.length * gh R w (v + a * w) := by
  have := mult_ext hw (F := ptim (w ^ R.length) (ghl w T)) (G := ptim (w ^ T.length) (pshi (a * w) (ghl w R))) (fun x => by
    rw [ev_ptim, ev_ptim, ev_pshi]
    simp only [ghl_ev]
    rw [gh_at, show w * x + a * w = w * (x + a) by grind, gh_at, h]; grind) v
  rw [ev_ptim, ev_ptim, ev_pshi] at this
  simp only [ghl_ev] at this
  exact this
theorem gh_hom (c w u : Int) : ∀ l : List Int, gh l (c * w) (c * u) = c ^ l.length * gh l w u
  | [] => by simp [gh]
  | x :: l => by
    simp only [gh, gh_hom c w u l, List.length_cons, Int.pow_succ, Int.mul_pow]
    grind
theorem gh_app (w u : Int) : ∀ A B : List Int, gh (A ++ B) w u = w ^ B.length * gh A w u + u ^ A.length * gh B w u
  | [], B => by simp [gh]
  | c :: A, B => by
    rw [List.cons_append]
    simp only [gh, gh_app w u A B, List.length_append, List.length_cons, Int.pow_succ, Int.pow_add]
    grind
theorem gh_nn {w u : Int} (hw : 0 ≤ w) (hu : 0 ≤ u) : ∀ {l : List Int}, (∀ x, x ∈ l → 0 ≤ x) → 0 ≤ gh l w u
  | [], _ => Int.le_refl _
  | c :: l, h => Int.add_nonneg (Int.mul_nonneg (h c (List.mem_cons_self ..)) (Int.pow_nonneg hw)) (Int.mul_nonneg hu (gh_nn hw hu fun x hx => h x (List.mem_cons_of_mem _ hx)))
theorem gh_pos {w u : Int} (hw : 0 < w) (hu : 0 < u) : ∀ {l : List Int}, (∀ x, x ∈ l → 0 ≤ x) → (∃ x, x ∈ l ∧ x ≠ 0) → 0 < gh l w u
  | [], _, ⟨x, hx, _⟩ => by simp at hx
  | c :: l, h, ⟨x, hx, h0⟩ => by
    have hc := h c (List.mem_cons_self ..)
    have hl := fun y hy => h y (List.mem_cons_of_mem c hy)
    have hn := gh_nn (Int.le_of_lt hw) (Int.le_of_lt hu) hl
    have hp : 0 < w ^ (l.length + 1) := Int.pow_pos hw
    show 0 < c * w ^ (l.length + 1) + u * gh l w u
    rcases List.mem_cons.1 hx with rfl | hx
    · have := Int.mul_pos (show 0 < x by omega) hp
      have := Int.mul_nonneg (Int.le_of_lt hu) hn
      omega
    · have := Int.mul_pos hu (gh_pos hw hu hl ⟨x, hx, h0⟩)
      have := Int.mul_nonneg hc (Int.le_of_lt hp)
      omega
theorem gh_smul (k w u : Int) : ∀ l : List Int, gh (l.map fun x => k * x) w u = k * gh l w u
  | [] => by simp [gh]
  | c :: l => by
    simp only [List.map_cons, gh, gh_smul k w u l, List.length_map]; grind
theorem gh_dec {u u' v v' : Int} (hu : 0 < u) (hu' : u < u') (hv' : 0 < v') (hv : v' < v) : ∀ {A : List Int}, (∀ x, x ∈ A → 0 ≤ x) →
    gh A u v * v' ^ A.length ≤ gh A u' v' * v ^ A.length ∧ ((∃ x, x ∈ A ∧ x ≠ 0) → gh A u v * v' ^ A.length < gh A u' v' * v ^ A.length)
  | [], _ => ⟨by simp [gh], fun ⟨x, hx, _⟩ => by simp at hx⟩
  | c :: l, h => by
    have hc := h c (List.mem_cons_self ..)
    obtain ⟨i1, i2⟩ := gh_dec hu hu' hv' hv (A := l) fun y hy => h y (List.mem_cons_of_mem c hy)
    have hlt : u * v' < u' * v := by
      have a1 : u * v' ≤ u * v := Int.mul_le_mul_of_nonneg_left (by omega) (by omega)
      have a2 : u * v < u' * v := Int.mul_lt_mul_of_pos_right hu' (by omega)
      omega
    have hpl : (u * v') ^ (l.length + 1) < (u' * v) ^ (l.length + 1) := by
      have hp : 0 < u * v' := Int.mul_pos hu hv'
      have : ∀ n : Nat, (u * v') ^ (n + 1) < (u' * v) ^ (n + 1) := fun n => by
        induction n with
        | zero => simp only [Int.pow_succ, Int.pow_zero, Int.one_mul]; exact hlt
        | succ n ih =>
          rw [Int.pow_succ, Int.pow_succ (u' * v)]
          have a1 : (u * v') ^ (n + 1) * (u * v') < (u' * v) ^ (n + 1) * (u * v') := Int.mul_lt_mul_of_pos_right ih hp
          have a2 : (u' * v) ^ (n + 1) * (u * v') ≤ (u' * v) ^ (n + 1) * (u' * v) := Int.mul_le_mul_of_nonneg_left (by omega) (Int.pow_nonneg (by omega))
          omega
      exact this _
    have e1 : gh (c :: l) u v * v' ^ (c :: l).length = c * (u * v') ^ (l.length + 1) + v * v' * (gh l u v * v' ^ l.length) := by
      simp only [gh, List.length_cons, Int.mul_pow, Int.pow_succ]; grind
    have e2 : gh (c :: l) u' v' * v ^ (c :: l).length = c * (u' * v) ^ (l.length + 1) + v * v' * (gh l u' v' * v ^ l.length) := by
      simp only [gh, List.length_cons, Int.mul_pow, Int.pow_succ]; grind
    have hvv : 0 < v * v' := Int.mul_pos (by omega) hv'
    rw [e1, e2]
    have b1 : c * (u * v') ^ (l.length + 1) ≤ c * (u' * v) ^ (l.length + 1) := Int.mul_le_mul_of_nonneg_left (by omega) hc
    have b2 : v * v' * (gh l u v * v' ^ l.length) ≤ v * v' * (gh l u' v' * v ^ l.length) := Int.mul_le_mul_of_nonneg_left i1 (by omega)
    refine ⟨by omega, fun ⟨x, hx, h0⟩ => ?_⟩
    rcases List.mem_cons.1 hx with rfl | hx
    · have b3 : x * (u * v') ^ (l.length + 1) < x * (u' * v) ^ (l.length + 1) := Int.mul_lt_mul_of_pos_left hpl (by omega)
      omega
    · have b3 : v * v' * (gh l u v * v' ^ l.length) < v * v' * (gh l u' v' * v ^ l.length) := Int.mul_lt_mul_of_pos_left (i2 ⟨x, hx, h0⟩) hvv
      omega
theorem gh_inc {u u' v v' : Int} (hu : 0 < u) (hu' : u < u') (hv' : 0 < v') (hv : v' < v) : ∀ {B : List Int}, (∀ x, x ∈ B → 0 ≤ x) →
    gh B u' v' * u ^ B.length ≤ gh B u v * u' ^ B.length
  | [], _ => by simp [gh]
  | c :: l, h => by
    have hc := h c (List.mem_cons_self ..)
    have hl := fun y hy => h y (List.mem_cons_of_mem c hy)
    have i1 := gh_inc hu hu' hv' hv hl
    have e1 : gh (c :: l) u' v' * u ^ (c :: l).length = c * (u * u') ^ (l.length + 1) + v' * u * (gh l u' v' * u ^ l.length) := by
      simp only [gh, List.length_cons, Int.mul_pow, Int.pow_succ]; grind
    have e2 : gh (c :: l) u v * u' ^ (c :: l).length = c * (u * u') ^ (l.length + 1) + v * u' * (gh l u v * u' ^ l.length) := by
      simp only [gh, List.length_cons, Int.mul_pow, Int.pow_succ]; grind
    rw [e1, e2]
    have hn : 0 ≤ gh l u v * u' ^ l.length := Int.mul_nonneg (gh_nn (by omega) (by omega) hl) (Int.pow_nonneg (by omega))
    have hle : v' * u ≤ v * u' := by
      have a1 : v' * u ≤ v * u := Int.mul_le_mul_of_nonneg_right (by omega) (by omega)
      have a2 : v * u ≤ v * u' := Int.mul_le_mul_of_nonneg_left (by omega) (by omega)
      omega
    have a1 : v' * u * (gh l u' v' * u ^ l.length) ≤ v' * u * (gh l u v * u' ^ l.length) := Int.mul_le_mul_of_nonneg_left i1 (Int.mul_nonneg (by omega) (by omega))
    have a2 : v' * u * (gh l u v * u' ^ l.length) ≤ v * u' * (gh l u v * u' ^ l.length) := Int.mul_le_mul_of_nonneg_right hle hn
    omega
theorem vs0_same : ∀ {l : List Int} {t : Int}, t ≠ 0 → vs t l = 0 → ∀ x, x ∈ l → 0 ≤ t * x
  | y :: l, t, ht, h, x, hx => by
    rw [vs] at h
    by_cases hy : y = 0
    · rw [if_pos hy] at h
      rcases List.mem_cons.1 hx with rfl | hx
      · rw [hy]; simp
      · exact vs0_same ht h x hx
    · rw [if_neg hy] at h
      have hn : ¬ y * t < 0 := fun g => by rw [if_pos g] at h; omega
      have hp : 0 < t * y := by
        have : y * t ≠ 0 := Int.mul_ne_zero hy ht
        have := Int.mul_comm y t
        omega
      rcases List.mem_cons.1 hx with rfl | hx
      · omega
      · have h2 := vs0_same hy (by rw [if_neg hn] at h; omega) x hx
        refine Int.not_lt.1 fun g => ?_
        have h3 : (t * y) * (y * x) = (y * y) * (t * x) := by grind
        have h4 := Int.mul_nonneg (Int.le_of_lt hp) h2
        have h5 : 0 < y * y := by
          rcases Int.lt_trichotomy y 0 with g | g | g
          · exact Int.mul_pos_of_neg_of_neg g g
          · exact absurd g hy
          · exact Int.mul_pos g g
        have h6 := Int.mul_neg_of_pos_of_neg h5 g
        omega
theorem vs1_split : ∀ {l : List Int} {t : Int}, t ≠ 0 → vs t l = 1 → ∃ A B, l = A ++ B ∧ (∀ x, x ∈ A → 0 ≤ t * x) ∧ (∀ x, x ∈ B → t * x ≤ 0) ∧ ∃ x, x ∈ B ∧ x ≠ 0
  | [], t, _, h => by simp [vs] at h
  | y :: l, t, ht, h => by
    rw [vs] at h
    by_cases hy : y = 0
    · rw [if_pos hy] at h
      obtain ⟨A, B, rfl, h1, h2, h3⟩ := vs1_split ht h
      exact ⟨y :: A, B, rfl, fun x hx => by
        rcases List.mem_cons.1 hx with rfl | hx
        · rw [hy]; simp
        · exact h1 x hx, h2, h3⟩
    · rw [if_neg hy] at h
      by_cases g : y * t < 0
      · rw [if_pos g] at h
        have h1 := vs0_same hy (show vs y l = 0 by omega)
        refine ⟨[], y :: l, rfl, fun x hx => by simp at hx, fun x hx => ?_, ⟨y, List.mem_cons_self .., hy⟩⟩
        rcases List.mem_cons.1 hx with rfl | hx
        · have := Int.mul_comm x t; omega
        · have h2 := h1 x hx
          refine Int.not_lt.1 fun g2 => ?_
          have h3 : (y * t) * (y * x) = (y * y) * (t * x) := by grind
          have h4 : (y * t) * (y * x) ≤ 0 := Int.mul_nonpos_of_nonpos_of_nonneg (Int.le_of_lt g) h2
          have h5 : 0 < y * y := by
            rcases Int.lt_trichotomy y 0 with g | g | g
            · exact Int.mul_pos_of_neg_of_neg g g
            · exact absurd g hy
            · exact Int.mul_pos g g
          have h6 := Int.mul_pos h5 g2
          omega
      · rw [if_neg g] at h
        have hp : 0 < t * y := by
          have : y * t ≠ 0 := Int.mul_ne_zero hy ht
          have := Int.mul_comm y t
          omega
        rw [← vs_sign hp l] at h
        have h' : vs t l = 1 := by omega
        obtain ⟨A, B, rfl, h1, h2, h3⟩ := vs1_split ht h'
        exact ⟨y :: A, B, rfl, fun x hx => by
          rcases List.mem_cons.1 hx with e | hx
          · rw [e]; omega
          · exact h1 x hx, h2, h3⟩
theorem vs_first : ∀ {l : List Int}, (∃ x, x ∈ l ∧ x ≠ 0) → ∃ Z t m, l = Z ++ t :: m ∧ (∀ x, x ∈ Z → x = 0) ∧ t ≠ 0 ∧ vs 0 l = vs t m
  | [], ⟨x, hx, _⟩ => by simp at hx
  | y :: l, ⟨x, hx, h0⟩ => by
    by_cases hy : y = 0
    · rcases List.mem_cons.1 hx with rfl | hx
      · exact absurd hy h0
      · obtain ⟨Z, t, m, rfl, h1, h2, h3⟩ := vs_first ⟨x, hx, h0⟩
        refine ⟨y :: Z, t, m, rfl, fun z hz => ?_, h2, by rw [vs, if_pos hy, h3]⟩
        rcases List.mem_cons.1 hz with rfl | hz
        · exact hy
        · exact h1 z hz
    · exact ⟨[], y, l, rfl, fun z hz => by simp at hz, hy, by rw [vs, if_neg hy]; simp⟩
def ncf (f : Nat → Int) : Nat → Nat
  | 0 => 0
  | e + 1 => ncf f e + if f e * f (e + 1) ≤ 0 ∧ f e ≠ 0 then 1 else 0
theorem nc_ncf (s : List Int) (w : Nat) (u : Int) : ∀ e, nc s w u e = ncf (fun i => gh s w (u + (i : Nat))) e
  | 0 => rfl
  | e + 1 => by
    rw [nc, ncf, nc_ncf s w u e]
    simp only [show u + ((e + 1 : Nat) : Int) = u + e + 1 by omega]
theorem ncf_cong {f g : Nat → Int} {α β : Int} (hα : 0 < α) (hβ : 0 < β) : ∀ {e : Nat}, (∀ i, i ≤ e → α * f i = β * g i) → ncf f e = ncf g e
  | 0, _ => rfl
  | e + 1, h => by
    have h1 := h e (by omega)
    have h2 := h (e + 1) (by omega)
    have k1 : f e ≠ 0 ↔ g e ≠ 0 := by
      constructor
      · intro z z2
        rw [z2, Int.mul_zero] at h1
        exact (Int.mul_ne_zero (by omega) z) h1
      · intro z z2
        rw [z2, Int.mul_zero] at h1
        exact (Int.mul_ne_zero (by omega) z) h1.symm
    have k2 : f e * f (e + 1) ≤ 0 ↔ g e * g (e + 1) ≤ 0 := by
      have e1 : (α * α) * (f e * f (e + 1)) = (β * β) * (g e * g (e + 1)) := by
        have : (α * f e) * (α * f (e + 1)) = (β * g e) * (β * g (e + 1)) := by rw [h1, h2]
        grind
      have a1 := Int.mul_pos hα hα
      have b1 := Int.mul_pos hβ hβ
      constructor
      · intro z
        refine Int.not_lt.1 fun z2 => ?_
        have := Int.mul_pos b1 z2
        have := Int.mul_nonpos_of_nonneg_of_nonpos (Int.le_of_lt a1) z
        omega
      · intro z
        refine Int.not_lt.1 fun z2 => ?_
        have := Int.mul_pos a1 z2
        have := Int.mul_nonpos_of_nonneg_of_nonpos (Int.le_of_lt b1) z
        omega
    rw [ncf, ncf, ncf_cong hα hβ fun i hi => h i (by omega)]
    simp only [k1, k2]
theorem ncf_zero {f : Nat → Int} {e : Nat} (he : 1 ≤ e) (h0 : 0 ≤ f 0) (h1 : ∀ i, 0 < i → i < e → 0 < f i) (h2 : 0 ≤ f e) : ncf f e = if f e = 0 ∧ f (e - 1) ≠ 0 then 1 else 0 := by
  have key : ∀ k, k + 1 ≤ e → ncf f k = 0 := fun k => by
    induction k with
    | zero => intro _; rfl
    | succ k ih =>
      intro hk
      rw [ncf, ih (by omega), if_neg]
      rintro ⟨g1, g2⟩
      have a1 := h1 (k + 1) (by omega) (by omega)
      have a2 : 0 ≤ f k := by
        by_cases e0 : k = 0
        · subst e0; exact h0
        · exact Int.le_of_lt (h1 k (by omega) (by omega))
      have := Int.mul_pos (show 0 < f k by omega) a1
      omega
  obtain ⟨m, rfl⟩ : ∃ m, e = m + 1 := ⟨e - 1, by omega⟩
  rw [Nat.add_sub_cancel, ncf, key m (by omega)]
  have a2 : 0 ≤ f m := by
    by_cases e0 : m = 0
    · subst e0; exact h0
    · exact Int.le_of_lt (h1 m (by omega) (by omega))
  by_cases g : f (m + 1) = 0 ∧ f m ≠ 0
  · rw [if_pos g, if_pos ⟨by rw [g.1]; simp, g.2⟩]
  · rw [if_neg g, if_neg]
    rintro ⟨g1, g2⟩
    have := Int.mul_pos (show 0 < f m by omega) (show 0 < f (m + 1) by
      have : f (m + 1) ≠ 0 := fun z => g ⟨z, g2⟩
      omega)
    omega
theorem ncf_one {f : Nat → Int} {e : Nat} (he : 3 ≤ e) (h0 : 0 ≤ f 0) (h1 : 0 < f 1) (h2 : f (e - 1) < 0) (h3 : f e ≤ 0) (hm : ∀ i, 0 < i → i + 1 < e → f i ≤ 0 → f (i + 1) < 0) : ncf f e = 1 + if f e = 0 then 1 else 0 := by
  have key : ∀ k, k + 2 ≤ e → ncf f (k + 1) = if 0 < f (k + 1) then 0 else 1 := fun k => by
    induction k with
    | zero =>
      intro _
      rw [ncf, ncf, if_pos (show 0 < f (0 + 1) from h1), if_neg]
      rintro ⟨g1, g2⟩
      have := Int.mul_pos (show 0 < f 0 by omega) (show 0 < f (0 + 1) from h1)
      omega
    | succ k ih =>
      intro hk
      rw [ncf, ih (by omega)]
      by_cases g : 0 < f (k + 1)
      · rw [if_pos g]
        by_cases g2 : 0 < f (k + 1 + 1)
        · rw [if_pos g2, if_neg]
          rintro ⟨a1, _⟩
          have := Int.mul_pos g g2
          omega
        · rw [if_neg g2, if_pos ⟨Int.mul_nonpos_of_nonneg_of_nonpos (by omega) (by omega), by omega⟩]
      · have g2 := hm (k + 1) (by omega) (by omega) (by omega)
        rw [if_neg g, if_neg (show ¬ 0 < f (k + 1 + 1) by omega)]
        have hn : ¬ (f (k + 1) * f (k + 1 + 1) ≤ 0 ∧ f (k + 1) ≠ 0) := fun ⟨a1, a2⟩ => by
          have := Int.mul_pos_of_neg_of_neg (show f (k + 1) < 0 by omega) g2
          omega
        rw [if_neg hn]
  obtain ⟨m, rfl⟩ : ∃ m, e = m + 3 := ⟨e - 3, by omega⟩
  have h2' : f (m + 1 + 1) < 0 := h2
  have h3' : f (m + 1 + 1 + 1) ≤ 0 := h3
  have h4 := key (m + 1) (by omega)
  rw [if_neg (show ¬ 0 < f (m + 1 + 1) by omega)] at h4
  show ncf f (m + 1 + 1 + 1) = 1 + if f (m + 1 + 1 + 1) = 0 then 1 else 0
  rw [ncf, h4]
  clear h3 h2 h4 key
  generalize f (m + 1 + 1 + 1) = z at *
  generalize f (m + 1 + 1) = y at *
  by_cases g : z = 0
  · rw [if_pos g, if_pos ⟨by rw [g]; simp, by omega⟩]
  · have hn : ¬ (y * z ≤ 0 ∧ y ≠ 0) := fun ⟨a1, _⟩ => by
      have := Int.mul_pos_of_neg_of_neg h2' (show z < 0 by omega)
      omega
    rw [if_neg g, if_neg hn]
end Go.Proofs.YtgpcepcbdpigfaaGreat
namespace Go.Proofs.YtgpcepcbdpigfaaGreat
def radd : List Int → List Int → List Int
  | [], m => m
  | l, [] => l
  | a :: l, b :: m => (a + b) :: radd l m
theorem radd_get : ∀ (l m : List Int) (i : Nat), (radd l m).getD i 0 = l.getD i 0 + m.getD i 0
  | [], m, i => by simp [radd]
  | a :: l, [], i => by simp [radd]
  | a :: l, b :: m, 0 => by simp [radd]
  | a :: l, b :: m, i + 1 => by simpa [radd] using radd_get l m i
theorem radd_ev (x : Int) : ∀ l m : List Int, pev (radd l m) x = pev l x + pev m x
  | [], m => by simp [radd, pev]
  | a :: l, [] => by simp [radd, pev]
  | a :: l, b :: m => by simp only [radd, pev, radd_ev x l m]; grind
theorem radd_len : ∀ l m : List Int, (radd l m).length = max l.length m.length
  | [], m => by simp [radd]
  | a :: l, [] => by simp [radd]
  | a :: l, b :: m => by simp only [radd, List.length_cons, radd_len l m]; omega
def sh1 : List Int → List Int
  | [] => []
  | c :: l => radd (c :: sh1 l) (sh1 l)
theorem sh1_ev (x : Int) : ∀ l : List Int, pev (sh1 l) x = pev l (x + 1)
  | [] => rfl
  | c :: l => by simp only [sh1, radd_ev, pev, sh1_ev x l]; grind
theorem sh1_len : ∀ l : List Int, (sh1 l).length = l.length
  | [] => rfl
  | c :: l => by simp only [sh1, radd_len, List.length_cons, sh1_len l]; omega
theorem sh1_top : ∀ l : List Int, (sh1 l).getD (l.length - 1) 0 = l.getD (l.length - 1) 0
  | [] => rfl
  | [c] => by simp [sh1, radd]
  | c :: d :: l => by
    have ih := sh1_top (d :: l)
    have h1 := sh1_len (d :: l)
    rw [sh1, radd_get]
    simp only [List.length_cons, Nat.add_sub_cancel] at ih h1 ⊢
    rw [List.getD_cons_succ, ih, List.getD_cons_succ]
    have : (sh1 (d :: l)).getD (l.length + 1) 0 = 0 := by rw [List.getD_eq_getElem?_getD, List.getElem?_eq_none (by omega)]; rfl
    rw [this]; omega
theorem ncf_smul {f : Nat → Int} {t : Int} (ht : t ≠ 0) : ∀ e, ncf (fun i => t * f i) e = ncf f e
  | 0 => rfl
  | e + 1 => by
    rw [ncf, ncf, ncf_smul ht e]
    have h5 : 0 < t * t := by
      rcases Int.lt_trichotomy t 0 with g | g | g
      · exact Int.mul_pos_of_neg_of_neg g g
      · exact absurd g ht
      · exact Int.mul_pos g g
    have k1 : t * f e ≠ 0 ↔ f e ≠ 0 := ⟨fun h z => h (by rw [z, Int.mul_zero]), fun h => Int.mul_ne_zero ht h⟩
    have k2 : t * f e * (t * f (e + 1)) ≤ 0 ↔ f e * f (e + 1) ≤ 0 := by
      have e1 : t * f e * (t * f (e + 1)) = t * t * (f e * f (e + 1)) := by grind
      rw [e1]
      constructor
      · intro z
        refine Int.not_lt.1 fun z2 => ?_
        have := Int.mul_pos h5 z2
        omega
      · exact fun z => Int.mul_nonpos_of_nonneg_of_nonpos (Int.le_of_lt h5) z
    simp only [k1, k2]
theorem turn_grid {q T : List Int} (hT : ∀ x, pev T x = pev q.reverse (x + 1)) {w i : Int} (hi : 0 < i) : (i ^ T.length * i) * gh q w i = (w * i ^ q.length) * gh T i (w - i) := by
  have h1 := gh_rev w i q
  have h2 := gh_move (a := 1) hT (show i ≠ 0 by omega) (w - i)
  rw [List.length_reverse, show w - i + 1 * i = w by omega] at h2
  have e1 : i ^ T.length * i * gh q w i = i ^ T.length * (w * gh q.reverse i w) := by rw [h1]; grind
  have e2 : w * i ^ q.length * gh T i (w - i) = w * (i ^ T.length * gh q.reverse i w) := by rw [← h2]; grind
  rw [e1, e2]; grind
theorem pos_pos {α β x y : Int} (hα : 0 < α) (hβ : 0 < β) (h : α * x = β * y) : (0 < x ↔ 0 < y) ∧ (x < 0 ↔ y < 0) := by
  rcases Int.lt_trichotomy x 0 with g | g | g
  · have h1 := Int.mul_neg_of_pos_of_neg hα g
    have h2 : y < 0 := Int.not_le.1 fun z => by have := Int.mul_nonneg (Int.le_of_lt hβ) z; omega
    omega
  · subst g
    rw [Int.mul_zero] at h
    have h2 : y = 0 := (Int.mul_eq_zero.1 h.symm).resolve_left (by omega)
    omega
  · have h1 := Int.mul_pos hα g
    have h2 : 0 < y := Int.not_le.1 fun z => by have := Int.mul_nonpos_of_nonneg_of_nonpos (Int.le_of_lt hβ) z; omega
    omega
theorem gC_smul (k : Int) (M : Nat) : ∀ l : List Int, gC M (l.map fun x => k * x) = k.natAbs * gC M l
  | [] => rfl
  | c :: l => by simp only [List.map_cons, gC, gC_smul k M l, Int.natAbs_mul]; grind
theorem gh_high {y : Int} (hy : 1 ≤ y) : ∀ {A : List Int}, (∀ x, x ∈ A → 0 ≤ x) → y * gh A 1 y ≤ gC 1 A * y ^ A.length
  | [], _ => by simp [gh, gC]
  | c :: l, h => by
    have hc := h c (List.mem_cons_self ..)
    have ih := gh_high hy (A := l) fun z hz => h z (List.mem_cons_of_mem _ hz)
    have e1 : y * gh (c :: l) 1 y = c * y + y * (y * gh l 1 y) := by simp only [gh, Int.one_pow]; grind
    have e2 : ((gC 1 (c :: l) : Nat) : Int) * y ^ (c :: l).length = c * y ^ (l.length + 1) + y * (gC 1 l * y ^ l.length) := by
      have : ((gC 1 (c :: l) : Nat) : Int) = c + gC 1 l := by
        show (((c.natAbs + 1 * gC 1 l : Nat)) : Int) = _
        omega
      rw [this, List.length_cons, Int.pow_succ]; grind
    have h1 : y * (y * gh l 1 y) ≤ y * (gC 1 l * y ^ l.length) := Int.mul_le_mul_of_nonneg_left ih (by omega)
    have h2 : y ≤ y ^ (l.length + 1) := by
      have : ∀ n : Nat, y ≤ y ^ (n + 1) := fun n => by
        induction n with
        | zero => simp only [Int.pow_succ, Int.pow_zero, Int.one_mul]; exact Int.le_refl _
        | succ n ih =>
          rw [Int.pow_succ]
          have : y ^ (n + 1) * 1 ≤ y ^ (n + 1) * y := Int.mul_le_mul_of_nonneg_left hy (by omega)
          omega
      exact this _
    have h3 : c * y ≤ c * y ^ (l.length + 1) := Int.mul_le_mul_of_nonneg_left h2 hc
    rw [e1, e2]; omega
theorem gh_low {u : Int} (hu : 1 ≤ u) : ∀ {A : List Int}, (∀ x, x ∈ A → 0 ≤ x) → (∃ x, x ∈ A ∧ x ≠ 0) → u ≤ gh A u 1
  | [], _, ⟨x, hx, _⟩ => by simp at hx
  | c :: l, h, ⟨x, hx, h0⟩ => by
    have hc := h c (List.mem_cons_self ..)
    have hl := fun y hy => h y (List.mem_cons_of_mem c hy)
    have hn := gh_nn (u := 1) (show 0 ≤ u by omega) (by decide) hl
    have h2 : u ≤ u ^ (l.length + 1) := by
      have : ∀ n : Nat, u ≤ u ^ (n + 1) := fun n => by
        induction n with
        | zero => simp only [Int.pow_succ, Int.pow_zero, Int.one_mul]; exact Int.le_refl _
        | succ n ih =>
          rw [Int.pow_succ]
          have : u ^ (n + 1) * 1 ≤ u ^ (n + 1) * u := Int.mul_le_mul_of_nonneg_left hu (by omega)
          omega
      exact this _
    show u ≤ c * u ^ (l.length + 1) + 1 * gh l u 1
    rcases List.mem_cons.1 hx with rfl | hx
    · have : 1 * u ^ (l.length + 1) ≤ x * u ^ (l.length + 1) := Int.mul_le_mul_of_nonneg_right (by omega) (by omega)
      omega
    · have := gh_low hu hl ⟨x, hx, h0⟩
      have := Int.mul_nonneg hc (show 0 ≤ u ^ (l.length + 1) by omega)
      omega
theorem ev_zero_mem {l : List Int} (h : ∀ x, x ∈ l → x = 0) (x : Int) : pev l x = 0 := by
  induction l with
  | nil => rfl
  | cons c l ih => rw [pev, h c (List.mem_cons_self ..), ih fun y hy => h y (List.mem_cons_of_mem _ hy)]; simp
theorem turned_ne {q T : List Int} (hT : ∀ x, pev T x = pev q.reverse (x + 1)) (hq : ∃ x, x ∈ q ∧ x ≠ 0) : ∃ x, x ∈ T ∧ x ≠ 0 := by
  refine Classical.byContradiction fun hn => ?_
  have h1 : ∀ x, x ∈ T → x = 0 := fun x hx => Classical.byContradiction fun h => hn ⟨x, hx, h⟩
  have h2 : ∀ x, pev q.reverse x = 0 := fun x => by
    have := hT (x - 1)
    rw [ev_zero_mem h1, show x - 1 + 1 = x by omega] at this
    exact this.symm
  obtain ⟨x, hx, h0⟩ := hq
  obtain ⟨i, hi, rfl⟩ := List.mem_iff_getElem.1 (List.mem_reverse.2 hx)
  have h3 := co_ext (l := q.reverse) (m := []) (fun y => by rw [h2]; rfl) i
  rw [List.getD_eq_getElem?_getD, List.getElem?_eq_getElem hi] at h3
  exact h0 h3
theorem desc {q T : List Int} (hq : ∃ x, x ∈ q ∧ x ≠ 0) (hT : ∀ x, pev T x = pev q.reverse (x + 1)) (hv : vs 0 T ≤ 1) :
    ∃ W, ∀ w : Nat, W ≤ w → nc q w 0 w = vs 0 T + if pev q 1 = 0 then 1 else 0 := by
  obtain ⟨Z, t, m, hTe, hZ, ht, hvs⟩ := vs_first (turned_ne hT hq)
  have htt : 0 < t * t := by
    rcases Int.lt_trichotomy t 0 with g | g | g
    · exact Int.mul_pos_of_neg_of_neg g g
    · exact absurd g ht
    · exact Int.mul_pos g g
  have hco : ∀ i, T.getD i 0 = (sh1 q.reverse).getD i 0 := co_ext fun x => by rw [hT, sh1_ev]
  have hql : 0 < q.length := by
    obtain ⟨x, hx, _⟩ := hq
    exact List.length_pos_iff.2 fun e => by rw [e] at hx; simp at hx
  have htop : T.getD (q.length - 1) 0 = q.getD 0 0 := by
    have := sh1_top q.reverse
    rw [List.length_reverse] at this
    rw [hco, this]
    cases q with
    | nil => simp at hql
    | cons c l => simp
  have hbey : ∀ i, q.length ≤ i → T.getD i 0 = 0 := fun i hi => by
    rw [hco, List.getD_eq_getElem?_getD, List.getElem?_eq_none (by rw [sh1_len, List.length_reverse]; exact hi)]; rfl
  have hT0 : T.getD 0 0 = pev q 1 := by
    have h1 := hT 0
    have h2 : pev T 0 = T.getD 0 0 := by cases T <;> simp [pev]
    have h3 := gh_rev 1 1 q
    have h4 := gh_at 1 1 q
    have h5 := gh_at 1 1 q.reverse
    simp only [Int.one_mul, Int.one_pow] at h3 h4 h5
    rw [← h2, h1, show (0 : Int) + 1 = 1 by rfl, ← h5, h3, h4]
  have f0 : ∀ w : Nat, gh q w 0 = q.getD 0 0 * (w : Int) ^ q.length := fun w => by
    cases q with
    | nil => simp at hql
    | cons c l => simp [gh]
  have fw : ∀ w : Nat, gh q w w = (w : Int) ^ q.length * pev q 1 := fun w => by have := gh_at (w : Int) 1 q; rwa [Int.mul_one] at this
  have hcell : ∀ w : Nat, nc q w 0 w = ncf (fun i => gh q w (i : Nat)) w := fun w => by
    rw [nc_ncf]
    simp only [Int.zero_add]
  by_cases hv0 : vs 0 T = 0
  · have hm := vs0_same ht (show vs t m = 0 by omega)
    have hall : ∀ x, x ∈ T → 0 ≤ t * x := fun x hx => by
      rw [hTe] at hx
      rcases List.mem_append.1 hx with hx | hx
      · rw [hZ x hx]; simp
      · rcases List.mem_cons.1 hx with rfl | hx
        · omega
        · exact hm x hx
    have hget : ∀ i, 0 ≤ t * T.getD i 0 := fun i => by
      by_cases hi : i < T.length
      · rw [List.getD_eq_getElem?_getD, List.getElem?_eq_getElem hi]; exact hall _ (List.getElem_mem _)
      · rw [List.getD_eq_getElem?_getD, List.getElem?_eq_none (by omega)]; simp
    refine ⟨2, fun w hw => ?_⟩
    have hw0 : 0 < (w : Int) := by omega
    have hmid : ∀ i : Nat, 0 < i → i < w → 0 < t * gh q w (i : Nat) := fun i h1 h2 => by
      have hi : 0 < (i : Int) := by omega
      have e := turn_grid (w := w) hT hi
      have hp : 0 < gh (T.map fun x => t * x) i (w - i) := gh_pos hi (by omega) (fun x hx => by
        obtain ⟨y, hy, rfl⟩ := List.mem_map.1 hx
        exact hall y hy) ⟨t * t, List.mem_map.2 ⟨t, by rw [hTe]; simp, rfl⟩, by omega⟩
      rw [gh_smul] at hp
      refine ((pos_pos (α := (i : Int) ^ T.length * i) (β := w * (i : Int) ^ q.length) (Int.mul_pos (Int.pow_pos hi) hi) (Int.mul_pos hw0 (Int.pow_pos hi)) ?_).1).2 hp
      have : (i : Int) ^ T.length * i * (t * gh q w i) = t * ((i : Int) ^ T.length * i * gh q w i) := by grind
      rw [this, e]; grind
    rw [hcell, ← ncf_smul ht, ncf_zero (by omega) ?_ hmid ?_, hv0]
    · have g1 := hmid (w - 1) (by omega) (by omega)
      simp only [fw]
      have : t * ((w : Int) ^ q.length * pev q 1) = 0 ↔ pev q 1 = 0 := by
        rw [Int.mul_eq_zero, Int.mul_eq_zero]
        constructor
        · rintro (h | h | h)
          · exact absurd h ht
          · exact absurd h (Int.pow_ne_zero (by omega))
          · exact h
        · exact fun h => .inr (.inr h)
      simp only [this]
      by_cases h : pev q 1 = 0
      · rw [if_pos h, if_pos ⟨h, by omega⟩]
      · rw [if_neg h, if_neg fun g => h g.1]
    · show 0 ≤ t * gh q w ((0 : Nat) : Int)
      rw [show ((0 : Nat) : Int) = 0 from rfl, f0, ← htop, ← Int.mul_assoc]
      exact Int.mul_nonneg (hget _) (Int.pow_nonneg (by omega))
    · show 0 ≤ t * gh q w w
      rw [fw, ← hT0]
      have : t * ((w : Int) ^ q.length * T.getD 0 0) = (w : Int) ^ q.length * (t * T.getD 0 0) := by grind
      rw [this]
      exact Int.mul_nonneg (Int.pow_nonneg (by omega)) (hget _)
  · have hv1 : vs 0 T = 1 := by omega
    obtain ⟨A', B, hme, hA', hB, hBn⟩ := vs1_split ht (show vs t m = 1 by omega)
    obtain ⟨A, hA⟩ : ∃ A, A = Z ++ t :: A' := ⟨_, rfl⟩
    have hTs : T = A ++ B := by rw [hTe, hme, hA]; simp
    have hAt : t ∈ A := by rw [hA]; simp
    have hAs : ∀ x, x ∈ A → 0 ≤ t * x := fun x hx => by
      rw [hA] at hx
      rcases List.mem_append.1 hx with hx | hx
      · rw [hZ x hx]; simp
      · rcases List.mem_cons.1 hx with rfl | hx
        · omega
        · exact hA' x hx
    have hAl : 0 < A.length := List.length_pos_iff.2 fun e => by rw [e] at hAt; simp at hAt
    have a1 : ∀ x, x ∈ A.map (fun x => t * x) → 0 ≤ x := fun x hx => by
      obtain ⟨y, hy, rfl⟩ := List.mem_map.1 hx
      exact hAs y hy
    have a2 : ∃ x, x ∈ A.map (fun x => t * x) ∧ x ≠ 0 := ⟨t * t, List.mem_map.2 ⟨t, hAt, rfl⟩, by omega⟩
    have b1 : ∀ x, x ∈ B.map (fun x => -t * x) → 0 ≤ x := fun x hx => by
      obtain ⟨y, hy, rfl⟩ := List.mem_map.1 hx
      have := hB y hy
      rw [Int.neg_mul]; omega
    have b2 : ∃ x, x ∈ B.map (fun x => -t * x) ∧ x ≠ 0 := by
      obtain ⟨y, hy, h0⟩ := hBn
      exact ⟨-t * y, List.mem_map.2 ⟨y, hy, rfl⟩, Int.mul_ne_zero (by omega) h0⟩
    have hsp : ∀ u v : Int, -t * gh T u v = v ^ A.length * gh (B.map fun x => -t * x) u v - u ^ B.length * gh (A.map fun x => t * x) u v := fun u v => by
      rw [hTs, gh_app, gh_smul, gh_smul]; grind
    have lA : (A.map fun x => t * x).length = A.length := List.length_map _
    have lB : (B.map fun x => -t * x).length = B.length := List.length_map _
    generalize A.map (fun x => t * x) = A1 at *
    generalize B.map (fun x => -t * x) = B1 at *
    have ht' : -t ≠ 0 := by omega
    refine ⟨gC 1 A1 + gC 1 B1 + 3, fun w hw => ?_⟩
    have hw0 : 0 < (w : Int) := by omega
    have hrel : ∀ i : Nat, 0 < i → (0 < -t * gh q w (i : Nat) ↔ 0 < -t * gh T i (w - i)) ∧ (-t * gh q w (i : Nat) < 0 ↔ -t * gh T i (w - i) < 0) := fun i h1 => by
      have hi : 0 < (i : Int) := by omega
      have e := turn_grid (w := w) hT hi
      refine pos_pos (α := (i : Int) ^ T.length * i) (β := w * (i : Int) ^ q.length) (Int.mul_pos (Int.pow_pos hi) hi) (Int.mul_pos hw0 (Int.pow_pos hi)) ?_
      have : (i : Int) ^ T.length * i * (-t * gh q w i) = -t * ((i : Int) ^ T.length * i * gh q w i) := by grind
      rw [this, e]; grind
    rw [hcell, ← ncf_smul ht', ncf_one (by omega) ?_ ?_ ?_ ?_ ?_, hv1]
    · simp only [fw]
      have : -t * ((w : Int) ^ q.length * pev q 1) = 0 ↔ pev q 1 = 0 := by
        rw [Int.mul_eq_zero, Int.mul_eq_zero]
        constructor
        · rintro (h | h | h)
          · exact absurd h ht'
          · exact absurd h (Int.pow_ne_zero (by omega))
          · exact h
        · exact fun h => .inr (.inr h)
      simp only [this]
    · show 0 ≤ -t * gh q w ((0 : Nat) : Int)
      rw [show ((0 : Nat) : Int) = 0 from rfl, f0, ← htop, ← Int.mul_assoc]
      refine Int.mul_nonneg ?_ (Int.pow_nonneg (by omega))
      have hn : A.length ≤ q.length - 1 := by
        refine Nat.not_lt.1 fun hlt => ?_
        obtain ⟨y, hy, h0⟩ := hBn
        obtain ⟨j, hj, rfl⟩ := List.mem_iff_getElem.1 hy
        have := hbey (A.length + j) (by omega)
        rw [hTs, List.getD_eq_getElem?_getD, List.getElem?_append_right (by omega), Nat.add_sub_cancel_left, List.getElem?_eq_getElem hj] at this
        exact h0 this
      rw [hTs, List.getD_eq_getElem?_getD, List.getElem?_append_right hn]
      by_cases hj : q.length - 1 - A.length < B.length
      · rw [List.getElem?_eq_getElem hj]
        have := hB _ (List.getElem_mem hj)
        show 0 ≤ -t * B[q.length - 1 - A.length]
        rw [Int.neg_mul]; omega
      · rw [List.getElem?_eq_none (by omega)]; simp
    · refine ((hrel 1 (by omega)).1).2 ?_
      rw [hsp]
      have hy : 1 ≤ (w : Int) - ((1 : Nat) : Int) := by omega
      have g1 := gh_high hy a1
      have g2 := gh_pos (w := 1) (by decide) (show 0 < (w : Int) - ((1 : Nat) : Int) by omega) b1 b2
      have hS : (gC 1 A1 : Int) < (w : Int) - ((1 : Nat) : Int) := by omega
      rw [show ((1 : Nat) : Int) = 1 from rfl] at *
      generalize (w : Int) - 1 = y at *
      rw [lA] at g1
      rw [Int.one_pow, Int.one_mul]
      have hp : 0 < y ^ A.length := Int.pow_pos (by omega)
      generalize y ^ A.length = Y at *
      generalize gh A1 1 y = a at *
      generalize gh B1 1 y = b at *
      have k1 : Y * 1 ≤ Y * b := Int.mul_le_mul_of_nonneg_left (by omega) (by omega)
      have k2 : (gC 1 A1 : Int) * Y < y * Y := Int.mul_lt_mul_of_pos_right hS hp
      have k3 : a < Y := by
        refine Int.not_le.1 fun z => ?_
        have : y * Y ≤ y * a := Int.mul_le_mul_of_nonneg_left z (by omega)
        omega
      omega
    · refine ((hrel (w - 1) (by omega)).2).2 ?_
      rw [hsp]
      have e1 : (w : Int) - ((w - 1 : Nat) : Int) = 1 := by omega
      have hu : 1 ≤ ((w - 1 : Nat) : Int) := by omega
      have hS : (gC 1 B1 : Int) < ((w - 1 : Nat) : Int) := by omega
      have g1 := gh_low hu a1 a2
      have g2 := gh_le (M := 1) (w := w - 1) (u := 1) (by show 1 ≤ _; omega) B1
      have g3 := gh_nn (w := ((w - 1 : Nat) : Int)) (u := 1) (by omega) (by decide) b1
      rw [e1, Int.one_pow, Int.one_mul]
      have g4 : gh B1 ((w - 1 : Nat) : Int) 1 ≤ (gC 1 B1 : Int) * ((w - 1 : Nat) : Int) ^ B.length := by
        rw [← lB]
        have : ((gh B1 ((w - 1 : Nat) : Int) 1).natAbs : Int) ≤ ((gC 1 B1 * (w - 1) ^ B1.length : Nat) : Int) := Int.ofNat_le.2 g2
        rw [Int.natCast_mul, Int.natCast_pow] at this
        omega
      generalize ((w - 1 : Nat) : Int) = u at *
      have hp : 0 < u ^ B.length := Int.pow_pos (by omega)
      generalize u ^ B.length = U at *
      generalize gh A1 u 1 = a at *
      generalize gh B1 u 1 = b at *
      have k1 : U * u ≤ U * a := Int.mul_le_mul_of_nonneg_left g1 (by omega)
      have k2 : U * (gC 1 B1 : Int) < U * u := Int.mul_lt_mul_of_pos_left hS hp
      have k3 : (gC 1 B1 : Int) * U = U * gC 1 B1 := Int.mul_comm _ _
      omega
    · show -t * gh q w w ≤ 0
      rw [fw, ← hT0]
      have h1 : 0 ≤ t * T.getD 0 0 := by
        have : T.getD 0 0 = A.getD 0 0 := by rw [hTs, List.getD_eq_getElem?_getD, List.getElem?_append_left hAl, List.getD_eq_getElem?_getD]
        rw [this, List.getD_eq_getElem?_getD, List.getElem?_eq_getElem hAl]
        exact hAs _ (List.getElem_mem _)
      have : -t * ((w : Int) ^ q.length * T.getD 0 0) = -((w : Int) ^ q.length * (t * T.getD 0 0)) := by grind
      rw [this]
      have := Int.mul_nonneg (show 0 ≤ (w : Int) ^ q.length from Int.pow_nonneg (by omega)) h1
      omega
    · intro i h1 h2 h3
      have e1 := (hrel i h1).1
      refine ((hrel (i + 1) (by omega)).2).2 ?_
      have h4 : -t * gh T i (w - i) ≤ 0 := Int.not_lt.1 fun z => by have := e1.2 z; omega
      rw [hsp] at h4 ⊢
      have hu : 0 < (i : Int) := by omega
      have hu' : (i : Int) < ((i + 1 : Nat) : Int) := by omega
      have hv' : 0 < (w : Int) - ((i + 1 : Nat) : Int) := by omega
      have hvv : (w : Int) - ((i + 1 : Nat) : Int) < (w : Int) - (i : Int) := by omega
      have d1 := (gh_dec hu hu' hv' hvv a1).2 a2
      have d2 := gh_inc hu hu' hv' hvv b1
      rw [lA] at d1
      rw [lB] at d2
      generalize (w : Int) - ((i + 1 : Nat) : Int) = v' at *
      generalize (w : Int) - (i : Int) = v at *
      generalize ((i + 1 : Nat) : Int) = u' at *
      generalize (i : Int) = u at *
      have pu : 0 < u ^ B.length := Int.pow_pos hu
      have pu' : 0 < u' ^ B.length := Int.pow_pos (by omega)
      have pv : 0 < v ^ A.length := Int.pow_pos (by omega)
      have pv' : 0 < v' ^ A.length := Int.pow_pos hv'
      generalize u ^ B.length = Um at *
      generalize u' ^ B.length = Um' at *
      generalize v ^ A.length = Vk at *
      generalize v' ^ A.length = Vk' at *
      generalize gh A1 u v = a at *
      generalize gh A1 u' v' = a' at *
      generalize gh B1 u v = b at *
      generalize gh B1 u' v' = b' at *
      have k1 : (Vk' * Vk) * (b' * Um) ≤ (Vk' * Vk) * (b * Um') := Int.mul_le_mul_of_nonneg_left d2 (Int.le_of_lt (Int.mul_pos pv' pv))
      have k2 : (Vk' * Um') * (Vk * b) ≤ (Vk' * Um') * (Um * a) := Int.mul_le_mul_of_nonneg_left (by omega) (Int.le_of_lt (Int.mul_pos pv' pu'))
      have k3 : (Um' * Um) * (a * Vk') < (Um' * Um) * (a' * Vk) := Int.mul_lt_mul_of_pos_left d1 (Int.mul_pos pu' pu)
      have j1 : (Vk' * Vk) * (b' * Um) = (Um * Vk) * (Vk' * b') := by grind
      have j2 : (Vk' * Vk) * (b * Um') = (Vk' * Um') * (Vk * b) := by grind
      have j3 : (Vk' * Um') * (Um * a) = (Um' * Um) * (a * Vk') := by grind
      have j4 : (Um' * Um) * (a' * Vk) = (Um * Vk) * (Um' * a') := by grind
      have k4 : (Um * Vk) * (Vk' * b') < (Um * Vk) * (Um' * a') := by omega
      have k5 : Vk' * b' < Um' * a' := by
        refine Int.not_le.1 fun z => ?_
        have := Int.mul_le_mul_of_nonneg_left z (Int.le_of_lt (Int.mul_pos pu pv))
        omega
      omega
end Go.Proofs.YtgpcepcbdpigfaaGreat
namespace Go.Proofs.YtgpcepcbdpigfaaGreat
theorem gC_radd (M : Nat) : ∀ l m : List Int, gC M (radd l m) ≤ gC M l + gC M m
  | [], m => by simp [radd, gC]
  | a :: l, [] => by simp [radd, gC]
  | a :: l, b :: m => by
    have ih := gC_radd M l m
    have h := Int.natAbs_add_le a b
    have h2 : M * gC M (radd l m) ≤ M * (gC M l + gC M m) := Nat.mul_le_mul_left _ ih
    rw [Nat.mul_add] at h2
    simp only [radd, gC]; omega
def tay (w i : Int) : List Int → List Int
  | [] => []
  | c :: l => radd (radd [c * w ^ l.length] ((tay w i l).map fun y => i * y)) (0 :: tay w i l)
theorem ev_smul (k x : Int) : ∀ l : List Int, pev (l.map fun y => k * y) x = k * pev l x
  | [] => by simp [pev]
  | c :: l => by simp only [List.map_cons, pev, ev_smul k x l]; grind
theorem tay_ev (w i x : Int) : ∀ l : List Int, w * pev (tay w i l) x = gh l w (i + x)
  | [] => by simp [tay, pev, gh]
  | c :: l => by
    have ih := tay_ev w i x l
    simp only [tay, radd_ev, ev_smul, pev, gh, Int.pow_succ]
    rw [← ih]; grind
theorem tay_len (w i : Int) : ∀ l : List Int, (tay w i l).length = l.length
  | [] => rfl
  | c :: l => by simp only [tay, radd_len, List.length_map, List.length_cons, List.length_nil, tay_len w i l]; omega
theorem tay_top (w i : Int) : ∀ l : List Int, (tay w i l).getD (l.length - 1) 0 = l.getD (l.length - 1) 0
  | [] => rfl
  | [c] => by simp [tay, radd]
  | c :: d :: l => by
    have ih := tay_top w i (d :: l)
    have h1 := tay_len w i (d :: l)
    rw [tay, radd_get, radd_get]
    simp only [List.length_cons, Nat.add_sub_cancel] at ih h1 ⊢
    have e2 : (0 :: tay w i (d :: l)).getD (l.length + 1) 0 = (d :: l).getD l.length 0 := by rw [List.getD_cons_succ, ih]
    have e3 : ∀ z : Int, [z].getD (l.length + 1) 0 = 0 := fun z => by simp
    have e1 : ((tay w i (d :: l)).map fun y => i * y).getD (l.length + 1) 0 = 0 := by
      rw [List.getD_eq_getElem?_getD, List.getElem?_eq_none (by rw [List.length_map]; omega)]; rfl
    rw [e1, e2, e3, List.getD_cons_succ]; omega
theorem tay_nm {l : List Int} (w i : Int) (h : Nm l) : Nm (tay w i l) := by
  rw [nm_last] at h ⊢
  intro h0
  rw [tay_len, tay_top]
  exact h fun e => h0 (by rw [e]; rfl)
theorem tay_gC {w : Nat} {i : Int} (hi : i.natAbs ≤ w) : ∀ l : List Int, w * gC w (tay w i l) ≤ w ^ l.length * gC 2 l ∧ gC w (tay w i l) ≤ w ^ (l.length - 1) * gC 2 l
  | [] => by simp [tay, gC]
  | c :: l => by
    obtain ⟨ih, _⟩ := tay_gC hi l
    have key : gC w (tay w i (c :: l)) ≤ w ^ l.length * gC 2 (c :: l) := by
      have h1 := gC_radd w (radd [c * (w : Int) ^ l.length] ((tay w i l).map fun y => i * y)) (0 :: tay w i l)
      have h2 := gC_radd w [c * (w : Int) ^ l.length] ((tay w i l).map fun y => i * y)
      rw [gC_smul] at h2
      have h3 : gC w [c * (w : Int) ^ l.length] = c.natAbs * w ^ l.length := by
        simp only [gC, Int.natAbs_mul, Int.natAbs_pow, Int.natAbs_natCast]; omega
      have h4 : gC w (0 :: tay w i l) = w * gC w (tay w i l) := by simp [gC]
      have h5 : i.natAbs * gC w (tay w i l) ≤ w * gC w (tay w i l) := Nat.mul_le_mul_right _ hi
      have h6 : w ^ l.length * gC 2 (c :: l) = c.natAbs * w ^ l.length + 2 * (w ^ l.length * gC 2 l) := by simp only [gC]; grind
      show gC w (radd (radd [c * (w : Int) ^ l.length] ((tay w i l).map fun y => i * y)) (0 :: tay w i l)) ≤ _
      omega
    refine ⟨?_, key⟩
    rw [List.length_cons, Nat.pow_succ]
    have := Nat.mul_le_mul_left w key
    have e : w ^ l.length * w * gC 2 (c :: l) = w * (w ^ l.length * gC 2 (c :: l)) := by grind
    omega
theorem ev_at0 (l : List Int) : pev l 0 = l.getD 0 0 := by cases l <;> simp [pev]
theorem tay0 (w i : Int) (l : List Int) : w * (tay w i l).getD 0 0 = gh l w i := by
  have := tay_ev w i 0 l
  rwa [ev_at0, Int.add_zero] at this
theorem tay1 (w i : Int) : ∀ l : List Int, w * (tay w i l).getD 1 0 = g1 l w i
  | [] => by simp [tay, g1]
  | c :: l => by
    have ih := tay1 w i l
    have h0 := tay0 w i l
    rw [tay, radd_get, radd_get]
    have e1 : ((tay w i l).map fun y => i * y).getD 1 0 = i * (tay w i l).getD 1 0 := by
      have := co_map i (tay w i l) 1
      exact this
    rw [e1]
    simp only [List.getD_cons_succ, List.getD_nil, Int.zero_add, g1]
    rw [← h0, ← ih]; grind
theorem tay_grid {w i w' : Int} (hw : w' ≠ 0) (l : List Int) (v : Int) : w * gh (tay w i l) w' v = gh l (w * w') (i * w' + v) := by
  have := mult_ext hw (F := ptim w (ghl w' (tay w i l))) (G := pshi (i * w') (ghl (w * w') l)) (fun x => by
    rw [ev_ptim, ev_pshi]
    simp only [ghl_ev]
    rw [gh_at, tay_len, show w' * x + i * w' = w' * (i + x) by grind, show w * w' = w' * w by grind, gh_hom, ← tay_ev]; grind) v
  rw [ev_ptim, ev_pshi] at this
  simp only [ghl_ev] at this
  rw [this, Int.add_comm]
theorem tay_nc {w w' : Nat} {i : Int} (hw : 1 ≤ w) (hw' : 1 ≤ w') (l : List Int) (e : Nat) : nc (tay w i l) w' 0 e = nc l (w * w') (i * (w' : Nat)) e := by
  rw [nc_ncf, nc_ncf]
  refine ncf_cong (α := (w : Int)) (β := 1) (by omega) (by decide) fun k _ => ?_
  have := tay_grid (w := w) (i := i) (w' := w') (by omega) l (k : Nat)
  rw [Int.zero_add, this, Int.one_mul, Int.natCast_mul]
def halv (q : List Int) : List Int := lst q.length fun i => q.getD i 0 * 2 ^ (q.length - 1 - i)
theorem halv_ev (q : List Int) (x : Int) : 2 * pev (halv q) x = gh q 2 x := by
  have key : ∀ l : List Int, 2 * isum (fun i => l.getD i 0 * 2 ^ (l.length - 1 - i) * x ^ i) l.length = gh l 2 x := fun l => by
    induction l with
    | nil => rfl
    | cons c l ih =>
      rw [List.length_cons, isum_front, gh]
      have e1 : isum (fun i => (c :: l).getD (i + 1) 0 * 2 ^ (l.length + 1 - 1 - (i + 1)) * x ^ (i + 1)) l.length = x * isum (fun i => l.getD i 0 * 2 ^ (l.length - 1 - i) * x ^ i) l.length := by
        rw [← isum_mul]
        refine isum_congr fun i hi => ?_
        rw [List.getD_cons_succ, show l.length + 1 - 1 - (i + 1) = l.length - 1 - i by omega, Int.pow_succ]; grind
      rw [e1, ← ih]
      simp only [List.getD_cons_zero, Nat.add_sub_cancel, Nat.sub_zero, Int.pow_zero, Int.mul_one, Int.pow_succ]
      grind
  rw [← key, ev_isum]
  unfold halv
  rw [lst_len]
  congr 1
  exact isum_congr fun i hi => by rw [lst_get hi]
theorem halv_len (q : List Int) : (halv q).length = q.length := lst_len _ _
theorem halv_tay {w i : Int} (hw : w ≠ 0) {l : List Int} (hl : Nm l) : halv (tay w i l) = tay (2 * w) (2 * i) l := by
  have hev : ∀ x, pev (halv (tay w i l)) x = pev (tay (2 * w) (2 * i) l) x := fun x => by
    have h1 := halv_ev (tay w i l) x
    have h2 := tay_grid (w := w) (i := i) (w' := 2) (by decide) l x
    have h3 := tay_ev (2 * w) (2 * i) x l
    rw [show w * 2 = 2 * w by grind, show i * 2 = 2 * i by grind, ← h1, ← h3] at h2
    have h4 : (2 * w) * pev (halv (tay w i l)) x = (2 * w) * pev (tay (2 * w) (2 * i) l) x := by rw [← h2]; grind
    exact Int.eq_of_mul_eq_mul_left (by omega) h4
  refine Nm.ext ?_ (tay_nm _ _ hl) hev
  rw [nm_last]
  intro h0
  have hq : (tay w i l).length ≠ 0 := fun e => h0 (List.eq_nil_of_length_eq_zero (by rw [halv_len, e]))
  rw [halv_len]
  unfold halv
  rw [lst_get (by omega), show (tay w i l).length - 1 - ((tay w i l).length - 1) = 0 by omega, Int.pow_zero, Int.mul_one]
  exact (nm_last.1 (tay_nm w i hl)) fun e => hq (by rw [e]; rfl)
theorem shift_tay {w i : Int} (hw : w ≠ 0) {l : List Int} (hl : Nm l) : pshi 1 (tay w i l) = tay w (i + 1) l := by
  refine Nm.ext (pshi_nm _ _) (tay_nm _ _ hl) fun x => ?_
  have h1 := tay_ev w i (x + 1) l
  have h2 := tay_ev w (i + 1) x l
  rw [show i + (x + 1) = i + 1 + x by omega, ← h2] at h1
  rw [ev_pshi]
  exact Int.eq_of_mul_eq_mul_left hw h1
theorem nc_add (s : List Int) (w : Nat) (u : Int) (a : Nat) : ∀ b, nc s w u (a + b) = nc s w u a + nc s w (u + a) b
  | 0 => rfl
  | b + 1 => by
    rw [← Nat.add_assoc, nc, nc, nc_add s w u a b]
    simp only [show u + ((a + b : Nat) : Int) = u + a + b by omega]
    omega
def CC (l : List Int) (m j : Nat) (i : Int) (c : Nat) : Prop := ∃ K, ∀ k, K ≤ k → nc l (2 ^ j * (m * 2 ^ k)) (i * ((m * 2 ^ k : Nat) : Int)) (m * 2 ^ k) = c
theorem CC.unique {l : List Int} {m j : Nat} {i : Int} {c c' : Nat} (h : CC l m j i c) (h' : CC l m j i c') : c = c' := by
  obtain ⟨K, hK⟩ := h
  obtain ⟨K', hK'⟩ := h'
  rw [← hK (max K K') (by omega), ← hK' (max K K') (by omega)]
theorem CC.join {l : List Int} {m j : Nat} {i : Int} {c c' : Nat} (h : CC l m (j + 1) (2 * i) c) (h' : CC l m (j + 1) (2 * i + 1) c') : CC l m j i (c + c') := by
  obtain ⟨K, hK⟩ := h
  obtain ⟨K', hK'⟩ := h'
  refine ⟨max K K' + 1, fun k hk => ?_⟩
  obtain ⟨e, rfl⟩ : ∃ e, k = e + 1 := ⟨k - 1, by omega⟩
  have h1 := hK e (by omega)
  have h2 := hK' e (by omega)
  have e1 : m * 2 ^ (e + 1) = m * 2 ^ e + m * 2 ^ e := by rw [Nat.pow_succ]; grind
  have e2 : 2 ^ j * (m * 2 ^ (e + 1)) = 2 ^ (j + 1) * (m * 2 ^ e) := by rw [Nat.pow_succ, Nat.pow_succ]; grind
  rw [e2]
  have e3 : i * ((m * 2 ^ (e + 1) : Nat) : Int) = 2 * i * ((m * 2 ^ e : Nat) : Int) := by rw [e1, Int.natCast_add]; grind
  rw [e3, e1, nc_add, h1]
  have e4 : 2 * i * ((m * 2 ^ e : Nat) : Int) + ((m * 2 ^ e : Nat) : Int) = (2 * i + 1) * ((m * 2 ^ e : Nat) : Int) := by grind
  rw [e4, h2]
theorem CC.desc {l T : List Int} {m j : Nat} {i : Int} (hm : 1 ≤ m) (hl : Nm l) (h0 : l ≠ []) (hT : ∀ x, pev T x = pev (tay (2 ^ j : Nat) i l).reverse (x + 1)) (hv : vs 0 T ≤ 1) : CC l m j i (vs 0 T + if pev (tay (2 ^ j : Nat) i l) 1 = 0 then 1 else 0) := by
  have hn := tay_nm (2 ^ j : Nat) i hl
  have hlen := tay_len (2 ^ j : Nat) i l
  have h1 : tay (2 ^ j : Nat) i l ≠ [] := fun e => h0 (List.eq_nil_of_length_eq_zero (by rw [← hlen, e]; rfl))
  have h2 := nm_last.1 hn h1
  have h3 : (tay (2 ^ j : Nat) i l).length - 1 < (tay (2 ^ j : Nat) i l).length := by have := List.length_pos_iff.2 h1; omega
  rw [List.getD_eq_getElem?_getD, List.getElem?_eq_getElem h3] at h2
  obtain ⟨W, hW⟩ := Go.Proofs.YtgpcepcbdpigfaaGreat.desc ⟨_, List.getElem_mem h3, h2⟩ hT hv
  refine ⟨W, fun k hk => ?_⟩
  have hk2 : k < 2 ^ k := Nat.lt_two_pow_self
  have hmk : 2 ^ k ≤ m * 2 ^ k := Nat.le_mul_of_pos_left _ (by omega)
  rw [← tay_nc (Nat.pow_pos (by decide)) (by omega)]
  exact hW _ (by omega)
theorem CC.top {s u : List Int} {L : Nat → List Int} {r : Nat} (hc : Chain L r) (he : L 0 = s) {a : Int} {m : Nat} (hm : 1 ≤ m) (hu : ∀ x, pev u x = pev s (a + m * x)) : ∃ c : Nat, CC u m 0 0 c ∧ rc s a (a + m) = c := by
  obtain ⟨W, hW⟩ := rc_nc hc he a m
  have key : ∀ w : Nat, 1 ≤ w → nc u (m * w) 0 (m * w) = nc s w ((w : Int) * a) (w * m) := fun w hw => by
    rw [nc_ncf, nc_ncf, Nat.mul_comm w m]
    refine ncf_cong (α := (w : Int) ^ s.length) (β := ((m * w : Nat) : Int) ^ u.length) (Int.pow_pos (by omega)) (Int.pow_pos (by have := Nat.mul_pos hm hw; omega)) fun k _ => ?_
    have hmw : ((m * w : Nat) : Int) ≠ 0 := by have := Nat.mul_pos hm hw; omega
    have := mult_ext hmw (F := ptim ((w : Int) ^ s.length) (ghl (m * w : Nat) u)) (G := ptim (((m * w : Nat) : Int) ^ u.length) (pshi ((w : Int) * a) (ghl w s))) (fun x => by
      rw [ev_ptim, ev_ptim, ev_pshi]
      simp only [ghl_ev]
      rw [gh_at, show ((m * w : Nat) : Int) * x + w * a = w * (a + m * x) by rw [Int.natCast_mul]; grind, gh_at, hu]; grind) (k : Nat)
    rw [ev_ptim, ev_ptim, ev_pshi] at this
    simp only [ghl_ev] at this
    rw [Int.zero_add, this, Int.add_comm ((w : Int) * a)]
  have hr := hW (W + 1) (by omega)
  refine ⟨(rc s a (a + m)).toNat, ⟨W + 1, fun k hk => ?_⟩, by rw [hr]; omega⟩
  have hk2 : k < 2 ^ k := Nat.lt_two_pow_self
  have h1 := hW (2 ^ k) (by omega)
  have h2 := key (2 ^ k) (by omega)
  rw [Nat.pow_zero, Nat.one_mul, Int.zero_mul, h2, h1]
  omega
end Go.Proofs.YtgpcepcbdpigfaaGreat
namespace Go.Proofs.YtgpcepcbdpigfaaGreat
def Dec (σ : Int) : List Int → Prop
  | [] => True
  | [_] => True
  | a :: b :: l => (0 ≤ σ * b → 0 < σ * a) ∧ Dec σ (b :: l)
theorem dec_tail {σ a : Int} {l : List Int} (h : Dec σ (a :: l)) : Dec σ l := by
  cases l with
  | nil => trivial
  | cons b l => exact h.2
theorem dec_neg {σ : Int} : ∀ {l : List Int} {a : Int}, Dec σ (a :: l) → σ * a ≤ 0 → ∀ x, x ∈ l → σ * x < 0
  | b :: l, a, h, ha, x, hx => by
    have hb : σ * b < 0 := Int.not_le.1 fun z => by have := h.1 z; omega
    rcases List.mem_cons.1 hx with rfl | hx
    · exact hb
    · exact dec_neg h.2 (by omega) x hx
theorem sgn_two {σ x t : Int} (hx : σ * x < 0) (ht : 0 < σ * t) : x * t < 0 := by
  refine Int.not_le.1 fun z => ?_
  have e : (σ * x) * (σ * t) = (σ * σ) * (x * t) := by grind
  have h1 := Int.mul_neg_of_neg_of_pos hx ht
  have h2 : 0 ≤ σ * σ := by
    rcases Int.le_total 0 σ with h | h
    · exact Int.mul_nonneg h h
    · exact Int.mul_nonneg_of_nonpos_of_nonpos h h
  have := Int.mul_nonneg h2 z
  omega
theorem vs_neg {σ : Int} : ∀ {l : List Int} {t : Int}, σ * t < 0 → (∀ x, x ∈ l → σ * x < 0) → vs t l = 0
  | [], _, _, _ => rfl
  | x :: l, t, ht, h => by
    have hx := h x (List.mem_cons_self ..)
    have h0 : x ≠ 0 := fun z => by rw [z] at hx; simp at hx
    have hn : ¬ x * t < 0 := fun z => by
      have := sgn_two (σ := -σ) (x := x) (t := t)
      have e : (σ * x) * (σ * t) = (σ * σ) * (x * t) := by grind
      have h1 := Int.mul_pos_of_neg_of_neg hx ht
      have h2 : 0 ≤ σ * σ := by
        rcases Int.le_total 0 σ with h | h
        · exact Int.mul_nonneg h h
        · exact Int.mul_nonneg_of_nonpos_of_nonpos h h
      have := Int.mul_nonpos_of_nonneg_of_nonpos h2 (Int.le_of_lt z)
      omega
    rw [vs, if_neg h0, if_neg hn, vs_neg hx fun y hy => h y (List.mem_cons_of_mem _ hy)]
theorem dec_vs1 {σ : Int} : ∀ {l : List Int} {t : Int}, Dec σ l → 0 < σ * t → vs t l ≤ 1
  | [], _, _, _ => by simp [vs]
  | a :: l, t, h, ht => by
    rw [vs]
    by_cases ha : a = 0
    · rw [if_pos ha]
      have hn := dec_neg h (by rw [ha]; simp)
      cases l with
      | nil => simp [vs]
      | cons x l =>
        have hx := hn x (List.mem_cons_self ..)
        have hx0 : x ≠ 0 := fun z => by rw [z] at hx; simp at hx
        rw [vs, if_neg hx0, vs_neg hx fun y hy => hn y (List.mem_cons_of_mem _ hy)]
        split <;> omega
    · rw [if_neg ha]
      by_cases g : 0 < σ * a
      · have := dec_vs1 (dec_tail h) g
        have hn : ¬ a * t < 0 := fun z => by
          have e : (σ * a) * (σ * t) = (σ * σ) * (a * t) := by grind
          have h1 := Int.mul_pos g ht
          have h2 : 0 ≤ σ * σ := by
            rcases Int.le_total 0 σ with h | h
            · exact Int.mul_nonneg h h
            · exact Int.mul_nonneg_of_nonpos_of_nonpos h h
          have := Int.mul_nonpos_of_nonneg_of_nonpos h2 (Int.le_of_lt z)
          omega
        rw [if_neg hn]; omega
      · by_cases g2 : σ * a < 0
        · have hn := dec_neg h (by omega)
          rw [vs_neg g2 hn]
          split <;> omega
        · have hz : σ * a = 0 := by omega
          have hs : σ ≠ 0 := fun z => by rw [z] at ht; simp at ht
          exact absurd ((Int.mul_eq_zero.1 hz).resolve_left hs) ha
theorem dec_vs {σ : Int} (hs : σ ≠ 0) : ∀ {l : List Int}, Dec σ l → vs 0 l ≤ 1
  | [], _ => by simp [vs]
  | a :: l, h => by
    rw [vs]
    by_cases ha : a = 0
    · rw [if_pos ha]
      have hn := dec_neg h (by rw [ha]; simp)
      cases l with
      | nil => simp [vs]
      | cons x l =>
        have hx := hn x (List.mem_cons_self ..)
        have hx0 : x ≠ 0 := fun z => by rw [z] at hx; simp at hx
        rw [vs, if_neg hx0, vs_neg hx fun y hy => hn y (List.mem_cons_of_mem _ hy)]
        split <;> omega
    · rw [if_neg ha, Int.mul_zero, if_neg (by omega)]
      by_cases g : 0 < σ * a
      · have := dec_vs1 (dec_tail h) g
        omega
      · by_cases g2 : σ * a < 0
        · rw [vs_neg g2 (dec_neg h (by omega))]; omega
        · have hz : σ * a = 0 := by omega
          exact absurd ((Int.mul_eq_zero.1 hz).resolve_left hs) ha
theorem vs_zeros {t : Int} : ∀ {m : List Int}, (∀ i, m.getD i 0 = 0) → vs t m = 0
  | [], _ => rfl
  | b :: m, h => by
    have h0 : b = 0 := h 0
    rw [vs, if_pos h0]
    exact vs_zeros fun i => h (i + 1)
theorem vs_ext : ∀ {l m : List Int} {t : Int}, (∀ i, l.getD i 0 = m.getD i 0) → vs t l = vs t m
  | [], m, t, h => by rw [vs_zeros fun i => (h i).symm]; rfl
  | a :: l, [], t, h => by rw [vs_zeros h]; rfl
  | a :: l, b :: m, t, h => by
    have h0 : a = b := h 0
    have h1 : ∀ i, l.getD i 0 = m.getD i 0 := fun i => h (i + 1)
    rw [vs, vs, h0, vs_ext h1, vs_ext (t := b) h1]
set_option maxHeartbeats 8000000 in
theorem few_turns {q T : List Int} (hl : q.length ≤ 6) (hT : ∀ x, pev T x = pev q.reverse (x + 1))
    (h : 1000 * gC 1 (q.drop 1) < (q.getD 0 0).natAbs ∨ 1000 * gC 1 (q.drop 2) < (q.getD 1 0).natAbs) : vs 0 T ≤ 1 := by
  have key : ∀ (E : List Int), (∀ x, pev E x = pev q.reverse (x + 1)) → ((∃ σ : Int, (σ = 1 ∨ σ = -1) ∧ Dec σ E) → vs 0 T ≤ 1) := fun E hE ⟨σ, hσ, hd⟩ => by
    rw [vs_ext (m := E) (co_ext fun x => by rw [hT, hE])]
    exact dec_vs (by omega) hd
  match q, hl with
  | [], _ => exact key [] (fun x => rfl) ⟨1, .inl rfl, trivial⟩
  | [a], _ => exact key [a] (fun x => by simp [pev]) ⟨1, .inl rfl, trivial⟩
  | [a, b], _ =>
    refine key [a + b, a] (fun x => by simp [pev]; grind) ?_
    simp only [gC, List.drop_succ_cons, List.drop_zero, List.drop_nil, List.getD_cons_zero, List.getD_cons_succ, List.getD_nil, Nat.one_mul, Nat.add_zero, Nat.mul_zero] at h
    rcases h with h | h
    · rcases Int.le_total 0 a with g | g
      · exact ⟨1, .inl rfl, by simp only [Dec, and_true]; (try refine ⟨?_, ?_⟩) <;> (try refine ⟨?_, ?_⟩) <;> (try refine ⟨?_, ?_⟩) <;> (try refine ⟨?_, ?_⟩) <;> omega⟩
      · exact ⟨-1, .inr rfl, by simp only [Dec, and_true]; (try refine ⟨?_, ?_⟩) <;> (try refine ⟨?_, ?_⟩) <;> (try refine ⟨?_, ?_⟩) <;> (try refine ⟨?_, ?_⟩) <;> omega⟩
    · rcases Int.le_total 0 b with g | g
      · exact ⟨1, .inl rfl, by simp only [Dec, and_true]; (try refine ⟨?_, ?_⟩) <;> (try refine ⟨?_, ?_⟩) <;> (try refine ⟨?_, ?_⟩) <;> (try refine ⟨?_, ?_⟩) <;> omega⟩
      · exact ⟨-1, .inr rfl, by simp only [Dec, and_true]; (try refine ⟨?_, ?_⟩) <;> (try refine ⟨?_, ?_⟩) <;> (try refine ⟨?_, ?_⟩) <;> (try refine ⟨?_, ?_⟩) <;> omega⟩
  | [a, b, c], _ =>
    refine key [a + b + c, 2 * a + b, a] (fun x => by simp [pev]; grind) ?_
    simp only [gC, List.drop_succ_cons, List.drop_zero, List.drop_nil, List.getD_cons_zero, List.getD_cons_succ, List.getD_nil, Nat.one_mul, Nat.add_zero, Nat.mul_zero] at h
    rcases h with h | h
    · rcases Int.le_total 0 a with g | g
      · exact ⟨1, .inl rfl, by simp only [Dec, and_true]; (try refine ⟨?_, ?_⟩) <;> (try refine ⟨?_, ?_⟩) <;> (try refine ⟨?_, ?_⟩) <;> (try refine ⟨?_, ?_⟩) <;> omega⟩
      · exact ⟨-1, .inr rfl, by simp only [Dec, and_true]; (try refine ⟨?_, ?_⟩) <;> (try refine ⟨?_, ?_⟩) <;> (try refine ⟨?_, ?_⟩) <;> (try refine ⟨?_, ?_⟩) <;> omega⟩
    · rcases Int.le_total 0 b with g | g
      · exact ⟨1, .inl rfl, by simp only [Dec, and_true]; (try refine ⟨?_, ?_⟩) <;> (try refine ⟨?_, ?_⟩) <;> (try refine ⟨?_, ?_⟩) <;> (try refine ⟨?_, ?_⟩) <;> omega⟩
      · exact ⟨-1, .inr rfl, by simp only [Dec, and_true]; (try refine ⟨?_, ?_⟩) <;> (try refine ⟨?_, ?_⟩) <;> (try refine ⟨?_, ?_⟩) <;> (try refine ⟨?_, ?_⟩) <;> omega⟩
  | [a, b, c, d], _ =>
    refine key [a + b + c + d, 3 * a + 2 * b + c, 3 * a + b, a] (fun x => by simp [pev]; grind) ?_
    simp only [gC, List.drop_succ_cons, List.drop_zero, List.drop_nil, List.getD_cons_zero, List.getD_cons_succ, List.getD_nil, Nat.one_mul, Nat.add_zero, Nat.mul_zero] at h
    rcases h with h | h
    · rcases Int.le_total 0 a with g | g
      · exact ⟨1, .inl rfl, by simp only [Dec, and_true]; (try refine ⟨?_, ?_⟩) <;> (try refine ⟨?_, ?_⟩) <;> (try refine ⟨?_, ?_⟩) <;> (try refine ⟨?_, ?_⟩) <;> omega⟩
      · exact ⟨-1, .inr rfl, by simp only [Dec, and_true]; (try refine ⟨?_, ?_⟩) <;> (try refine ⟨?_, ?_⟩) <;> (try refine ⟨?_, ?_⟩) <;> (try refine ⟨?_, ?_⟩) <;> omega⟩
    · rcases Int.le_total 0 b with g | g
      · exact ⟨1, .inl rfl, by simp only [Dec, and_true]; (try refine ⟨?_, ?_⟩) <;> (try refine ⟨?_, ?_⟩) <;> (try refine ⟨?_, ?_⟩) <;> (try refine ⟨?_, ?_⟩) <;> omega⟩
      · exact ⟨-1, .inr rfl, by simp only [Dec, and_true]; (try refine ⟨?_, ?_⟩) <;> (try refine ⟨?_, ?_⟩) <;> (try refine ⟨?_, ?_⟩) <;> (try refine ⟨?_, ?_⟩) <;> omega⟩
  | [a, b, c, d, e], _ =>
    refine key [a + b + c + d + e, 4 * a + 3 * b + 2 * c + d, 6 * a + 3 * b + c, 4 * a + b, a] (fun x => by simp [pev]; grind) ?_
    simp only [gC, List.drop_succ_cons, List.drop_zero, List.drop_nil, List.getD_cons_zero, List.getD_cons_succ, List.getD_nil, Nat.one_mul, Nat.add_zero, Nat.mul_zero] at h
    rcases h with h | h
    · rcases Int.le_total 0 a with g | g
      · exact ⟨1, .inl rfl, by simp only [Dec, and_true]; (try refine ⟨?_, ?_⟩) <;> (try refine ⟨?_, ?_⟩) <;> (try refine ⟨?_, ?_⟩) <;> (try refine ⟨?_, ?_⟩) <;> omega⟩
      · exact ⟨-1, .inr rfl, by simp only [Dec, and_true]; (try refine ⟨?_, ?_⟩) <;> (try refine ⟨?_, ?_⟩) <;> (try refine ⟨?_, ?_⟩) <;> (try refine ⟨?_, ?_⟩) <;> omega⟩
    · rcases Int.le_total 0 b with g | g
      · exact ⟨1, .inl rfl, by simp only [Dec, and_true]; (try refine ⟨?_, ?_⟩) <;> (try refine ⟨?_, ?_⟩) <;> (try refine ⟨?_, ?_⟩) <;> (try refine ⟨?_, ?_⟩) <;> omega⟩
      · exact ⟨-1, .inr rfl, by simp only [Dec, and_true]; (try refine ⟨?_, ?_⟩) <;> (try refine ⟨?_, ?_⟩) <;> (try refine ⟨?_, ?_⟩) <;> (try refine ⟨?_, ?_⟩) <;> omega⟩
  | [a, b, c, d, e, f], _ =>
    refine key [a + b + c + d + e + f, 5 * a + 4 * b + 3 * c + 2 * d + e, 10 * a + 6 * b + 3 * c + d, 10 * a + 4 * b + c, 5 * a + b, a] (fun x => by simp [pev]; grind) ?_
    simp only [gC, List.drop_succ_cons, List.drop_zero, List.drop_nil, List.getD_cons_zero, List.getD_cons_succ, List.getD_nil, Nat.one_mul, Nat.add_zero, Nat.mul_zero] at h
    rcases h with h | h
    · rcases Int.le_total 0 a with g | g
      · exact ⟨1, .inl rfl, by simp only [Dec, and_true]; (try refine ⟨?_, ?_⟩) <;> (try refine ⟨?_, ?_⟩) <;> (try refine ⟨?_, ?_⟩) <;> (try refine ⟨?_, ?_⟩) <;> omega⟩
      · exact ⟨-1, .inr rfl, by simp only [Dec, and_true]; (try refine ⟨?_, ?_⟩) <;> (try refine ⟨?_, ?_⟩) <;> (try refine ⟨?_, ?_⟩) <;> (try refine ⟨?_, ?_⟩) <;> omega⟩
    · rcases Int.le_total 0 b with g | g
      · exact ⟨1, .inl rfl, by simp only [Dec, and_true]; (try refine ⟨?_, ?_⟩) <;> (try refine ⟨?_, ?_⟩) <;> (try refine ⟨?_, ?_⟩) <;> (try refine ⟨?_, ?_⟩) <;> omega⟩
      · exact ⟨-1, .inr rfl, by simp only [Dec, and_true]; (try refine ⟨?_, ?_⟩) <;> (try refine ⟨?_, ?_⟩) <;> (try refine ⟨?_, ?_⟩) <;> (try refine ⟨?_, ?_⟩) <;> omega⟩
  | _ :: _ :: _ :: _ :: _ :: _ :: _ :: _, hl => simp only [List.length_cons] at hl; omega
def GB : Nat → Nat → Nat
  | 0, _ => 1
  | m + 1, H => (1 + H) * GB m (2 * H * H)
theorem GB_pos : ∀ (m H : Nat), 1 ≤ GB m H
  | 0, _ => Nat.le_refl _
  | m + 1, H => Nat.le_trans (GB_pos m (2 * H * H)) (Nat.le_mul_of_pos_left _ (by omega))
theorem gC_get (l : List Int) (i : Nat) : (l.getD i 0).natAbs ≤ gC 1 l := by
  induction l generalizing i with
  | nil => simp
  | cons c l ih =>
    cases i with
    | zero => simp [gC]
    | succ i => have := ih i; simp only [List.getD_cons_succ, gC]; omega
theorem gC_repl (M : Nat) (d : Nat) (l : List Int) : gC 1 (List.replicate d 0 ++ l) = gC 1 l := by
  induction d with
  | zero => simp
  | succ d ih => rw [List.replicate_succ, List.cons_append]; simp only [gC, ih]; simp
theorem ev_repl (d : Nat) (l : List Int) (x : Int) : pev (List.replicate d 0 ++ l) x = x ^ d * pev l x := by
  induction d with
  | zero => simp
  | succ d ih => rw [List.replicate_succ, List.cons_append, pev, ih, Int.pow_succ]; grind
def Free (A B : List Int) : Prop := ∀ d, cont d = 1 → Dv d A → Dv d B → dg d ≤ 1
theorem free_end {A B : List Int} (hB : dg B = 0) (hA : 0 < dg A) (hf : Free A B) : ∃ R : Int, R ≠ 0 ∧ ∀ x, pev A x = R := by
  have h1 := hf (pprim A) (pprim_cont hA) ⟨[scont A], fun x => by rw [pprim_ev A x]; simp [pev]; grind⟩ (Dv.zero _ (dg_zero.1 hB))
  rw [pprim_dg] at h1
  refine ⟨A.getD 0 0, fun z => ?_, const_ev h1⟩
  have := (dg_zero (l := A)).2 fun x => by rw [const_ev h1, z]
  omega
def BezB (G : Nat) (A B : List Int) : Prop := ∃ U V, ∃ R : Int, R ≠ 0 ∧ (∀ x, pev U x * pev A x + pev V x * pev B x = R) ∧ gC 1 U ≤ G ∧ gC 1 V ≤ G
theorem BezB.swap {G : Nat} {A B : List Int} (h : BezB G A B) : BezB G B A := by
  obtain ⟨U, V, R, h1, h2, h3, h4⟩ := h
  exact ⟨V, U, R, h1, fun x => by rw [← h2 x]; omega, h4, h3⟩
theorem Free.swap {A B : List Int} (h : Free A B) : Free B A := fun d h1 h2 h3 => h d h1 h3 h2
theorem bez_bound : ∀ (m : Nat) {A B : List Int} {H : Nat}, dg A + dg B ≤ m → 0 < dg A + dg B → Free A B → gC 1 A ≤ H → gC 1 B ≤ H → 1 ≤ H → BezB (GB m H) A B
  | 0, A, B, H, h, h0, _, _, _, _ => by omega
  | m + 1, A, B, H, h, h0, hf, hA, hB, hH => by
    have hG := GB_pos (m + 1) H
    by_cases zB : dg B = 0
    · obtain ⟨R, hR, e⟩ := free_end zB (by omega) hf
      exact ⟨[1], [], R, hR, fun x => by rw [e]; simp [pev], by simp [gC]; omega, by simp [gC]⟩
    by_cases zA : dg A = 0
    · obtain ⟨R, hR, e⟩ := free_end zA (by omega) hf.swap
      exact ⟨[], [1], R, hR, fun x => by rw [e]; simp [pev], by simp [gC], by simp [gC]; omega⟩
    have step : ∀ (A B : List Int), dg A + dg B ≤ m + 1 → 0 < dg B → dg B ≤ dg A → Free A B → gC 1 A ≤ H → gC 1 B ≤ H → BezB (GB (m + 1) H) A B := fun A B h hb hd hf hA hB => by
      have hlB : (ld B).natAbs ≤ H := Nat.le_trans (gC_get B _) hB
      have hlA : (ld A).natAbs ≤ H := Nat.le_trans (gC_get A _) hA
      obtain ⟨C, hC⟩ : ∃ C, C = radd (A.map fun y => ld B * y) ((List.replicate (dg A - dg B) 0 ++ B).map fun y => -ld A * y) := ⟨_, rfl⟩
      have hCe : ∀ x, pev C x = ld B * pev A x - ld A * (x ^ (dg A - dg B) * pev B x) := fun x => by
        rw [hC, radd_ev, ev_smul, ev_smul, ev_repl]; grind
      have hCd : dg C < dg A := by
        have := red_dg (p := A) (q := B) hb hd
        refine Nat.lt_of_le_of_lt (Nat.le_of_eq (dg_ext fun x => ?_)) this
        rw [hCe, ev_psub, ev_prai, ev_prai]; simp; grind
      have hCg : gC 1 C ≤ 2 * H * H := by
        have h1 := gC_radd 1 (A.map fun y => ld B * y) ((List.replicate (dg A - dg B) 0 ++ B).map fun y => -ld A * y)
        rw [← hC, gC_smul, gC_smul, gC_repl 1, Int.natAbs_neg] at h1
        have h2 : (ld B).natAbs * gC 1 A ≤ H * H := Nat.mul_le_mul hlB hA
        have h3 : (ld A).natAbs * gC 1 B ≤ H * H := Nat.mul_le_mul hlA hB
        have h4 : 2 * H * H = H * H + H * H := by grind
        omega
      have hHH : H ≤ 2 * H * H := by
        have : 1 * H ≤ 2 * H * H := Nat.mul_le_mul_right _ (by omega)
        omega
      have hf2 : Free C B := fun d h1 h2 h3 => by
        refine hf d h1 ?_ h3
        refine Dv.prim (k := ld B) h1 (ld_ne hb) ?_
        obtain ⟨y, hy⟩ := h3
        refine h2.add (c := ptim (ld A) (List.replicate (dg A - dg B) 0 ++ B)) ⟨ptim (ld A) (List.replicate (dg A - dg B) 0 ++ y), fun x => by rw [ev_ptim, ev_ptim, ev_repl, ev_repl, hy]; grind⟩ fun x => ?_
        rw [ev_smul, hCe, ev_ptim, ev_repl]; omega
      obtain ⟨U, V, R, hR, e, gU, gV⟩ := bez_bound m (A := C) (B := B) (by omega) (by omega) hf2 hCg (Nat.le_trans hB hHH) (by omega)
      refine ⟨U.map fun y => ld B * y, radd V ((List.replicate (dg A - dg B) 0 ++ U).map fun y => -ld A * y), R, hR, fun x => ?_, ?_, ?_⟩
      · rw [ev_smul, radd_ev, ev_smul, ev_repl, ← e x, hCe]; grind
      · rw [gC_smul]
        have : (ld B).natAbs * gC 1 U ≤ (1 + H) * GB m (2 * H * H) := Nat.mul_le_mul (by omega) gU
        exact this
      · have h1 := gC_radd 1 V ((List.replicate (dg A - dg B) 0 ++ U).map fun y => -ld A * y)
        rw [gC_smul, gC_repl 1, Int.natAbs_neg] at h1
        have h2 : (ld A).natAbs * gC 1 U ≤ H * GB m (2 * H * H) := Nat.mul_le_mul hlA gU
        have h3 : (1 + H) * GB m (2 * H * H) = GB m (2 * H * H) + H * GB m (2 * H * H) := by grind
        show _ ≤ (1 + H) * GB m (2 * H * H)
        omega
    rcases Nat.le_total (dg B) (dg A) with g | g
    · exact step A B h (by omega) g hf hA hB
    · exact (step B A (by omega) (by omega) g hf.swap hB hA).swap
def gbt : Nat → Nat → Nat
  | 0, _ => 0
  | m + 1, h => (h + 1) + gbt m (2 * h + 1)
theorem GB_bits : ∀ (m : Nat) {H h : Nat}, H ≤ 2 ^ h → GB m H ≤ 2 ^ gbt m h
  | 0, _, _, _ => by simp [GB, gbt]
  | m + 1, H, h, hH => by
    have h1 : 2 * H * H ≤ 2 ^ (2 * h + 1) := by
      have : H * H ≤ 2 ^ h * 2 ^ h := Nat.mul_le_mul hH hH
      rw [show 2 * h + 1 = h + h + 1 by omega, Nat.pow_succ, Nat.pow_add]
      have e : 2 * H * H = H * H * 2 := by grind
      omega
    have h2 : 1 + H ≤ 2 ^ (h + 1) := by
      have : 1 ≤ 2 ^ h := Nat.pow_pos (by decide)
      rw [Nat.pow_succ]; omega
    show (1 + H) * GB m (2 * H * H) ≤ 2 ^ ((h + 1) + gbt m (2 * h + 1))
    rw [Nat.pow_add]
    exact Nat.mul_le_mul h2 (GB_bits m h1)
theorem gC_mono {M M' : Nat} (h : M ≤ M') : ∀ l : List Int, gC M l ≤ gC M' l
  | [] => Nat.le_refl _
  | c :: l => by
    have := Nat.mul_le_mul h (gC_mono h l)
    simp only [gC]; omega
theorem gC_drop (M : Nat) (l : List Int) : gC M l = (l.getD 0 0).natAbs + M * gC M (l.drop 1) := by
  cases l <;> simp [gC]
theorem few_fine {u T : List Int} {w G : Nat} {i : Int} (h0 : u ≠ []) (hl : u.length ≤ 6) (hb : BezB G u (pder u)) (hw : 2000 * G * gC 2 u < w) (hi : i.natAbs ≤ w) (hT : ∀ x, pev T x = pev (tay w i u).reverse (x + 1)) : vs 0 T ≤ 1 := by
  refine few_turns (by rw [tay_len]; exact hl) hT ?_
  refine Classical.byContradiction fun hn => ?_
  rw [not_or, Nat.not_lt, Nat.not_lt] at hn
  obtain ⟨n1, n2⟩ := hn
  have hw1 : 1 ≤ w := by omega
  have hw0 : (w : Int) ≠ 0 := by omega
  obtain ⟨U, V, R, hR, hbz, gU, gV⟩ := hb
  have e1 := congrArg Int.natAbs (gh_bez hbz hw0 i)
  have e2 := congrArg Int.natAbs (g1_der u hw0 i)
  rw [← tay0 w i u] at e1
  rw [← tay1 w i u] at e2
  have bU := gh_le (M := 1) (w := w) (u := i) (by omega) U
  have bV := gh_le (M := 1) (w := w) (u := i) (by omega) V
  have hg := (tay_gC hi u).2
  have hg1 := gC_drop w (tay w i u)
  have hg2 := gC_drop w ((tay w i u).drop 1)
  rw [List.drop_drop] at hg2
  have hd1 : ((tay w i u).drop 1).getD 0 0 = (tay w i u).getD 1 0 := by
    cases tay w i u <;> simp [List.getD_eq_getElem?_getD]
  rw [hd1] at hg2
  have m1 : gC 1 ((tay w i u).drop 1) ≤ gC w ((tay w i u).drop 1) := gC_mono hw1 _
  have m2 : gC 1 ((tay w i u).drop 2) ≤ gC w ((tay w i u).drop 2) := gC_mono hw1 _
  have hlen : u.length = u.length - 1 + 1 := by have := List.length_pos_iff.2 h0; omega
  have e3 := Int.natAbs_add_le ((w : Int) ^ (V.length + (pder u).length) * (gh U w i * (w * (tay w i u).getD 0 0))) ((w : Int) ^ (U.length + u.length) * (gh V w i * gh (pder u) w i))
  rw [e1] at e3
  simp only [Int.natAbs_mul, Int.natAbs_pow, Int.natAbs_natCast] at e2 e3
  generalize gC 1 ((tay w i u).drop 1) = S1 at *
  generalize gC 1 ((tay w i u).drop 2) = S2 at *
  generalize ((tay w i u).getD 0 0).natAbs = Q0 at *
  generalize ((tay w i u).getD 1 0).natAbs = Q1 at *
  generalize (gh U w i).natAbs = gu at *
  generalize (gh V w i).natAbs = gv at *
  generalize (gh (pder u) w i).natAbs = Y at *
  generalize gC 2 u = C2 at *
  generalize (pder u).length = nB at *
  generalize u.length - 1 = n at *
  rw [hlen] at e2 e3
  have f1 : 1 * w ^ (U.length + (n + 1) + (V.length + nB)) ≤ R.natAbs * w ^ (U.length + (n + 1) + (V.length + nB)) := Nat.mul_le_mul_right _ (by omega)
  have f2 : gu ≤ G * w ^ U.length := Nat.le_trans bU (Nat.mul_le_mul_right _ gU)
  have f3 : gv ≤ G * w ^ V.length := Nat.le_trans bV (Nat.mul_le_mul_right _ gV)
  have f4 : w ^ (V.length + nB) * (gu * (w * Q0)) ≤ w ^ (V.length + nB) * ((G * w ^ U.length) * (w * Q0)) := Nat.mul_le_mul_left _ (Nat.mul_le_mul_right _ f2)
  have f5 : w ^ (U.length + (n + 1)) * (gv * Y) ≤ w ^ (U.length + (n + 1)) * ((G * w ^ V.length) * Y) := Nat.mul_le_mul_left _ (Nat.mul_le_mul_right _ f3)
  have f6 : w ^ (U.length + (n + 1)) * ((G * w ^ V.length) * Y) = w ^ U.length * G * w ^ V.length * (w ^ (n + 1) * Y) := by rw [Nat.pow_add]; grind
  rw [← e2] at f6
  have P : 0 < w ^ (U.length + V.length + nB) := Nat.pow_pos hw1
  have f7 : w ^ (U.length + V.length + nB) * w ^ (n + 1) ≤ w ^ (U.length + V.length + nB) * (G * (w * Q0 + w * (w * Q1))) := by
    have t1 : w ^ (U.length + V.length + nB) * w ^ (n + 1) = 1 * w ^ (U.length + (n + 1) + (V.length + nB)) := by rw [Nat.one_mul, ← Nat.pow_add]; congr 1; omega
    have t2 : w ^ (U.length + V.length + nB) * (G * (w * Q0 + w * (w * Q1))) = w ^ (V.length + nB) * ((G * w ^ U.length) * (w * Q0)) + w ^ U.length * G * w ^ V.length * (w ^ nB * (w * (w * Q1))) := by simp only [Nat.pow_add]; grind
    omega
  have f8 := Nat.le_of_mul_le_mul_left f7 P
  have f9 : w * Q0 ≤ w * (1000 * S1) := Nat.mul_le_mul_left _ n1
  have f10 : w * (w * Q1) ≤ w * (w * (1000 * S2)) := Nat.mul_le_mul_left _ (Nat.mul_le_mul_left _ n2)
  have f11 : w * S1 ≤ w ^ n * C2 := by
    have := Nat.mul_le_mul_left w m1
    omega
  have f12 : w * (w * S2) ≤ w ^ n * C2 := by
    have a1 := Nat.mul_le_mul_left w (Nat.mul_le_mul_left w m2)
    have a2 : w * gC w ((tay w i u).drop 1) = w * Q1 + w * (w * gC w ((tay w i u).drop 2)) := by rw [hg2, Nat.mul_add]
    omega
  have f13 : G * (w * Q0 + w * (w * Q1)) ≤ G * (2000 * (w ^ n * C2)) := Nat.mul_le_mul_left _ (by
    have a1 : w * (1000 * S1) = 1000 * (w * S1) := by grind
    have a2 : w * (w * (1000 * S2)) = 1000 * (w * (w * S2)) := by grind
    omega)
  have f14 : w ^ n * w ≤ w ^ n * (2000 * G * C2) := by
    have a1 : w ^ n * w = w ^ (n + 1) := (Nat.pow_succ ..).symm
    have a2 : w ^ n * (2000 * G * C2) = G * (2000 * (w ^ n * C2)) := by grind
    omega
  have := Nat.le_of_mul_le_mul_left f14 (Nat.pow_pos hw1)
  omega
end Go.Proofs.YtgpcepcbdpigfaaGreat
namespace Go.Proofs.YtgpcepcbdpigfaaGreat
theorem comp_der (a m : Int) : ∀ (s : List Int) {u : List Int}, (∀ x, pev u x = pev s (a + m * x)) → ∀ x, pev (pder u) x = m * pev (pder s) (a + m * x)
  | [], u, h, x => by
    rw [pder_ext (l := u) (m := []) (fun y => by rw [h]; rfl), pder_nil]; simp [pev]
  | c :: l, u, h, x => by
    have hv : ∀ y, pev (pst m (pshi a l)) y = pev l (a + m * y) := fun y => by rw [ev_pst, ev_pshi, Int.add_comm]
    have ih := comp_der a m l hv x
    have e : ∀ y, pev u y = pev (padd [c] (pmul [a, m] (pst m (pshi a l)))) y := fun y => by
      rw [h, ev_padd, ev_pmul, hv]; simp [pev]; grind
    have e1 : pev (pder [c]) x = 0 := pder_low (by unfold dg; exact nrm_length_le _) x
    have e2 : pev (pder [a, m]) x = m := by rw [pder_cons]; have e3 : pev (pder [m]) x = 0 := pder_low (by unfold dg; exact nrm_length_le _) x
                                            rw [e3]; simp [pev]
    rw [pder_ext e, pder_padd, pder_pmul, ih, hv, e1, e2, pder_cons]; simp [pev]; grind
theorem comp_free {s u : List Int} {L : Nat → List Int} {r : Nat} (hc : Chain L r) (he : L 0 = s) {a m : Int} (hm : m ≠ 0) (hu : ∀ x, pev u x = pev s (a + m * x)) (h0 : 0 < dg u) : Free u (pder u) := by
  intro d hd h1 h2
  by_cases hr : r = 0
  · subst hr
    obtain ⟨k, hk, e⟩ := hc.last
    rw [he] at e
    have : dg u ≤ 1 := by
      rw [dg_ext (m := [k]) fun x => by rw [hu, e]; simp [pev]]
      unfold dg; exact nrm_length_le _
    have := (h1.deg h0).2
    omega
  · obtain ⟨U, V, R, hR, hbz⟩ := hc.bez (r - 1) 0 (by omega)
    rw [hc.one (by omega), he] at hbz
    have hder := comp_der a m s hu
    have hcU : ∀ W y, pev (pst m (pshi a W)) y = pev W (a + m * y) := fun W y => by rw [ev_pst, ev_pshi, Int.add_comm]
    have hconst : Dv d [m * R] := by
      obtain ⟨y, hy⟩ := h1
      obtain ⟨z, hz⟩ := h2
      refine ⟨padd (ptim m (pmul (pst m (pshi a U)) y)) (pmul (pst m (pshi a V)) z), fun x => ?_⟩
      have e1 := hbz (a + m * x)
      rw [← hu, hy] at e1
      have e2 := hder x
      rw [hz] at e2
      rw [ev_padd, ev_ptim, ev_pmul, ev_pmul, hcU, hcU]
      simp only [pev]
      have e3 : m * R = m * (pev U (a + m * x) * (pev d x * pev y x)) + pev V (a + m * x) * (m * pev (pder s) (a + m * x)) := by rw [← e1]; grind
      rw [← e2] at e3
      rw [show m * R + x * 0 = m * R by omega, e3]; grind
    have hdc : dg [m * R] = 1 := by
      unfold dg
      have := Int.mul_ne_zero hm hR
      simp [nrm, this]
    have := (hconst.deg (by omega)).2
    omega
theorem CC.le {l : List Int} {m j i c t : Nat} (h : CC l m j (i : Int) c) (ht : CC l m 0 0 t) (hi : i < 2 ^ j) : c ≤ t := by
  obtain ⟨K, hK⟩ := h
  obtain ⟨K', hK'⟩ := ht
  have h1 := hK (max K K') (by omega)
  have h2 := hK' (j + max K K') (by omega)
  generalize max K K' = k at *
  rw [Nat.pow_zero, Nat.one_mul, Int.zero_mul] at h2
  have e1 : m * 2 ^ (j + k) = 2 ^ j * (m * 2 ^ k) := by rw [Nat.pow_add]; grind
  rw [e1] at h2
  obtain ⟨d, hd⟩ : ∃ d, 2 ^ j = i + 1 + d := ⟨2 ^ j - (i + 1), by omega⟩
  have e2 : 2 ^ j * (m * 2 ^ k) = i * (m * 2 ^ k) + (m * 2 ^ k + d * (m * 2 ^ k)) := by rw [hd]; grind
  have h3 : nc l (2 ^ j * (m * 2 ^ k)) 0 (i * (m * 2 ^ k) + (m * 2 ^ k + d * (m * 2 ^ k))) = t := by rw [← e2]; exact h2
  rw [nc_add, nc_add, Int.zero_add, Int.natCast_mul, h1] at h3
  omega
structure UOk (u : List Int) (m J K : Nat) : Prop where
  nm : Nm u
  ne : u ≠ []
  len : u.length ≤ 6
  m1 : 1 ≤ m
  fine : ∀ (i : Nat) (T : List Int), i < 2 ^ J → (∀ x, pev T x = pev (tay (2 ^ J : Nat) i u).reverse (x + 1)) → vs 0 T ≤ 1
  tot : ∃ t, t ≤ 1000 ∧ CC u m 0 0 t
  sz : ∀ (j i : Nat), j ≤ J → i < 2 ^ j → szR K (tay (2 ^ j : Nat) i u)
theorem gC_szR {l : List Int} {M k : Nat} (hM : 1 ≤ M) (h : gC M l < 18446744073709551616 ^ k) : szR k l := fun x hx => by
  obtain ⟨i, hi, rfl⟩ := List.mem_iff_getElem.1 hx
  have h1 := gC_get l i
  rw [List.getD_eq_getElem?_getD, List.getElem?_eq_getElem hi] at h1
  have h2 := gC_mono hM l
  exact Nat.lt_of_le_of_lt (Nat.le_trans h1 h2) h
theorem szR_gC {l : List Int} {k : Nat} (M : Nat) (h : szR k l) (hM : 1 ≤ M) : gC M l ≤ (M + 1) ^ l.length * 18446744073709551616 ^ k := by
  induction l with
  | nil => simp [gC]
  | cons c l ih =>
    have ih := ih fun x hx => h x (List.mem_cons_of_mem _ hx)
    have hc := h c (List.mem_cons_self ..)
    unfold sz at hc
    rw [List.length_cons, Nat.pow_succ]
    have h1 : 1 ≤ (M + 1) ^ l.length := Nat.pow_pos (by omega)
    have h2 : M * gC M l ≤ M * ((M + 1) ^ l.length * 18446744073709551616 ^ k) := Nat.mul_le_mul_left _ ih
    have h3 : 1 * 18446744073709551616 ^ k ≤ (M + 1) ^ l.length * 18446744073709551616 ^ k := Nat.mul_le_mul_right _ h1
    have e : (M + 1) ^ l.length * (M + 1) * 18446744073709551616 ^ k = M * ((M + 1) ^ l.length * 18446744073709551616 ^ k) + (M + 1) ^ l.length * 18446744073709551616 ^ k := by grind
    simp only [gC]; omega
theorem uok {s u : List Int} {L : Nat → List Int} {r : Nat} {a : Int} {m k : Nat} (hc : Chain L r) (he : L 0 = s) (hm : 1 ≤ m) (hu : ∀ x, pev u x = pev s (a + m * x)) (hn : Nm u) (h0 : u ≠ []) (hl : u.length ≤ 6) (hk : szR k u) (hk' : szR k (pder u))
    (ht : rc s a (a + m) ≤ 1000) {J : Nat} (hJ : gbt 11 (64 * k + 10) + 64 * k + 30 ≤ J) : ∃ t : Nat, CC u m 0 0 t ∧ rc s a (a + m) = t ∧ UOk u m J (k + J + 2) := by
  obtain ⟨t, h1, h2⟩ := CC.top hc he hm hu
  have hd0 : 0 < dg u := by rw [dg_nm hn]; exact List.length_pos_iff.2 h0
  have e64 : 18446744073709551616 ^ k = 2 ^ (64 * k) := by rw [show (18446744073709551616 : Nat) = 2 ^ 64 from rfl, ← Nat.pow_mul]
  have b1 : ∀ {l : List Int} {M : Nat}, szR k l → l.length ≤ 6 → 1 ≤ M → M ≤ 2 → gC M l ≤ 2 ^ (64 * k + 10) := fun {l M} h h6 hM1 hM2 => by
    have h3 := szR_gC M h hM1
    rw [e64] at h3
    have h4 : (M + 1) ^ l.length ≤ 3 ^ 6 := Nat.le_trans (Nat.pow_le_pow_left (by omega) _) (Nat.pow_le_pow_right (by decide) h6)
    have h5 : (M + 1) ^ l.length * 2 ^ (64 * k) ≤ 2 ^ 10 * 2 ^ (64 * k) := Nat.mul_le_mul_right _ (Nat.le_trans h4 (by decide))
    rw [Nat.add_comm (64 * k), Nat.pow_add]
    omega
  have lp : (pder u).length ≤ 6 := Nat.le_trans (pder_len u) hl
  have hbz := bez_bound 11 (A := u) (B := pder u) (H := 2 ^ (64 * k + 10)) (by
    have h3 := dg_le_len u
    have h4 : dg (pder u) ≤ 5 := by
      by_cases g : 2 ≤ dg u
      · have := pder_dg g; omega
      · have := (dg_zero (l := pder u)).2 fun x => pder_low (by omega) x
        omega
    omega) (by omega) (comp_free hc he (by omega) hu hd0) (b1 hk hl (by decide) (by decide)) (b1 hk' lp (by decide) (by decide)) (Nat.pow_pos (by decide))
  have hG := GB_bits 11 (H := 2 ^ (64 * k + 10)) (h := 64 * k + 10) (Nat.le_refl _)
  have h2u := b1 hk hl (show 1 ≤ 2 by decide) (Nat.le_refl 2)
  have hpow : ∀ {x y : Nat}, x ≤ y → 2 ^ x ≤ 2 ^ y := fun h => Nat.pow_le_pow_right (by decide) h
  refine ⟨t, h1, h2, hn, h0, hl, hm, fun i T hi hT => ?_, ⟨t, by omega, h1⟩, fun j i hj hi => ?_⟩
  · refine few_fine (w := 2 ^ J) (i := (i : Nat)) h0 hl hbz ?_ (by omega) hT
    have h3 : GB 11 (2 ^ (64 * k + 10)) * gC 2 u ≤ 2 ^ gbt 11 (64 * k + 10) * 2 ^ (64 * k + 10) := Nat.mul_le_mul hG h2u
    rw [← Nat.pow_add] at h3
    have h4 : 2000 * GB 11 (2 ^ (64 * k + 10)) * gC 2 u = 2000 * (GB 11 (2 ^ (64 * k + 10)) * gC 2 u) := Nat.mul_assoc _ _ _
    rw [h4]
    refine Nat.lt_of_lt_of_le ?_ (hpow hJ)
    have h5 : 2 ^ (gbt 11 (64 * k + 10) + 64 * k + 30) = 2 ^ (gbt 11 (64 * k + 10) + (64 * k + 10)) * 1048576 := by
      rw [show gbt 11 (64 * k + 10) + 64 * k + 30 = gbt 11 (64 * k + 10) + (64 * k + 10) + 20 by omega, Nat.pow_add _ _ 20]
    rw [h5]
    have h6 : 0 < 2 ^ (gbt 11 (64 * k + 10) + (64 * k + 10)) := Nat.pow_pos (by decide)
    generalize 2 ^ (gbt 11 (64 * k + 10) + (64 * k + 10)) = X at *
    generalize GB 11 (2 ^ (64 * k + 10)) * gC 2 u = Y at *
    omega
  · have hw : ((i : Nat) : Int).natAbs ≤ 2 ^ j := by omega
    have h3 := (tay_gC hw u).2
    refine gC_szR (M := 2 ^ j) (Nat.pow_pos (by decide)) ?_
    have h4 : (2 ^ j) ^ (u.length - 1) ≤ 2 ^ (5 * J) := by
      rw [← Nat.pow_mul]
      refine hpow ?_
      have : j * (u.length - 1) ≤ J * 5 := Nat.mul_le_mul hj (by omega)
      omega
    have h5 : (2 ^ j) ^ (u.length - 1) * gC 2 u ≤ 2 ^ (5 * J) * 2 ^ (64 * k + 10) := Nat.mul_le_mul h4 h2u
    rw [← Nat.pow_add] at h5
    rw [show (18446744073709551616 : Nat) = 2 ^ 64 from rfl, ← Nat.pow_mul]
    have h6 : 5 * J + (64 * k + 10) < 64 * (k + J + 2) := by omega
    exact Nat.lt_of_le_of_lt (Nat.le_trans h3 h5) (Nat.pow_lt_pow_right (by decide) h6)
open Go.RowKit
theorem rPower_meets (v : Value) (x : Int) (n a : Nat) (hx : sz x a) (hk : (n + 1) * (a + 1) ≤ 137438953472) :
    Meets Tryz.prog 142 [v, .int .i64 (n : Nat)] [(v, zd x)] (fun r os fs => os = [] ∧ fs = [(r, zd (x ^ n))]) := by
  have hm1 : (n + 1) * (a + 1) = n * (a + 1) + (a + 1) := Nat.succ_mul _ _
  have hm2 : n ≤ n * (a + 1) := Nat.le_mul_of_pos_right _ (by omega)
  have hp : ∀ i, i ≤ n → sz (x ^ i) (n * (a + 1) + 1) := fun i hi => (sz_pow hx i).mono (by
    have h2 : i * a ≤ n * (a + 1) := Nat.mul_le_mul hi (by omega)
    omega)
  refine meets_of_vc Tryz.func142 (by kernel_rfl) rfl (by kernel_rfl) (Nat.le_of_ble_eq_true rfl) ?_
  refine box_fact (Reads.fact (d := zd x) qM) fun px => ?_
  refine alloc_rule (d := I false []) fun o ho => ?_
  refine call_fn (rOf_meets 1 (by decide) (by decide)) (Seals.refl _ _) qS ?_
  rintro y0 _ _ ⟨rfl, rfl⟩
  refine alloc_rule (d := I false []) fun s hs => ?_
  refine store_box (d := zd 1) 0 rfl hs rfl (by kernel_rfl) ?_ ?_; exact Reads.fact qM
  refine loop_rule (X := Nat) (fun i => ([(1, .int .i64 (n : Nat)), (2, px), (4, o), (5, s), (6, .int .i64 (i : Nat))], [own1 s 2 1 (fun _ => zd (x ^ i)), own1 o 2 1 (fun _ => I false [])], [(px, .ptr (zd x))])) (fun i => i ≤ n) (fun i => n - i) rfl ?_ ?_
  · exact again 0 (Nat.zero_le _) trivial qF (Seals.trans (Seals.box0 (by rw [Int.pow_zero]; rfl)) (Seals.sub qS))
  · rintro i hi
    refine cmp_split _ rfl (fun hlt => ?_) (fun hlt => ?_)
    · have hnx := fun u u' => rMulZZ' u u' (x ^ i) x (n * (a + 1) + (a + 1)) ((hp i hi).mono (by omega)) (hx.mono (by omega)) (by omega)
      rw [← Int.pow_succ] at hnx
      refine load_box (d := zd (x ^ i)) 0 rfl hs rfl (load_I _ _) fun y1 => ?_
      refine load_fact (d := zd x) qM (load_I _ _) fun y2 => ?_
      refine call_fn (hnx y1 y2) (Seals.refl _ _) qS ?_
      rintro y3 _ _ ⟨rfl, rfl⟩
      refine store_box (d := zd (x ^ (i + 1))) 0 rfl hs rfl (by kernel_rfl) ?_ ?_; exact Reads.fact qM
      refine ar rfl qI ?_
      exact again (i + 1) (by omega) (by simp only; omega) qF (Seals.trans (Seals.box0 rfl) (Seals.sub qS))
    · have hin : i = n := by omega
      subst hin
      refine load_box (d := zd (x ^ i)) 0 rfl hs rfl (load_I _ _) fun y1 => ?_
      refine store_box (d := zd (x ^ i)) 1 rfl ho rfl (by kernel_rfl) ?_ ?_; exact Reads.fact qM
      refine load_box (d := zd (x ^ i)) 1 rfl ho rfl (load_I _ _) fun r => ?_
      exact fin ⟨rfl, rfl⟩ (Seals.trans (Seals.drop 0 _ _) (Seals.trans (Seals.drop 0 _ _) (Seals.sub (fs' := [(r, zd (x ^ i))]) qS)))
theorem ev_take_dg (l : List Int) (x : Int) : pev (l.take (dg l)) x = pev l x := by
  refine ev_co (fun i => ?_) x
  by_cases hi : i < dg l
  · exact take_getD 0 hi
  · rw [dg_le.1 (Nat.le_refl (dg l)) i (by omega)]
    exact getD_none (by rw [List.length_take]; omega)
theorem rValueJ (v w : Value) (p : Row) (xj : Bool × List Nat) (k a : Nat) (hp : Fit k p) (hxl : Lim xj.2) (hxa : xj.2.length ≤ a) (hk : k + (p.length + 2) * (a + 1) ≤ 137438953472) (lp : p.length ≤ 1048576) :
    Meets Tryz.prog 45 [v, w] [(v, V p), (w, J xj)] (fun r os fs => os = [] ∧ fs = [(r, zd (pev (vv p) (jv xj)))]) := by
  have hx : sz (jv xj) a := sz_jv hxl hxa
  obtain ⟨x, hxj⟩ : ∃ x, jv xj = x := ⟨_, rfl⟩
  rw [hxj] at hx ⊢
  have hm1 : (p.length + 2) * (a + 1) = p.length * (a + 1) + (a + 1) + (a + 1) := by rw [Nat.add_mul]; omega
  have hm2 : p.length ≤ p.length * (a + 1) := Nat.le_mul_of_pos_right _ (by omega)
  have d1 := rDegreeN v p (hp.mono (by omega))
  have hdl : dg (vv p) ≤ p.length := Nat.le_trans (dg_le_len _) (by rw [vv_len]; exact Nat.le_refl _)
  have hpw : ∀ i, i ≤ p.length → sz (x ^ i) (p.length * (a + 1) + 1) := fun i hi => (sz_pow hx i).mono (by
    have h2 : i * a ≤ p.length * (a + 1) := Nat.mul_le_mul hi (by omega)
    omega)
  have hsm : ∀ i, sz (pev ((vv p).take i) x) (k + p.length * (a + 1)) := fun i => (ev_sz (hp.szR.take i) hx).mono (by
    have : ((vv p).take i).length * (a + 1) ≤ p.length * (a + 1) := Nat.mul_le_mul_right _ (by rw [List.length_take, vv_len]; omega)
    omega)
  have hst : ∀ i, i < p.length → pev ((vv p).take i) x + jv (p.getD i z0) * x ^ i = pev ((vv p).take (i + 1)) x := fun i hi => by
    rw [ev_take_succ (by rw [vv_len]; exact hi), vv_get p i hi, Int.mul_comm]
  have hfin := ev_take_dg (vv p) x
  generalize hS : (fun i => pev ((vv p).take i) x) = S
  have hSi : ∀ i, pev ((vv p).take i) x = S i := fun i => by rw [← hS]
  simp only [hSi] at hsm hst hfin
  have h00 : S 0 = 0 := by rw [← hSi]; rfl
  rw [← hfin]
  generalize dg (vv p) = n at *
  refine meets_of_vc Tryz.func45 (by kernel_rfl) rfl (by kernel_rfl) (Nat.le_of_ble_eq_true rfl) ?_
  refine box_fact (Reads.fact (d := J xj) qM) fun px => ?_
  refine alloc_rule (d := I false []) fun o ho => ?_
  refine build0 (da := .one (.bool false)) (db := U (lims 0)) (fun S w => ⟨[.bool false], [.slice none 0 0], rfl, rd_false S w, by rw [lims_zero]; exact rd_nil S w 1 _⟩) fun z => ?_
  refine alloc_rule (d := I false []) fun s hs => ?_
  refine store_box (d := zd 0) 0 rfl hs rfl (by kernel_rfl) ?_ ?_; exact Reads.fact qM
  refine call_fn (rOf_meets 1 (by decide) (by decide)) (Seals.refl _ _) qS ?_
  rintro y0 _ _ ⟨rfl, rfl⟩
  refine alloc_rule (d := I false []) fun t ht => ?_
  refine store_box (d := zd 1) 0 rfl ht rfl (by kernel_rfl) ?_ ?_; exact Reads.fact qM
  refine loop_rule (X := Nat) (fun i => ([(0, v), (3, px), (4, o), (5, s), (6, t), (7, .int .i64 (i : Nat))], [own1 t 2 1 (fun _ => zd (x ^ i)), own1 s 2 1 (fun _ => zd (S i)), own1 o 2 1 (fun _ => I false [])], [(v, V p), (px, .ptr (J xj))])) (fun i => i ≤ n) (fun i => n - i) rfl ?_ ?_
  · exact again 0 (Nat.zero_le _) trivial qF (Seals.trans (Seals.box0 (by rw [Int.pow_zero]; rfl)) (Seals.trans (Seals.box1 (by rw [h00]; rfl)) (Seals.sub qS)))
  · rintro i hi
    refine call_fn (d1) (Seals.refl _ _) qS ?_
    rintro _ _ _ ⟨rfl, rfl, rfl⟩
    refine cmp_split _ rfl (fun hlt => ?_) (fun hlt => ?_)
    · have hin : i < p.length := by omega
      have hpi := hp.get i
      have hwi := hpw i (by omega)
      have hnx := fun u u' => rMulZJ u u' (x ^ i) xj _ hwi (by omega) hxl (by omega)
      rw [hxj, ← Int.pow_succ] at hnx
      have hadd := fun u u' => rAddZ u u' (S i) (jv (p.getD i z0) * x ^ i) (k + (p.length * (a + 1) + 1)) ((hsm i).mono (by omega)) ((sz_jv hpi.1 hpi.2).mul hwi) (by omega)
      rw [hst i hin] at hadd
      refine draw_rule [0, 1, 2, 3, 4, 5, 6, 7, 8] [0, 1, 2, 3, 4, 5, 6, 7, 8] (by kernel_rfl) (by kernel_rfl) ?_
      refine load_box (d := zd (S i)) 1 rfl hs rfl (load_I _ _) fun y1 => ?_
      refine index_fact qM i rfl hin fun b1 => ?_
      refine load_fact (d := J (p.getD i z0)) qM (load_J _) fun y2 => ?_
      refine load_box (d := zd (x ^ i)) 0 rfl ht rfl (load_I _ _) fun y3 => ?_
      refine call_fn (rMulZ y2 y3 (p.getD i z0) (x ^ i) _ hpi.1 (by omega) hwi (by omega)) (Seals.refl _ _) qS ?_
      rintro y4 _ _ ⟨rfl, rfl⟩
      refine call_fn (hadd y1 y4) (Seals.refl _ _) qS ?_
      rintro y5 _ _ ⟨rfl, rfl⟩
      refine store_box (d := zd (S (i + 1))) 1 rfl hs rfl (by kernel_rfl) ?_ ?_; exact Reads.fact qM
      refine load_box (d := zd (x ^ i)) 0 rfl ht rfl (load_I _ _) fun y6 => ?_
      refine load_fact (d := J xj) qM (load_J _) fun y7 => ?_
      refine call_fn (hnx y6 y7) (Seals.refl _ _) qS ?_
      rintro y8 _ _ ⟨rfl, rfl⟩
      refine store_box (d := zd (x ^ (i + 1))) 0 rfl ht rfl (by kernel_rfl) ?_ ?_; exact Reads.fact qM
      refine ar rfl qI ?_
      exact again (i + 1) (by omega) (by simp only; omega) qF (Seals.trans (Seals.box0 rfl) (Seals.trans (Seals.box1 rfl) (Seals.sub qS)))
    · have hin : i = n := by omega
      subst hin
      refine load_box (d := zd (S i)) 1 rfl hs rfl (load_I _ _) fun y1 => ?_
      have hn := rZNorm_meets y1 (decide (S i < 0)) (lims (S i).natAbs) (Lim_lims _) (Nat.le_trans (hsm i).len (by omega))
      rw [iv_zd] at hn
      refine call_fn (hn) (Seals.refl _ _) qS ?_
      rintro y2 _ _ ⟨rfl, rfl⟩
      refine store_box (d := zd (S i)) 2 rfl ho rfl (by kernel_rfl) ?_ ?_; exact Reads.fact qM
      refine load_box (d := zd (S i)) 2 rfl ho rfl (load_I _ _) fun r => ?_
      exact fin ⟨rfl, rfl⟩ (Seals.trans (Seals.drop 0 _ _) (Seals.trans (Seals.drop 0 _ _) (Seals.trans (Seals.drop 0 _ _) (Seals.sub (fs' := [(r, zd (S i))]) qS))))
open Go.RowKit
theorem pmul_len2 (l m : List Int) (hm : m.length ≤ 2) : (pmul l m).length ≤ l.length + 1 := by
  by_cases h1 : 0 < dg l
  · by_cases h2 : 0 < dg m
    · have := (pmul_dg h1 h2).1
      rw [dg_nm (pmul_nm l m)] at this
      have a1 := dg_le_len l
      have a2 := dg_le_len m
      omega
    · have : pmul l m = [] := (pmul_nm l m).ext Nm.nil fun x => by rw [ev_pmul, dg_zero.1 (show dg m = 0 by omega)]; simp [pev]
      rw [this]; exact Nat.zero_le _
  · have : pmul l m = [] := (pmul_nm l m).ext Nm.nil fun x => by rw [ev_pmul, dg_zero.1 (show dg l = 0 by omega)]; simp [pev]
    rw [this]; exact Nat.zero_le _
theorem pmul_szR {k j : Nat} {l m : List Int} (h : szR k l) (h' : szR j m) (hl : l.length < 18446744073709551616) : szR (k + j + 1) (pmul l m) := by
  have hn : (nrm l).length ≤ l.length := nrm_length_le l
  unfold pmul
  simp only
  split
  · exact fun x hx => by simp at hx
  · exact szR.nrm (szR.lst fun i _ => conv_sz h.nrm h'.nrm (by omega) i)
theorem ptim_len (c : Int) (l : List Int) : (ptim c l).length ≤ l.length := by
  have := prai_len c 0 l
  rw [prai_zero] at this; omega
theorem ptim_szR {k a : Nat} {c : Int} {l : List Int} (h : szR k l) (hc : sz c a) : szR (k + a) (ptim c l) := by
  have := h.prai hc 0
  rwa [prai_zero] at this
theorem rPut_meets (v w : Value) (p q : Row) (k s : Nat) (hp : Fit k p) (hq : Fit s q) (h1k : 1 ≤ k) (lq : q.length ≤ 2) (lp : p.length ≤ 1048576) (hk : 4 * (k + (p.length + 2) * (s + 2)) ≤ 137438953472) :
    Meets Tryz.prog 119 [v, w] [(v, V p), (w, V q)] (fun r os fs => os = [] ∧ ∃ R, Nm R ∧ (∀ x, pev R x = pev (vv p) (pev (vv q) x)) ∧ fs = [(r, vd R)]) := by
  have hm1 : (p.length + 2) * (s + 2) = p.length * (s + 2) + 2 * (s + 2) := Nat.add_mul _ _ _
  have d1 := rDegreeN v p (hp.mono (by omega))
  have hdl : dg (vv p) ≤ p.length := Nat.le_trans (dg_le_len _) (by rw [vv_len]; exact Nat.le_refl _)
  have hst : ∀ i, i < p.length → ∀ y, pev ((vv p).take (i + 1)) y = pev ((vv p).take i) y + y ^ i * jv (p.getD i z0) := fun i hi y => by
    rw [ev_take_succ (by rw [vv_len]; exact hi), vv_get p i hi]
  have hfin := ev_take_dg (vv p)
  generalize dg (vv p) = n at *
  refine meets_of_vc Tryz.func119 (by kernel_rfl) rfl (by kernel_rfl) (Nat.le_of_ble_eq_true rfl) ?_
  refine empty_L (size := 2) (e := 26) J z0 (by decide) fun v0 hv0 => ?_
  refine call_fn (rOf_meets 1 (by decide) (by decide)) (Seals.refl _ _) qS ?_
  rintro y0 _ _ ⟨rfl, rfl⟩
  refine lit_L (size := 2) (f := J) (z := z0) (e := 26) (cn 1) (by decide) (Reads.fact qM) rfl fun y1 => ?_
  refine loop_rule (X := Nat × Value × Value × List Int × List Int) (fun x => ([(0, v), (1, w), (5, x.2.1), (6, x.2.2.1), (7, .int .i64 (x.1 : Nat))], [], [(v, V p), (w, V q), (x.2.1, vd x.2.2.2.1), (x.2.2.1, vd x.2.2.2.2)]))
    (fun x => x.1 ≤ n ∧ szR (k + 2 + x.1 * (s + 2)) x.2.2.2.1 ∧ szR (1 + x.1 * (s + 1)) x.2.2.2.2 ∧ x.2.2.2.1.length ≤ x.1 + 1 ∧ x.2.2.2.2.length ≤ x.1 + 1 ∧ (∀ y, pev x.2.2.2.1 y = pev ((vv p).take x.1) (pev (vv q) y)) ∧ ∀ y, pev x.2.2.2.2 y = pev (vv q) y ^ x.1) (fun x => n - x.1) rfl ?_ ?_
  · refine again (0, v0, y1, [], [1]) ⟨Nat.zero_le _, fun x hx => by simp at hx, szR_one _ (by simp), Nat.zero_le _, by simp, fun y => rfl, fun y => by simp [pev]⟩ trivial qF ?_
    exact Seals.trans (Seals.L (os := [ownL 2 J z0 v0 []]) 0 rfl hv0) (Seals.sub qS)
  · rintro ⟨i, va, vb, A, B⟩ ⟨g1, g2, g3, g4, g5, g6, g7⟩
    simp only at g1 g2 g3 g4 g5 g6 g7 ⊢
    have hmi : i * (s + 2) ≤ p.length * (s + 2) := Nat.mul_le_mul_right _ (by omega)
    have hmj : i * (s + 1) ≤ i * (s + 2) := Nat.mul_le_mul_left _ (by omega)
    refine call_fn (d1) (Seals.refl _ _) qS ?_
    rintro _ _ _ ⟨rfl, rfl, rfl⟩
    refine cmp_split _ rfl (fun hlt => ?_) (fun hlt => ?_)
    · have hin : i < p.length := by omega
      have hpi := hp.get i
      have sji : sz (jv (p.getD i z0)) k := sz_jv hpi.1 hpi.2
      have z1 := ptim_szR g3 sji
      have z2 : szR (k + 2 + (i + 1) * (s + 2)) (padd A (ptim (jv (p.getD i z0)) B)) := ((g2.mono (show k + 2 + i * (s + 2) ≤ k + 2 + i * (s + 2) by omega)).padd (z1.mono (show 1 + i * (s + 1) + k ≤ k + 2 + i * (s + 2) by omega))).mono (by rw [Nat.succ_mul]; omega)
      have z3 : szR (1 + (i + 1) * (s + 1)) (pmul B (vv q)) := (pmul_szR g3 hq.szR (by omega)).mono (by rw [Nat.succ_mul]; omega)
      have l1 := padd_len A (ptim (jv (p.getD i z0)) B)
      have l2 := ptim_len (jv (p.getD i z0)) B
      have l3 := pmul_len2 B (vv q) (by rw [vv_len]; exact lq)
      have c1 := fun u => rTimesJ vb u (B.map cn) (p.getD i z0) (1 + i * (s + 1) + k) ((g3.mono (by omega)).fit) hpi.1 (by omega) (by omega) (by rw [List.length_map]; omega)
      have c2 := fun u => rPAdd_meets va u (A.map cn) ((ptim (jv (p.getD i z0)) B).map cn) (k + 2 + i * (s + 2)) g2.fit (z1.mono (by omega)).fit (by omega) (by rw [List.length_map]; omega) (by rw [List.length_map]; omega)
      have c3 := rPMul_meets vb w (B.map cn) q (1 + i * (s + 1)) s g3.fit hq (by omega) (by rw [List.length_map]; omega) (by omega)
      simp only [vv_cn] at c1 c2 c3
      have e1 : ∀ y, pev (padd A (ptim (jv (p.getD i z0)) B)) y = pev ((vv p).take (i + 1)) (pev (vv q) y) := fun y => by
        rw [ev_padd, ev_ptim, g6, g7, hst i hin]; grind
      have e2 : ∀ y, pev (pmul B (vv q)) y = pev (vv q) y ^ (i + 1) := fun y => by rw [ev_pmul, g7, Int.pow_succ]
      generalize ptim (jv (p.getD i z0)) B = C at *
      generalize padd A C = D at *
      generalize pmul B (vv q) = E at *
      refine index_fact qM i rfl hin fun b1 => ?_
      refine load_fact (d := J (p.getD i z0)) qM (load_J _) fun y2 => ?_
      refine call_fn (c1 y2) (Seals.refl _ _) qS ?_
      rintro y3 _ _ ⟨rfl, rfl⟩
      refine call_fn (c2 y3) (Seals.refl _ _) qS ?_
      rintro y4 _ _ ⟨rfl, rfl⟩
      refine call_fn (c3) (Seals.refl _ _) qS ?_
      rintro y5 _ _ ⟨rfl, rfl⟩
      refine ar rfl qI ?_
      exact again (i + 1, y4, y5, D, E) ⟨by simp only; omega, z2, z3, by simp only; omega, by simp only; omega, e1, e2⟩ (by simp only; omega) qF (Seals.sub qS)
    · have hin : i = n := by omega
      subst hin
      have hn := rNormT va A (g2.mono (by omega)) (by omega)
      refine call_fn (hn) (Seals.refl _ _) qS ?_
      rintro r _ _ ⟨rfl, rfl⟩
      exact fin ⟨rfl, nrm A, Nm.nrm _, fun y => by rw [ev_nrm, g6, hfin], rfl⟩ (Seals.sub qS)
theorem rShiftJ (v w : Value) (p : Row) (aj : Bool × List Nat) (k b : Nat) (hp : Fit k p) (h1k : 1 ≤ k) (hal : Lim aj.2) (hab : aj.2.length ≤ b) (h1b : 1 ≤ b) (lp : p.length ≤ 1048576) (hk : 4 * (k + (p.length + 2) * (b + 2)) ≤ 137438953472) :
    Meets Tryz.prog 77 [v, w] [(v, V p), (w, J aj)] (fun r os fs => os = [] ∧ fs = [(r, vd (pshi (jv aj) (vv p)))]) := by
  have hq : Fit b [aj, cn 1] := fun x hx => by
    simp only [List.mem_cons, List.not_mem_nil, or_false] at hx
    rcases hx with rfl | rfl
    · exact ⟨hal, hab⟩
    · exact ⟨Lim_lims _, Nat.le_trans (sz.len (sz_one 1 (by decide))) h1b⟩
  have hput := fun u => rPut_meets v u p [aj, cn 1] k b hp hq h1k (by simp) lp hk
  have hev : ∀ x, pev (vv [aj, cn 1]) x = x + jv aj := fun x => by
    have : vv [aj, cn 1] = [jv aj, 1] := by show [jv aj, jv (cn 1)] = _; rw [jv_cn]
    rw [this]; simp [pev]; omega
  refine meets_of_vc Tryz.func77 (by kernel_rfl) rfl (by kernel_rfl) (Nat.le_of_ble_eq_true rfl) ?_
  refine box_fact (Reads.fact (d := J aj) qM) fun pa => ?_
  refine draw_rule [0, 1, 2, 3, 4, 5] [0, 1, 2, 3, 4, 5] (by kernel_rfl) (by kernel_rfl) ?_
  refine load_fact (d := J aj) qM (load_J _) fun y1 => ?_
  refine call_fn (rOf_meets 1 (by decide) (by decide)) (Seals.refl _ _) qS ?_
  rintro y2 _ _ ⟨rfl, rfl⟩
  refine lit2_L (size := 2) (f := J) (z := z0) (e := 26) aj (cn 1) (by decide) (Reads.fact qM) (Reads.fact qM) rfl rfl fun y3 => ?_
  refine call_fn (hput y3) (Seals.refl _ _) qS ?_
  rintro r _ _ ⟨rfl, R, nR, eR, rfl⟩
  have e : R = pshi (jv aj) (vv p) := nR.ext (pshi_nm _ _) fun x => by rw [eR, hev, ev_pshi]
  subst e
  exact fin ⟨rfl, rfl⟩ (Seals.sub qS)
theorem rStretchJ (v w : Value) (p : Row) (aj : Bool × List Nat) (k b : Nat) (hp : Fit k p) (h1k : 1 ≤ k) (hal : Lim aj.2) (hab : aj.2.length ≤ b) (lp : p.length ≤ 1048576) (hk : 4 * (k + (p.length + 2) * (b + 2)) ≤ 137438953472) :
    Meets Tryz.prog 79 [v, w] [(v, V p), (w, J aj)] (fun r os fs => os = [] ∧ fs = [(r, vd (pstr (jv aj) (vv p)))]) := by
  have hq : Fit b [z0, aj] := fun x hx => by
    simp only [List.mem_cons, List.not_mem_nil, or_false] at hx
    rcases hx with rfl | rfl
    · exact ⟨Lim.nil, Nat.zero_le _⟩
    · exact ⟨hal, hab⟩
  have hput := fun u => rPut_meets v u p [z0, aj] k b hp hq h1k (by simp) lp hk
  have hev : ∀ x, pev (vv [z0, aj]) x = jv aj * x := fun x => by
    have : vv [z0, aj] = [0, jv aj] := rfl
    rw [this]; simp [pev]; grind
  refine meets_of_vc Tryz.func79 (by kernel_rfl) rfl (by kernel_rfl) (Nat.le_of_ble_eq_true rfl) ?_
  refine box_fact (Reads.fact (d := J aj) qM) fun pa => ?_
  refine build0 (da := .one (.bool false)) (db := U (lims 0)) (fun S w => ⟨[.bool false], [.slice none 0 0], rfl, rd_false S w, by rw [lims_zero]; exact rd_nil S w 1 _⟩) fun y2 => ?_
  rw [zero_I]
  refine load_fact (d := J aj) qM (load_J _) fun y1 => ?_
  refine lit2_L (size := 2) (f := J) (z := z0) (e := 26) z0 aj (by decide) (Reads.fact qM) (Reads.fact qM) rfl rfl fun y3 => ?_
  refine call_fn (hput y3) (Seals.refl _ _) qS ?_
  rintro r _ _ ⟨rfl, R, nR, eR, rfl⟩
  have e : R = pstr (jv aj) (vv p) := nR.ext (pstr_nm _ _) fun x => by rw [eR, hev, ev_pstr]
  subst e
  exact fin ⟨rfl, rfl⟩ (Seals.sub qS)
theorem rDerive_meets (v : Value) (p : Row) (k : Nat) (hp : Fit k p) (hk : k + 1 ≤ 137438953472) (lp : p.length ≤ 536870912) :
    Meets Tryz.prog 74 [v] [(v, V p)] (fun r os fs => os = [] ∧ fs = [(r, vd (pder (vv p)))]) := by
  have d1 := rDegreeN v p (hp.mono (by omega))
  have hdl : dg (vv p) ≤ p.length := Nat.le_trans (dg_le_len _) (by rw [vv_len]; exact Nat.le_refl _)
  have hgi : ∀ i, i + 1 < p.length → ((i + 1 : Nat) : Int) * jv (p.getD (i + 1) z0) = (fun i => ((i + 1 : Nat) : Int) * (vv p).getD (i + 1) 0) i := fun i hi => by simp only; rw [vv_get p (i + 1) hi]
  have hsz : szR (k + 1) (lst (dg (vv p) - 1) fun i => ((i + 1 : Nat) : Int) * (vv p).getD (i + 1) 0) := szR.lst fun i hi => by
    have := (sz_nat (i := i + 1) (by omega)).mul (hp.szR.get (i + 1))
    rw [Nat.add_comm 1 k] at this; exact this
  have hn := fun u => rNormT u (lst (dg (vv p) - 1) fun i => ((i + 1 : Nat) : Int) * (vv p).getD (i + 1) 0) (hsz.mono hk) (by rw [lst_len]; omega)
  have hdef : pder (vv p) = nrm (lst (dg (vv p) - 1) fun i => ((i + 1 : Nat) : Int) * (vv p).getD (i + 1) 0) := by
    unfold pder
    refine nrm_ext fun i => ?_
    rw [lst_get', lst_get']
    by_cases h1 : i < dg (vv p) - 1
    · rw [if_pos h1, if_pos (by rw [vv_len]; omega)]
    · rw [if_neg h1]
      split
      · rw [dg_le.1 (Nat.le_refl (dg (vv p))) (i + 1) (by omega)]; simp
      · rfl
  rw [hdef]
  generalize hg : (fun i => ((i + 1 : Nat) : Int) * (vv p).getD (i + 1) 0) = g at *
  generalize dg (vv p) = n at *
  refine meets_of_vc Tryz.func74 (by kernel_rfl) rfl (by kernel_rfl) (Nat.le_of_ble_eq_true rfl) ?_
  refine empty_L (size := 2) (e := 26) J z0 (by decide) fun v0 hv0 => ?_
  refine loop_rule (X := Value × Nat) (fun x => ([(0, v), (3, x.1), (4, .int .i64 ((x.2 + 1 : Nat) : Int))], [ownL 2 J z0 x.1 ((lst x.2 g).map cn)], [(v, V p)])) (fun x => isSl x.1 ∧ x.2 ≤ n - 1) (fun x => n - x.2) rfl ?_ ?_
  · exact again (v0, 0) ⟨hv0, Nat.zero_le _⟩ trivial qF (Seals.sub qS)
  · rintro ⟨vo, i⟩ ⟨hvo, h2⟩
    simp only at hvo h2 ⊢
    refine call_fn (d1) (Seals.refl _ _) qS ?_
    rintro _ _ _ ⟨rfl, rfl, rfl⟩
    refine cmp_split _ rfl (fun hlt => ?_) (fun hlt => ?_)
    · have hin : i + 1 < p.length := by omega
      have hll : (lst i g).length = i := lst_len _ _
      have hpi := hp.get (i + 1)
      have hmul := fun u u' => rMulZJ u u' ((i + 1 : Nat) : Int) (p.getD (i + 1) z0) 1 (sz_nat (by omega)) (by decide) hpi.1 (by omega)
      rw [hgi i hin] at hmul
      refine draw_rule [0, 1, 3, 4, 5, 6, 2, 7, 8, 9, 10] [0, 1, 2, 3, 4, 5, 6, 7, 8, 9, 10] (by kernel_rfl) (by kernel_rfl) ?_
      refine index_fact qM (i + 1) rfl hin fun b1 => ?_
      refine load_fact (d := J (p.getD (i + 1) z0)) qM (load_J _) fun y2 => ?_
      refine call_fn (rOf_meets ((i + 1 : Nat) : Int) (by omega) (by omega)) (Seals.refl _ _) qS ?_
      rintro y1 _ _ ⟨rfl, rfl⟩
      refine call_fn (hmul y1 y2) (Seals.refl _ _) qS ?_
      rintro y3 _ _ ⟨rfl, rfl⟩
      refine lit_L (size := 2) (f := J) (z := z0) (e := 26) (cn (g i)) (by decide) (Reads.fact qM) rfl fun y4 => ?_
      refine append_L (size := 2) (e := 26) (f := J) (z := z0) (l := (lst i g).map cn) (m := [cn (g i)]) 0 rfl hvo (Knw.fact qM) (by simp only [List.length_map, hll, List.length_cons, List.length_nil]; omega) (by simp only [List.length_map, hll, List.length_cons, List.length_nil]; omega) fun vn hvn => ?_
      refine ar rfl qI ?_
      refine again (vn, i + 1) ⟨hvn, by simp only; omega⟩ (by simp only; omega) qF ?_
      rw [show (lst i g).map cn ++ [cn (g i)] = (lst (i + 1) g).map cn by rw [lst_snoc, List.map_append]; rfl]
      exact Seals.sub qS
    · have hii : i = n - 1 := by omega
      subst hii
      refine call_fn (hn vo) (Seals.toldL hvo) qS ?_
      rintro r _ _ ⟨rfl, rfl⟩
      exact fin ⟨rfl, rfl⟩ (Seals.sub qS)
open Go.RowKit
theorem ld_none {l : List Int} (h : dg l = 0) : ld l = 0 := by unfold ld; rw [dg_le.1 (Nat.le_of_eq h) _ (Nat.zero_le _)]
theorem rLead_meets (v : Value) (p : Row) (hp : Fit 1099511627776 p) :
    Meets Tryz.prog 110 [v] [(v, V p)] (fun r os fs => os = [] ∧ fs = [(r, zd (ld (vv p)))]) := by
  have d1 := rDegreeN v p hp
  have hat := rAt_meets v p ((dg (vv p) : Nat) - 1 : Int) hp
  have e : (if ((dg (vv p) : Nat) - 1 : Int) < 0 then 0 else (vv p).getD ((dg (vv p) : Nat) - 1 : Int).toNat 0) = ld (vv p) := by
    by_cases h : dg (vv p) = 0
    · rw [if_pos (by omega), ld_none h]
    · rw [if_neg (by omega), show ((dg (vv p) : Nat) - 1 : Int).toNat = dg (vv p) - 1 by omega]; rfl
  rw [e] at hat
  generalize ld (vv p) = x at *
  refine meets_of_vc Tryz.func110 (by kernel_rfl) rfl (by kernel_rfl) (Nat.le_of_ble_eq_true rfl) ?_
  refine alloc_rule (d := I false []) fun o ho => ?_
  refine call_fn (d1) (Seals.refl _ _) qS ?_
  rintro _ _ _ ⟨rfl, rfl, rfl⟩
  refine call_fn (hat) (Seals.refl _ _) qS ?_
  rintro y1 _ _ ⟨rfl, rfl⟩
  refine store_box (d := zd x) 0 rfl ho rfl (by kernel_rfl) ?_ ?_; exact Reads.fact qM
  refine load_box (d := zd x) 0 rfl ho rfl (load_I _ _) fun r => ?_
  exact fin ⟨rfl, rfl⟩ (Seals.trans (Seals.drop 0 _ _) (Seals.sub qS))
theorem rLeadT (v : Value) (l : List Int) {k : Nat} (hl : szR k l) (hk : k ≤ 1099511627776) :
    Meets Tryz.prog 110 [v] [(v, vd l)] (fun r os fs => os = [] ∧ fs = [(r, zd (ld l))]) := by
  have := rLead_meets v (l.map cn) (hl.mono hk).fit
  rw [vv_cn] at this; exact this
theorem rDegreeT (v : Value) (l : List Int) {k : Nat} (hl : szR k l) (hk : k ≤ 1099511627776) :
    Meets Tryz.prog 31 [v] [(v, vd l)] (fun r os fs => os = [] ∧ fs = [] ∧ r = .int .i64 ((dg l : Nat) - 1 : Int)) := by
  have := rDegreeN v (l.map cn) (hl.mono hk).fit
  rw [vv_cn] at this; exact this
theorem rTerm_meets (v : Value) (c : Int) (s : Nat) (ls : s ≤ 1048576) :
    Meets Tryz.prog 130 [v, .int .i64 (s : Nat)] [(v, zd c)] (fun r os fs => os = [] ∧ fs = [(r, vd (up s [c]))]) := by
  refine meets_of_vc Tryz.func130 (by kernel_rfl) rfl (by kernel_rfl) (Nat.le_of_ble_eq_true rfl) ?_
  refine box_fact (Reads.fact (d := zd c) qM) fun pc => ?_
  refine empty_L (size := 2) (e := 26) J z0 (by decide) fun v0 hv0 => ?_
  refine loop_rule (X := Value × Nat) (fun x => ([(1, .int .i64 (s : Nat)), (2, pc), (5, x.1), (6, .int .i64 (x.2 : Nat))], [ownL 2 J z0 x.1 ((List.replicate x.2 (0 : Int)).map cn)], [(pc, .ptr (zd c))])) (fun x => isSl x.1 ∧ x.2 ≤ s) (fun x => s - x.2) rfl ?_ ?_
  · exact again (v0, 0) ⟨hv0, Nat.zero_le _⟩ trivial qF (Seals.sub qS)
  · rintro ⟨vo, i⟩ ⟨hvo, h2⟩
    simp only at hvo h2 ⊢
    have hll : (List.replicate i (0 : Int)).length = i := List.length_replicate
    refine cmp_split _ rfl (fun hlt => ?_) (fun hlt => ?_)
    · refine build0 (da := .one (.bool false)) (db := U (lims 0)) (fun S w => ⟨[.bool false], [.slice none 0 0], rfl, rd_false S w, by rw [lims_zero]; exact rd_nil S w 1 _⟩) fun y2 => ?_
      refine lit_L (size := 2) (f := J) (z := z0) (e := 26) (cn 0) (by decide) (Reads.fact qM) rfl fun y4 => ?_
      refine append_L (size := 2) (e := 26) (f := J) (z := z0) (l := (List.replicate i (0 : Int)).map cn) (m := [cn 0]) 0 rfl hvo (Knw.fact qM) (by simp only [List.length_map, hll, List.length_cons, List.length_nil]; omega) (by simp only [List.length_map, hll, List.length_cons, List.length_nil]; omega) fun vn hvn => ?_
      refine ar rfl qI ?_
      refine again (vn, i + 1) ⟨hvn, by simp only; omega⟩ (by simp only; omega) qF ?_
      rw [show (List.replicate i (0 : Int)).map cn ++ [cn 0] = (List.replicate (i + 1) (0 : Int)).map cn by rw [List.replicate_succ', List.map_append]; rfl]
      exact Seals.sub qS
    · have hii : i = s := by omega
      subst hii
      refine load_fact (d := zd c) qM (load_I _ _) fun y1 => ?_
      refine lit_L (size := 2) (f := J) (z := z0) (e := 26) (cn c) (by decide) (Reads.fact qM) rfl fun y4 => ?_
      refine append_L (size := 2) (e := 26) (f := J) (z := z0) (l := (List.replicate i (0 : Int)).map cn) (m := [cn c]) 0 rfl hvo (Knw.fact qM) (by simp only [List.length_map, hll, List.length_cons, List.length_nil]; omega) (by simp only [List.length_map, hll, List.length_cons, List.length_nil]; omega) fun vn hvn => ?_
      refine fin ⟨rfl, rfl⟩ ?_
      rw [show (List.replicate i (0 : Int)).map cn ++ [cn c] = (up i [c]).map cn by unfold up; rw [List.map_append]; rfl]
      exact Seals.trans (Seals.toldL hvn) (Seals.sub qS)
theorem lead_div {q T R T' R' : List Int} (e : ∀ x, pev q x * pev T x + pev R x = pev q x * pev T' x + pev R' x) (h1 : dg q ≤ dg R) (h2 : dg R' < dg q) : ld q ∣ ld R := by
  have hd : dg (psub R R') = dg R := by
    refine Nat.le_antisymm (dg_le.2 fun i hi => ?_) ?_
    · rw [co_psub, dg_le.1 (Nat.le_refl (dg R)) i (by omega), dg_le.1 (Nat.le_refl (dg R')) i (by omega)]; rfl
    · refine Nat.not_lt.1 fun h => ?_
      have h3 := dg_le.1 (show dg (psub R R') ≤ dg R - 1 by omega) (dg R - 1) (Nat.le_refl _)
      rw [co_psub, dg_le.1 (Nat.le_refl (dg R')) (dg R - 1) (by omega)] at h3
      have h4 := ld_ne (l := R) (by omega)
      unfold ld at h4
      omega
  have hl : ld (psub R R') = ld R := by
    unfold ld
    rw [hd, co_psub, dg_le.1 (Nat.le_refl (dg R')) (dg R - 1) (by omega)]; omega
  rw [← hl]
  refine ld_dvd ⟨psub T' T, fun x => ?_⟩ (by omega)
  have := e x
  rw [ev_psub, ev_psub, Int.mul_sub]; omega
structure PartSpec (p q T R : List Int) (ok : Bool) : Prop where
  yes : ok = true → Nm T ∧ Nm R ∧ dg R < dg q ∧ ∀ x, pev p x = pev q x * pev T x + pev R x
  no : ok = false → T = [] ∧ R = [] ∧ ¬ ∃ T' R' : List Int, dg R' < dg q ∧ ∀ x, pev p x = pev q x * pev T' x + pev R' x
def pks (k l j : Nat) : Nat := k + j * (l + 2)
theorem pks_succ (k l j : Nat) : pks k l (j + 1) = pks k l j + l + 2 := by unfold pks; rw [Nat.succ_mul]; omega
theorem pks_mono (k l : Nat) {i j : Nat} (h : i ≤ j) : pks k l i ≤ pks k l j := Nat.add_le_add_left (Nat.mul_le_mul_right _ h) _
theorem rParts_meets (v w : Value) (p q : Row) (k l : Nat) (hp : Fit k p) (hq : Fit l q) (h0 : 0 < dg (vv q)) (h1l : 1 ≤ l) (hlk : l ≤ k) (lp : p.length ≤ 1048576) (lq : q.length ≤ 1048576) (hk : 2 * pks k l (p.length + 2) ≤ 34359738368) :
    Meets Tryz.prog 113 [v, w] [(v, V p), (w, V q)] (fun r os fs => os = [] ∧ ∃ a b T R ok, r = .tuple #[a, b, .bool ok] ∧ PartSpec (vv p) (vv q) T R ok ∧ szR (pks k l (p.length + 2)) T ∧ szR (pks k l (p.length + 2)) R ∧ T.length ≤ p.length ∧ R.length ≤ p.length ∧ fs = [(a, vd T), (b, vd R)]) := by
  have hkk : k ≤ pks k l (p.length + 2) := by unfold pks; omega
  have n1 := rNormP_meets v p (hp.mono (by omega)) (by omega)
  have d2 := rDegreeN w q (hq.mono (by omega))
  have c2 := rLead_meets w q (hq.mono (by omega))
  have sld : sz (ld (vv q)) l := hq.szR.get _
  have hldq := ld_ne h0
  have la : (nrm (vv p)).length ≤ p.length := Nat.le_trans (nrm_length_le _) (by rw [vv_len]; exact Nat.le_refl _)
  have sA := hp.szR.nrm
  have nA : Nm (nrm (vv p)) := nrm_nrm _
  have eA : ∀ x, pev (nrm (vv p)) x = pev (vv p) x := ev_nrm _
  refine meets_of_vc Tryz.func113 (by kernel_rfl) rfl (by kernel_rfl) (Nat.le_of_ble_eq_true rfl) ?_
  refine empty_L (size := 2) (e := 26) J z0 (by decide) fun v0 hv0 => ?_
  refine call_fn (n1) (Seals.refl _ _) qS ?_
  rintro x1 _ _ ⟨rfl, rfl⟩
  generalize nrm (vv p) = A at *
  refine loop_rule (X := Nat × Value × Value × List Int × List Int) (fun x => ([(0, v), (1, w), (7, x.2.1), (8, x.2.2.1)], [], [(v, V p), (w, V q), (x.2.1, vd x.2.2.2.1), (x.2.2.1, vd x.2.2.2.2)]))
    (fun x => Nm x.2.2.2.1 ∧ Nm x.2.2.2.2 ∧ x.2.2.2.2.length + x.1 ≤ A.length ∧ szR (pks k l x.1) x.2.2.2.1 ∧ szR (pks k l x.1) x.2.2.2.2 ∧ x.2.2.2.1.length ≤ p.length ∧ ∀ y, pev (vv p) y = pev (vv q) y * pev x.2.2.2.1 y + pev x.2.2.2.2 y) (fun x => x.2.2.2.2.length) rfl ?_ ?_
  · refine again (0, v0, x1, [], A) ⟨rfl, nA, Nat.le_refl _, fun x hx => by simp at hx, sA.mono (by unfold pks; omega), Nat.zero_le _, fun y => by simp only [pev]; rw [eA]; omega⟩ trivial qF ?_
    exact Seals.trans (Seals.L (os := [ownL 2 J z0 v0 []]) 0 rfl hv0) (Seals.sub qS)
  · rintro ⟨j, va, vb, T, R⟩ ⟨g1, g2, g3, g4, g5, g6, g7⟩
    simp only at g1 g2 g3 g4 g5 g6 g7 ⊢
    have dR := dg_nm g2
    have hjn : pks k l (j + 1 + 1) ≤ pks k l (p.length + 2) := pks_mono k l (by omega)
    have hj1 := pks_succ k l j
    have hj2 := pks_succ k l (j + 1)
    refine call_fn (rDegreeT vb R g5 (by omega)) (Seals.refl _ _) qS ?_
    rintro _ _ _ ⟨rfl, rfl, rfl⟩
    refine call_fn (d2) (Seals.refl _ _) qS ?_
    rintro _ _ _ ⟨rfl, rfl, rfl⟩
    refine cmp_split _ rfl (fun hge => ?_) (fun hge => ?_)
    · have hR : dg (vv q) ≤ dg R := by omega
      have slR : sz (ld R) (pks k l j) := g5.get _
      have slk : sz (ld (vv q)) (pks k l j) := sld.mono (by unfold pks; omega)
      have sc : sz (ld R / ld (vv q)) (pks k l j) := sz_div slR
      have sr : sz (ld R % ld (vv q)) (pks k l j) := by
        have a1 := Int.emod_nonneg (ld R) hldq
        have a2 := Int.emod_lt (ld R) hldq
        unfold sz at slk ⊢; omega
      have hs : ((dg R - dg (vv q) : Nat) : Int) = ((dg R : Nat) - 1 : Int) - ((dg (vv q) : Nat) - 1 : Int) := by omega
      have c3 := fun u => rTerm_meets u (ld R / ld (vv q)) (dg R - dg (vv q)) (by omega)
      rw [hs] at c3
      have sx : szR (pks k l j) (up (dg R - dg (vv q)) [ld R / ld (vv q)]) := fun x hx => by
        unfold up at hx
        rcases List.mem_append.1 hx with hx | hx
        · rw [List.eq_of_mem_replicate hx]; exact sz_zero _
        · rw [List.mem_singleton.1 hx]; exact sc
      have lx : (up (dg R - dg (vv q)) [ld R / ld (vv q)]).length = dg R - dg (vv q) + 1 := by rw [up_len]; rfl
      have ex : ∀ x, pev (up (dg R - dg (vv q)) [ld R / ld (vv q)]) x = x ^ (dg R - dg (vv q)) * (ld R / ld (vv q)) := fun x => by rw [ev_up]; simp [pev]
      have hdivs : ld R % ld (vv q) = 0 → dg (psub R (pmul (up (dg R - dg (vv q)) [ld R / ld (vv q)]) (vv q))) < dg R := fun h => by
        have := div_dg (R := R) (D := vv q) (c := ld R / ld (vv q)) h0 hR (Int.ediv_mul_cancel (Int.dvd_of_emod_eq_zero h))
        rw [dg_ext (m := psub R (prai (ld R / ld (vv q)) (dg R - dg (vv q)) (vv q))) fun x => by rw [ev_psub, ev_psub, ev_pmul, ex, ev_prai]; grind]
        exact this
      have hno : ld R % ld (vv q) ≠ 0 → ¬ ∃ T' R' : List Int, dg R' < dg (vv q) ∧ ∀ x, pev (vv p) x = pev (vv q) x * pev T' x + pev R' x := fun h ⟨T', R', h1, h2⟩ =>
        h (Int.emod_eq_zero_of_dvd (lead_div (T := T) (T' := T') (fun x => by rw [← g7, h2]) hR h1))
      generalize hX : up (dg R - dg (vv q)) [ld R / ld (vv q)] = X at *
      have sm : szR (pks k l j + l + 1) (pmul X (vv q)) := pmul_szR sx hq.szR (by omega)
      have lm : (pmul X (vv q)).length ≤ X.length + q.length := by
        have a1 := dg_le_len X
        have a2 : dg (vv q) ≤ q.length := Nat.le_trans (dg_le_len _) (by rw [vv_len]; exact Nat.le_refl _)
        by_cases h1 : 0 < dg X
        · have := (pmul_dg h1 h0).1
          rw [dg_nm (pmul_nm _ _)] at this
          omega
        · have : pmul X (vv q) = [] := (pmul_nm _ _).ext Nm.nil fun x => by rw [ev_pmul, dg_zero.1 (show dg X = 0 by omega)]; simp [pev]
          rw [this]; exact Nat.zero_le _
      have c4 := fun u => rPAdd_meets va u (T.map cn) (X.map cn) (pks k l j) g4.fit sx.fit (by omega) (by rw [List.length_map]; omega) (by rw [List.length_map]; omega)
      have c5 := fun u => rPMul_meets u w (X.map cn) q (pks k l j) l sx.fit hq (by omega) (by rw [List.length_map]; omega) (by omega)
      have c6 := fun u => rPSub_meets vb u (R.map cn) ((pmul X (vv q)).map cn) (pks k l j + l + 1) (g5.mono (by omega)).fit sm.fit (by omega) (by omega) (by rw [List.length_map]; omega) (by rw [List.length_map]; omega)
      simp only [vv_cn] at c4 c5 c6
      have z1 : szR (pks k l (j + 1)) (padd T X) := (g4.padd sx).mono (by omega)
      have z2 : szR (pks k l (j + 1)) (psub R (pmul X (vv q))) := ((g5.mono (show pks k l j ≤ pks k l j + l + 1 by omega)).psub sm).mono (by omega)
      have lT := padd_len T X
      have e7 : ∀ y, pev (vv p) y = pev (vv q) y * pev (padd T X) y + pev (psub R (pmul X (vv q))) y := fun y => by
        rw [ev_padd, ev_psub, ev_pmul, g7]; grind
      have nT : Nm (padd T X) := padd_nm _ _
      have nR : Nm (psub R (pmul X (vv q))) := psub_nm _ _
      have dR2 := dg_nm nR
      generalize padd T X = T2 at *
      generalize psub R (pmul X (vv q)) = R2 at *
      refine call_fn (rLeadT vb R g5 (by omega)) (Seals.refl _ _) qS ?_
      rintro y1 _ _ ⟨rfl, rfl⟩
      refine call_fn (c2) (Seals.refl _ _) qS ?_
      rintro y2 _ _ ⟨rfl, rfl⟩
      refine call_fn (rDivModZ y1 y2 (ld R) (ld (vv q)) (pks k l j) slR slk (by omega) hldq) (Seals.refl _ _) qS ?_
      rintro _ _ _ ⟨rfl, y3, y4, rfl, rfl⟩
      refine alloc_rule (d := I false []) fun bc hc => ?_
      refine alloc_rule (d := I false []) fun bm hm => ?_
      refine store_box (d := zd (ld R / ld (vv q))) 1 rfl hc rfl (by kernel_rfl) ?_ ?_; exact Reads.fact qM
      refine store_box (d := zd (ld R % ld (vv q))) 0 rfl hm rfl (by kernel_rfl) ?_ ?_; exact Reads.fact qM
      refine load_box (d := zd (ld R % ld (vv q))) 0 rfl hm rfl (load_I _ _) fun y5 => ?_
      have hz := zero_meets y5 (cn (ld R % ld (vv q))) (Lim_lims _) (Nat.le_trans sr.len (by omega))
      rw [jv_cn] at hz
      by_cases hr0 : ld R % ld (vv q) = 0
      · rw [decide_eq_true hr0] at hz
        refine call_fn (hz) (Seals.refl _ _) qS ?_
        rintro _ _ _ ⟨rfl, rfl, rfl⟩
        have hlt := hdivs hr0
        refine draw_rule [0, 1, 3, 2, 4, 5, 6, 7] [0, 1, 2, 3, 4, 5, 6, 7] (by kernel_rfl) (by kernel_rfl) ?_
        refine load_box (d := zd (ld R / ld (vv q))) 1 rfl hc rfl (load_I _ _) fun y6 => ?_
        refine call_fn (rDegreeT vb R g5 (by omega)) (Seals.refl _ _) qS ?_
        rintro _ _ _ ⟨rfl, rfl, rfl⟩
        refine call_fn (d2) (Seals.refl _ _) qS ?_
        rintro _ _ _ ⟨rfl, rfl, rfl⟩
        refine ar rfl qI ?_
        refine call_fn (c3 y6) (Seals.refl _ _) qS ?_
        rintro y7 _ _ ⟨rfl, rfl⟩
        refine call_fn (c4 y7) (Seals.refl _ _) qS ?_
        rintro y8 _ _ ⟨rfl, rfl⟩
        refine call_fn (c5 y7) (Seals.refl _ _) qS ?_
        rintro y9 _ _ ⟨rfl, rfl⟩
        refine call_fn (c6 y9) (Seals.refl _ _) qS ?_
        rintro y10 _ _ ⟨rfl, rfl⟩
        exact again (j + 1, y8, y10, T2, R2) ⟨nT, nR, by simp only; omega, z1, z2, by simp only; omega, e7⟩ (by simp only; omega) qF (Seals.trans (Seals.drop 0 _ _) (Seals.trans (Seals.drop 0 _ _) (Seals.sub qS)))
      · rw [decide_eq_false hr0] at hz
        refine call_fn (hz) (Seals.refl _ _) qS ?_
        rintro _ _ _ ⟨rfl, rfl, rfl⟩
        exact fin ⟨rfl, _, _, [], [], false, rfl, ⟨fun h => by simp at h, fun _ => ⟨rfl, rfl, hno hr0⟩⟩, fun x hx => by simp at hx, fun x hx => by simp at hx, Nat.zero_le _, Nat.zero_le _, rfl⟩ (Seals.trans (Seals.drop 0 _ _) (Seals.trans (Seals.drop 0 _ _) (Seals.cons (Knw.nil 2 _) (Seals.cons (Knw.nil 2 _) (Seals.nil _ _)))))
    · have hn := rNormT va T (g4.mono (by omega)) (by omega)
      refine call_fn (hn) (Seals.refl _ _) qS ?_
      rintro y1 _ _ ⟨rfl, rfl⟩
      have e : nrm T = T := g1
      rw [e]
      exact fin ⟨rfl, y1, vb, T, R, true, rfl, ⟨fun _ => ⟨g1, g2, by omega, g7⟩, fun h => by simp at h⟩, g4.mono (by omega), g5.mono (by omega), g6, by omega, rfl⟩ (Seals.sub qS)
open Go.RowKit
structure Lk (A : Row) (l : List Int) (k n : Nat) : Prop where
  val : vv A = l
  fit : Fit k A
  len : A.length ≤ n
theorem Lk.told {l : List Int} {k n : Nat} (h : szR k l) (hn : l.length ≤ n) : Lk (l.map cn) l k n := ⟨vv_cn l, h.fit, by rw [List.length_map]; exact hn⟩
theorem Lk.sz {A : Row} {l : List Int} {k n : Nat} (h : Lk A l k n) : szR k l := by rw [← h.val]; exact h.fit.szR
theorem Lk.ll {A : Row} {l : List Int} {k n : Nat} (h : Lk A l k n) : l.length ≤ n := by rw [← h.val, vv_len]; exact h.len
theorem Lk.mono {A : Row} {l : List Int} {k n k' n' : Nat} (h : Lk A l k n) (hk : k ≤ k') (hn : n ≤ n') : Lk A l k' n' := ⟨h.val, h.fit.mono hk, Nat.le_trans h.len hn⟩
theorem pmul_len (l m : List Int) : (pmul l m).length ≤ l.length + m.length := by
  by_cases h1 : 0 < dg l
  · by_cases h2 : 0 < dg m
    · have := (pmul_dg h1 h2).1
      rw [dg_nm (pmul_nm l m)] at this
      have a1 := dg_le_len l
      have a2 := dg_le_len m
      omega
    · have : pmul l m = [] := (pmul_nm l m).ext Nm.nil fun x => by rw [ev_pmul, dg_zero.1 (show dg m = 0 by omega)]; simp [pev]
      rw [this]; exact Nat.zero_le _
  · have : pmul l m = [] := (pmul_nm l m).ext Nm.nil fun x => by rw [ev_pmul, dg_zero.1 (show dg l = 0 by omega)]; simp [pev]
    rw [this]; exact Nat.zero_le _
theorem szR.pmul {k j : Nat} {l m : List Int} (h : szR k l) (h' : szR j m) (hl : l.length < 18446744073709551616) : szR (k + j + 1) (pmul l m) := by
  have hn : (Go.Proofs.YtgpcepcbdpigfaaGreat.nrm l).length ≤ l.length := nrm_length_le l
  unfold Go.Proofs.YtgpcepcbdpigfaaGreat.pmul
  simp only
  split
  · exact fun x hx => by simp at hx
  · exact szR.nrm (szR.lst fun i _ => conv_sz h.nrm h'.nrm (by omega) i)
section
variable {A B : Row} {l m : List Int} {k j n n' : Nat}
theorem Lk.nrm (h : Lk A l k n) : Lk ((nrm l).map cn) (Go.Proofs.YtgpcepcbdpigfaaGreat.nrm l) k n := Lk.told h.sz.nrm (Nat.le_trans (nrm_length_le _) h.ll)
theorem Lk.add (h : Lk A l k n) (h' : Lk B m k n) : Lk ((padd l m).map cn) (padd l m) (k + 1) n := Lk.told (h.sz.padd h'.sz) (Nat.le_trans (padd_len _ _) (Nat.max_le.2 ⟨h.ll, h'.ll⟩))
theorem Lk.sub (h : Lk A l k n) (h' : Lk B m k n) : Lk ((psub l m).map cn) (psub l m) (k + 1) n := Lk.told (h.sz.psub h'.sz) (Nat.le_trans (psub_len _ _) (Nat.max_le.2 ⟨h.ll, h'.ll⟩))
theorem Lk.mul (h : Lk A l k n) (h' : Lk B m j n') (hn : n < 1073741824) : Lk ((pmul l m).map cn) (pmul l m) (k + j + 1) (n + n') := Lk.told (h.sz.pmul h'.sz (by have := h.ll; omega)) (by have := pmul_len l m; have := h.ll; have := h'.ll; omega)
theorem pshi_len (a : Int) (l : List Int) : (pshi a l).length ≤ l.length := by
  induction l with
  | nil => exact Nat.le_refl _
  | cons c l ih =>
    have h1 : pshi a (c :: l) = padd [c] (pmul [a, 1] (pshi a l)) := rfl
    rw [h1]
    have h2 := padd_len [c] (pmul [a, 1] (pshi a l))
    by_cases h0 : 0 < dg (pshi a l)
    · have h3 := (pmul_dg (a := [a, 1]) (b := pshi a l) (by show 0 < dg [a, 1]; simp [dg, nrm]) h0).1
      rw [dg_nm (pmul_nm _ _), dg_nm (pshi_nm a l)] at h3
      have h4 : dg [a, 1] ≤ 2 := dg_le_len _
      simp only [List.length_cons, List.length_nil] at h2 ⊢
      omega
    · have h3 : pmul [a, 1] (pshi a l) = [] := (pmul_nm _ _).ext Nm.nil fun x => by rw [ev_pmul, dg_zero.1 (show dg (pshi a l) = 0 by omega)]; simp [pev]
      rw [h3] at h2 ⊢
      simp only [List.length_cons, List.length_nil] at h2 ⊢
      omega
theorem pshi_sz {a : Int} (hk : szR k l) (ha : sz a j) (hl : l.length ≤ 1000000) : szR (k + l.length * (j + 3)) (pshi a l) := by
  induction l with
  | nil => exact fun x hx => by simp [pshi] at hx
  | cons c l ih =>
    have h1 : pshi a (c :: l) = padd [c] (pmul [a, 1] (pshi a l)) := rfl
    rw [h1]
    have i1 := ih (fun x hx => hk x (by simp [hx])) (by simp only [List.length_cons] at hl; omega)
    have i2 : szR (j + 1) [a, 1] := fun x hx => by
      simp only [List.mem_cons, List.not_mem_nil, or_false] at hx
      rcases hx with rfl | rfl
      · exact ha.mono (by omega)
      · exact (sz_one 1 (by decide)).mono (by omega)
    have i3 := i2.pmul i1 (by simp)
    have i4 : szR (j + 1 + (k + l.length * (j + 3)) + 1) [c] := fun x hx => by
      rw [List.mem_singleton.1 hx]; exact (hk c (by simp)).mono (by omega)
    refine (i4.padd i3).mono ?_
    rw [List.length_cons, Nat.succ_mul]; omega
theorem Lk.shi {a : Int} (h : Lk A l k n) (ha : Go.Proofs.YtgpcepcbdpigfaaGreat.sz a j) (hn : n ≤ 1000000) : Lk ((pshi a l).map cn) (pshi a l) (k + n * (j + 3)) n :=
  Lk.told ((pshi_sz h.sz ha (by have := h.ll; omega)).mono (by
    have : l.length * (j + 3) ≤ n * (j + 3) := Nat.mul_le_mul_right _ h.ll
    omega)) (Nat.le_trans (pshi_len a l) h.ll)
theorem Lk.str {a : Int} (h : Lk A l k n) (ha : Go.Proofs.YtgpcepcbdpigfaaGreat.sz a j) : Lk ((pstr a l).map cn) (pstr a l) (k + (n * j + 1)) n := by
  have hl : (Go.Proofs.YtgpcepcbdpigfaaGreat.nrm l).length ≤ n := Nat.le_trans (nrm_length_le _) h.ll
  refine Lk.told (szR.nrm (szR.lst fun i hi => (h.sz.nrm.get i).mul ((sz_pow ha i).mono ?_))) (Nat.le_trans (nrm_length_le _) (by rw [lst_len]; exact hl))
  have : i * j ≤ n * j := Nat.mul_le_mul_right _ (by omega)
  omega
end
open Go.RowKit
theorem rfSign_meets (v w : Value) (p : Row) (x : Bool × List Nat) (k a : Nat) (hp : Fit k p) (hxl : Lim x.2) (hxa : x.2.length ≤ a) (hk : k + (p.length + 2) * (a + 1) ≤ 137438953472) (lp : p.length ≤ 1048576) :
    Meets Tryz.prog 14 [v, w] [(v, V p), (w, J x)] (fun r os fs => os = [] ∧ fs = [] ∧ r = .int .i64 (pev (vv p) (jv x)).sign) := by
  have hv := fun y => rValueJ v y p x k a hp hxl hxa hk lp
  have hsz : sz (pev (vv p) (jv x)) 137438953472 := (ev_sz hp.szR (sz_jv hxl hxa)).mono (by
    rw [vv_len]
    rw [Nat.add_mul] at hk
    have : p.length * (a + 1) = p.length * (a + 1) := rfl
    omega)
  have hs := fun y => rSignZ y (pev (vv p) (jv x)) 137438953472 hsz (by decide)
  generalize pev (vv p) (jv x) = z at *
  refine meets_of_vc Tryz.func14 (by kernel_rfl) rfl (by kernel_rfl) (Nat.le_of_ble_eq_true rfl) ?_
  refine box_rule (Reads.fact (d := J x) qM) fun lb hlb => ?_
  refine load_box (d := J x) 0 rfl hlb rfl (load_J _) fun y1 => ?_
  refine call_fn (hv y1) (Seals.refl _ _) qS ?_
  rintro y2 _ _ ⟨rfl, rfl⟩
  refine call_fn (hs y2) (Seals.refl _ _) qS ?_
  rintro _ _ _ ⟨rfl, rfl, rfl⟩
  exact fin ⟨rfl, rfl, rfl⟩ (Seals.trans (Seals.drop 0 _ _) (Seals.nil _ _))
theorem rev_lst (l : List Int) : lst l.length (fun i => l.getD (l.length - 1 - i) 0) = l.reverse := by
  refine List.ext_getElem (by rw [lst_len, List.length_reverse]) fun i h1 h2 => ?_
  have hi : i < l.length := by rwa [List.length_reverse] at h2
  have e1 : (lst l.length fun i => l.getD (l.length - 1 - i) 0)[i] = (lst l.length fun i => l.getD (l.length - 1 - i) 0).getD i 0 := by rw [List.getD_eq_getElem?_getD, List.getElem?_eq_getElem h1]; rfl
  rw [e1, lst_get hi, List.getElem_reverse, List.getD_eq_getElem?_getD, List.getElem?_eq_getElem (by omega)]; rfl
theorem turned_meets (v : Value) (l : List Int) (k : Nat) (hl : szR k l) (hk : k ≤ 137438953472) (h0 : 0 < l.length) (ln : l.length ≤ 1000) :
    Meets Tryz.prog 117 [v, .int .i64 ((l.length : Int) - 1)] [(v, vd l)] (fun r os fs => os = [] ∧ fs = [(r, vd l.reverse)]) := by
  have hat : ∀ i : Nat, Meets Tryz.prog 78 [v, .int .i64 (i : Nat)] [(v, vd l)] (fun r os fs => os = [] ∧ fs = [(r, zd (l.getD i 0))]) := fun i => by
    have := rAtN v (l.map cn) (hl.fit.mono (by omega)) i
    rw [vv_cn] at this
    exact this
  refine meets_of_vc Tryz.func117 (by kernel_rfl) rfl (by kernel_rfl) (Nat.le_of_ble_eq_true rfl) ?_
  refine empty_L (size := 2) (e := 26) J z0 (by decide) fun v0 hv0 => ?_
  refine loop_rule (X := Value × Nat) (fun x => ([(0, v), (5, x.1), (6, .int .i64 ((l.length : Int) - 1 - (x.2 : Nat)))], [ownL 2 J z0 x.1 ((lst x.2 fun i => l.getD (l.length - 1 - i) 0).map cn)], [(v, vd l)])) (fun x => isSl x.1 ∧ x.2 ≤ l.length) (fun x => l.length - x.2) rfl ?_ ?_
  · exact again (v0, 0) ⟨hv0, Nat.zero_le _⟩ trivial qF (Seals.sub qS)
  rintro ⟨vo, i⟩ ⟨hvo, h2⟩
  simp only at hvo h2 ⊢
  refine cmp_split _ rfl (fun hlt => ?_) (fun hlt => ?_)
  · have hin : i < l.length := by omega
    have hll : (lst i fun i => l.getD (l.length - 1 - i) 0).length = i := lst_len _ _
    have e1 : ((l.length : Int) - 1 - (i : Nat)) = ((l.length - 1 - i : Nat) : Int) := by omega
    have hat' := hat (l.length - 1 - i)
    rw [← e1] at hat'
    refine call_fn hat' (Seals.refl _ _) qS ?_
    rintro y _ _ ⟨rfl, rfl⟩
    refine lit_L (size := 2) (f := J) (z := z0) (e := 26) (cn (l.getD (l.length - 1 - i) 0)) (by decide) (Reads.fact (v := y) (d := zd (l.getD (l.length - 1 - i) 0)) qM) rfl fun y4 => ?_
    refine append_L (size := 2) (e := 26) (f := J) (z := z0) (l := (lst i fun i => l.getD (l.length - 1 - i) 0).map cn) (m := [cn (l.getD (l.length - 1 - i) 0)]) 0 rfl hvo (Knw.fact (v := y4) qM) (by simp only [List.length_map, hll, List.length_cons, List.length_nil]; omega) (by simp only [List.length_map, hll, List.length_cons, List.length_nil]; omega) fun vn hvn => ?_
    refine ar (n := (l.length : Int) - 1 - ((i + 1 : Nat) : Int)) (congrArg some (by omega)) ⟨by omega, by omega⟩ ?_
    refine again (vn, i + 1) ⟨hvn, by simp only; omega⟩ (by simp only; omega) qF ?_
    rw [show (lst i fun i => l.getD (l.length - 1 - i) 0).map cn ++ [cn (l.getD (l.length - 1 - i) 0)] = (lst (i + 1) fun i => l.getD (l.length - 1 - i) 0).map cn by rw [lst_snoc, List.map_append]; rfl]
    exact Seals.sub qS
  · have hii : i = l.length := by omega
    subst hii
    refine fin ⟨rfl, rfl⟩ (Seals.trans (Seals.toldL hvo) ?_)
    rw [rev_lst]
    exact Seals.sub qS
theorem halved_meets (v : Value) (l : List Int) (k : Nat) (hl : szR k l) (hk : k ≤ 137438953472) (hn : Nm l) (h0 : 0 < l.length) (ln : l.length ≤ 1000) :
    Meets Tryz.prog 76 [v] [(v, vd l)] (fun r os fs => os = [] ∧ fs = [(r, vd (halv l))]) := by
  have hml : (l.map cn).length = l.length := List.length_map _
  have hdeg := rDegreeT v l hl (by omega)
  rw [dg_nm hn] at hdeg
  refine meets_of_vc Tryz.func76 (by kernel_rfl) rfl (by kernel_rfl) (Nat.le_of_ble_eq_true rfl) ?_
  refine call_fn hdeg (Seals.refl _ _) qS ?_
  rintro _ _ _ ⟨rfl, rfl, rfl⟩
  refine empty_L (size := 2) (e := 26) J z0 (by decide) fun v0 hv0 => ?_
  refine loop_rule (X := Value × Nat) (fun x => ([(0, v), (3, .int .i64 ((l.length : Nat) - 1 : Int)), (4, x.1), (5, .int .i64 (x.2 : Nat))], [ownL 2 J z0 x.1 ((lst x.2 fun i => l.getD i 0 * 2 ^ (l.length - 1 - i)).map cn)], [(v, vd l)])) (fun x => isSl x.1 ∧ x.2 ≤ l.length) (fun x => l.length - x.2) rfl ?_ ?_
  · exact again (v0, 0) ⟨hv0, Nat.zero_le _⟩ trivial qF (Seals.sub qS)
  rintro ⟨vo, i⟩ ⟨hvo, h2⟩
  simp only at hvo h2 ⊢
  refine cmp_split _ rfl (fun hlt => ?_) (fun hlt => ?_)
  · have hin : i < l.length := by omega
    have hll : (lst i fun i => l.getD i 0 * 2 ^ (l.length - 1 - i)).length = i := lst_len _ _
    have e1 : ((l.length : Nat) - 1 : Int) - (i : Nat) = ((l.length - 1 - i : Nat) : Int) := by omega
    have hsh : ∀ y, Meets Tryz.prog 118 [y, .int .i64 ((l.length - 1 - i : Nat) : Int)] [(y, J ((l.map cn).getD i z0))] (fun r os fs => os = [] ∧ fs = [(r, zd (l.getD i 0 * 2 ^ (l.length - 1 - i)))]) := fun y => by
      rw [map_cn_get hin]
      have := rShlZ y (l.getD i 0) ((l.length - 1 - i : Nat) : Int) k (hl.get i) (by omega)
      rw [show far ((l.length - 1 - i : Nat) : Int) = l.length - 1 - i by unfold far; omega] at this
      exact this
    refine index_fact (v := v) qM i rfl (by rw [hml]; omega) fun a1 => ?_
    refine load_fact (d := J ((l.map cn).getD i z0)) qM (load_J _) fun a2 => ?_
    refine ar (n := ((l.length - 1 - i : Nat) : Int)) (congrArg some e1) ⟨by omega, by omega⟩ ?_
    refine call_fn (hsh a2) (Seals.refl _ _) qS ?_
    rintro y _ _ ⟨rfl, rfl⟩
    refine lit_L (size := 2) (f := J) (z := z0) (e := 26) (cn (l.getD i 0 * 2 ^ (l.length - 1 - i))) (by decide) (Reads.fact (v := y) (d := zd (l.getD i 0 * 2 ^ (l.length - 1 - i))) qM) rfl fun y4 => ?_
    refine append_L (size := 2) (e := 26) (f := J) (z := z0) (l := (lst i fun i => l.getD i 0 * 2 ^ (l.length - 1 - i)).map cn) (m := [cn (l.getD i 0 * 2 ^ (l.length - 1 - i))]) 0 rfl hvo (Knw.fact (v := y4) qM) (by simp only [List.length_map, hll, List.length_cons, List.length_nil]; omega) (by simp only [List.length_map, hll, List.length_cons, List.length_nil]; omega) fun vn hvn => ?_
    refine ar rfl qI ?_
    refine again (vn, i + 1) ⟨hvn, by simp only; omega⟩ (by simp only; omega) qF ?_
    rw [show (lst i fun i => l.getD i 0 * 2 ^ (l.length - 1 - i)).map cn ++ [cn (l.getD i 0 * 2 ^ (l.length - 1 - i))] = (lst (i + 1) fun i => l.getD i 0 * 2 ^ (l.length - 1 - i)).map cn by rw [lst_snoc, List.map_append]; rfl]
    exact Seals.sub qS
  · have hii : i = l.length := by omega
    subst hii
    exact fin ⟨rfl, rfl⟩ (Seals.trans (Seals.toldL hvo) (Seals.sub (fs' := [(vo, vd (halv l))]) qS))
theorem sgn_self {x : Int} (h : x ≠ 0) : 0 < x.sign * x := by
  rcases Int.lt_trichotomy x 0 with g | g | g
  · rw [sgn_neg g]; omega
  · exact absurd g h
  · rw [sgn_pos g]; omega
theorem signs_meets (v : Value) (l : List Int) (k : Nat) (hl : szR k l) (hk : k ≤ 137438953472) (ln : l.length ≤ 1000) :
    Meets Tryz.prog 116 [v] [(v, vd l)] (fun r os fs => os = [] ∧ fs = [] ∧ r = .int .i64 (vs 0 l : Nat)) := by
  have hml : (l.map cn).length = l.length := List.length_map _
  have hb : vs 0 l ≤ 1000 := by have := vs_len0 l; omega
  refine meets_of_vc Tryz.func116 (by kernel_rfl) rfl (by kernel_rfl) (Nat.le_of_ble_eq_true rfl) ?_
  refine loop_rule (X := Nat × Nat × Int) (fun x => ([(0, v), (3, .int .i64 (x.2.1 : Nat)), (4, .int .i64 x.2.2), (5, .int .i64 (x.1 : Nat))], [], [(v, vd l)])) (fun x => x.1 ≤ l.length ∧ (x.2.2 = 0 ∨ x.2.2 = 1 ∨ x.2.2 = -1) ∧ x.2.1 + vs x.2.2 (l.drop x.1) = vs 0 l) (fun x => l.length - x.1) rfl ?_ ?_
  · exact again (0, 0, 0) ⟨Nat.zero_le _, .inl rfl, by simp⟩ trivial qF (Seals.sub qS)
  rintro ⟨i, n, t⟩ ⟨h1, h2, h3⟩
  simp only at h1 h2 h3 ⊢
  refine len_vd qM ?_
  refine cmp_split _ rfl (fun hlt => ?_) (fun hlt => ?_)
  · have hin : i < l.length := by omega
    have hsg : ∀ y, Meets Tryz.prog 44 [y] [(y, J ((l.map cn).getD i z0))] (fun r os fs => os = [] ∧ fs = [] ∧ r = .int .i64 (l.getD i 0).sign) := fun y => by
      rw [map_cn_get hin]; exact rSignZ y _ k (hl.get i) (by omega)
    have hdr : l.drop i = l.getD i 0 :: l.drop (i + 1) := by
      rw [List.drop_eq_getElem_cons hin, List.getD_eq_getElem?_getD, List.getElem?_eq_getElem hin]; rfl
    rw [hdr, vs] at h3
    refine index_fact (v := v) qM i rfl (by rw [hml]; omega) fun a1 => ?_
    refine load_fact (d := J ((l.map cn).getD i z0)) qM (load_J _) fun a2 => ?_
    refine call_fn (hsg a2) (Seals.refl _ _) qS ?_
    rintro _ _ _ ⟨rfl, rfl, rfl⟩
    have hs3 := sgn3b (l.getD i 0)
    have hs0 := @sgn0 (l.getD i 0)
    have hss := @sgn_self (l.getD i 0)
    have hst : (l.getD i 0) ≠ 0 → (l.getD i 0 * t < 0 ↔ t ≠ 0 ∧ (l.getD i 0).sign ≠ t) := fun h => by
      rcases Int.lt_trichotomy (l.getD i 0) 0 with g | g | g
      · rw [sgn_neg g]
        rcases h2 with rfl | rfl | rfl
        · simp
        · exact ⟨fun _ => by decide, fun _ => by omega⟩
        · exact ⟨fun _ => by omega, fun z => absurd rfl z.2⟩
      · exact absurd g h
      · rw [sgn_pos g]
        rcases h2 with rfl | rfl | rfl
        · simp
        · exact ⟨fun _ => by omega, fun z => absurd rfl z.2⟩
        · exact ⟨fun _ => by decide, fun _ => by omega⟩
    have hvs : l.getD i 0 ≠ 0 → vs (l.getD i 0).sign (l.drop (i + 1)) = vs (l.getD i 0) (l.drop (i + 1)) := fun h => vs_sign (hss h) _
    generalize l.getD i 0 = z at *
    refine cmp_split _ rfl (fun hz => ?_) (fun hz => ?_)
    · rw [if_pos (hs0.1 hz)] at h3
      refine ar rfl qI ?_
      exact again (i + 1, n, t) ⟨by simp only; omega, h2, h3⟩ (by simp only; omega) qF (Seals.sub qS)
    · have hz' : z ≠ 0 := fun h => hz (hs0.2 h)
      rw [if_neg hz', ← hvs hz'] at h3
      refine cmp_split _ rfl (fun ht => ?_) (fun ht => ?_)
      · refine cmp_split _ rfl (fun hne => ?_) (fun hne => ?_)
        · rw [if_pos ((hst hz').2 ⟨ht, hne⟩)] at h3
          refine ar rfl qI ?_
          refine ar rfl qI ?_
          exact again (i + 1, n + 1, z.sign) ⟨by simp only; omega, by simp only; omega, by simp only; omega⟩ (by simp only; omega) qF (Seals.sub qS)
        · rw [if_neg (fun g => hne ((hst hz').1 g).2)] at h3
          refine ar rfl qI ?_
          exact again (i + 1, n, z.sign) ⟨by simp only; omega, by simp only; omega, by simp only; omega⟩ (by simp only; omega) qF (Seals.sub qS)
      · rw [if_neg (fun g => ht ((hst hz').1 g).1)] at h3
        refine ar rfl qI ?_
        exact again (i + 1, n, z.sign) ⟨by simp only; omega, by simp only; omega, by simp only; omega⟩ (by simp only; omega) qF (Seals.sub qS)
  · have hii : i = l.length := by omega
    rw [hii, List.drop_length] at h3
    have e : n = vs 0 l := by rw [← h3]; rfl
    rw [e]
    exact fin ⟨rfl, rfl, rfl⟩ (Seals.nil _ _)
theorem may_meets (v : Value) (l : List Int) (k : Nat) (hl : szR k l) (hk : k ≤ 17179869184) (h1k : 1 ≤ k) (hn : Nm l) (h0 : 0 < l.length) (ln : l.length ≤ 1000) :
    Meets Tryz.prog 75 [v] [(v, vd l)] (fun r os fs => os = [] ∧ fs = [] ∧ r = .int .i64 (vs 0 (pshi 1 l.reverse) : Nat)) := by
  have hdeg := rDegreeT v l hl (by omega)
  rw [dg_nm hn] at hdeg
  have hr : szR k l.reverse := fun x hx => hl x (List.mem_reverse.1 hx)
  have hsh : ∀ y z, Meets Tryz.prog 77 [y, z] [(y, vd l.reverse), (z, zd 1)] (fun r os fs => os = [] ∧ fs = [(r, vd (pshi 1 l.reverse))]) := fun y z => by
    have := rShiftJ y z (l.reverse.map cn) (cn 1) k 1 hr.fit h1k (Lim_lims _) (show (cn 1).2.length ≤ 1 from (sm5 1 (by decide)).len) (by decide) (by rw [List.length_map, List.length_reverse]; omega) (by rw [List.length_map, List.length_reverse]; omega)
    rw [vv_cn, jv_cn] at this
    exact this
  have hps := pshi_sz (a := 1) (j := 1) hr (by unfold sz; decide) (by rw [List.length_reverse]; omega)
  rw [List.length_reverse] at hps
  have hsg := fun y => signs_meets y (pshi 1 l.reverse) _ hps (by omega) (Nat.le_trans (pshi_len _ _) (by rw [List.length_reverse]; exact ln))
  refine meets_of_vc Tryz.func75 (by kernel_rfl) rfl (by kernel_rfl) (Nat.le_of_ble_eq_true rfl) ?_
  refine call_fn hdeg (Seals.refl _ _) qS ?_
  rintro _ _ _ ⟨rfl, rfl, rfl⟩
  refine call_fn (turned_meets v l k hl (by omega) h0 ln) (Seals.refl _ _) qS ?_
  rintro y1 _ _ ⟨rfl, rfl⟩
  refine call_fn (rOf_meets 1 (by decide) (by decide)) (Seals.refl _ _) qS ?_
  rintro y2 _ _ ⟨rfl, rfl⟩
  refine call_fn (hsh y1 y2) (Seals.refl _ _) qS ?_
  rintro y3 _ _ ⟨rfl, rfl⟩
  refine call_fn (hsg y3) (Seals.refl _ _) qS ?_
  rintro _ _ _ ⟨rfl, rfl, rfl⟩
  exact fin ⟨rfl, rfl, rfl⟩ (Seals.nil _ _)
theorem within_meets (v w u : Value) (p : Row) (x y : Bool × List Nat) (k a : Nat) (hp : Fit k p) (h1k : 1 ≤ k) (hx : Lim x.2) (hxa : x.2.length ≤ a) (hy : Lim y.2) (hya : y.2.length ≤ a) (h1a : 1 ≤ a) (lp : p.length ≤ 1000) (hk : k + a * 100000 ≤ 17179869184) :
    Meets Tryz.prog 41 [v, w, u] [(v, V p), (w, J x), (u, J y)] (fun r os fs => os = [] ∧ fs = [(r, vd (pstr (jv y - jv x) (pshi (jv x) (vv p))))]) := by
  have hm : (p.length + 2) * (a + 1 + 3) ≤ 1002 * (a + 4) := Nat.mul_le_mul (by omega) (by omega)
  have hm' : (p.length + 2) * (a + 2) ≤ 1002 * (a + 4) := Nat.mul_le_mul (by omega) (by omega)
  have hm2 : p.length * (a + 3) ≤ 1002 * (a + 4) := Nat.mul_le_mul (by omega) (by omega)
  have zx := sz_jv hx hxa
  have zy := sz_jv hy hya
  have hps := pshi_sz (a := jv x) (j := a) hp.szR zx (by rw [vv_len]; omega)
  rw [vv_len] at hps
  have lps : (pshi (jv x) (vv p)).length ≤ p.length := Nat.le_trans (pshi_len _ _) (by rw [vv_len]; exact Nat.le_refl _)
  have hd : sz (jv y - jv x) (a + 1) := sz_sub zy zx
  have h1 := fun z => rShiftJ v z p x k a hp h1k hx hxa h1a (by omega) (by omega)
  have h2 : ∀ y1 y2, Meets Tryz.prog 60 [y1, y2] [(y1, J y), (y2, J x)] (fun r os fs => os = [] ∧ fs = [(r, zd (jv y - jv x))]) := fun y1 y2 => rZSub_meets y1 y2 y.1 x.1 y.2 x.2 hy hx (by omega) (by omega)
  have h3 : ∀ y1 y2, Meets Tryz.prog 79 [y1, y2] [(y1, vd (pshi (jv x) (vv p))), (y2, zd (jv y - jv x))] (fun r os fs => os = [] ∧ fs = [(r, vd (pstr (jv y - jv x) (pshi (jv x) (vv p))))]) := fun y1 y2 => by
    have hl : ((pshi (jv x) (vv p)).map cn).length ≤ 1000 := by rw [List.length_map]; omega
    have hm3 : (((pshi (jv x) (vv p)).map cn).length + 2) * (a + 1 + 2) ≤ 1002 * (a + 4) := Nat.mul_le_mul (by omega) (by omega)
    have := rStretchJ y1 y2 ((pshi (jv x) (vv p)).map cn) (cn (jv y - jv x)) (k + p.length * (a + 3)) (a + 1) hps.fit (by omega) (Lim_lims _) hd.len (by omega) (by omega)
    rw [vv_cn, jv_cn] at this
    exact this
  generalize jv y - jv x = m at *
  generalize pshi (jv x) (vv p) = S at *
  generalize pstr m S = T at *
  refine meets_of_vc Tryz.func41 (by kernel_rfl) rfl (by kernel_rfl) (Nat.le_of_ble_eq_true rfl) ?_
  refine box_rule (Reads.fact (d := J x) qM) fun lb hlb => ?_
  refine box_rule (Reads.fact (d := J y) qM) fun ub hub => ?_
  refine draw_rule [0, 1, 3, 4, 2, 5, 6, 7] [0, 1, 2, 3, 4, 5, 6, 7] (by kernel_rfl) (by kernel_rfl) ?_
  refine load_box (d := J x) 1 rfl hlb rfl (load_J _) fun a1 => ?_
  refine load_box (d := J y) 0 rfl hub rfl (load_J _) fun a2 => ?_
  refine load_box (d := J x) 1 rfl hlb rfl (load_J _) fun a3 => ?_
  refine call_fn (h1 a1) (Seals.refl _ _) qS ?_
  rintro a4 _ _ ⟨rfl, rfl⟩
  refine call_fn (h2 a2 a3) (Seals.refl _ _) qS ?_
  rintro a5 _ _ ⟨rfl, rfl⟩
  refine call_fn (h3 a4 a5) (Seals.refl _ _) qS ?_
  rintro a6 _ _ ⟨rfl, rfl⟩
  exact fin ⟨rfl, rfl⟩ (Seals.trans (Seals.drop 0 _ _) (Seals.trans (Seals.drop 0 _ _) (Seals.sub (fs' := [(a6, vd T)]) qS)))
open Go.RowKit
theorem rDivide_meets (v w : Value) (p q : Row) (k l : Nat) (hp : Fit k p) (hq : Fit l q) (h1l : 1 ≤ l) (hlk : l ≤ k) (lp : p.length ≤ 1048576) (lq : q.length ≤ 1048576) (hk : 2 * pks k l (p.length + 2) ≤ 34359738368) :
    Meets Tryz.prog 72 [v, w] [(v, V p), (w, V q)] (fun r os fs => os = [] ∧ ∃ a t e, r = .tuple #[a, .int .i64 e] ∧ DivSpec (vv p) (vv q) t e ∧ fs = [(a, vd t)]) := by
  have hkk : k ≤ pks k l (p.length + 2) := by unfold pks; omega
  have d2 := rDegreeN w q (hq.mono (by omega))
  have hpt := fun h0 => rParts_meets v w p q k l hp hq h0 h1l hlk lp lq hk
  refine meets_of_vc Tryz.func72 (by kernel_rfl) rfl (by kernel_rfl) (Nat.le_of_ble_eq_true rfl) ?_
  refine call_fn (d2) (Seals.refl _ _) qS ?_
  rintro _ _ _ ⟨rfl, rfl, rfl⟩
  by_cases h0 : dg (vv q) = 0
  · refine cmp_true rfl (by omega) ?_
    exact fin ⟨rfl, _, [], 2, rfl, ⟨rfl, fun _ => ⟨rfl, rfl⟩, fun h => by omega, fun h => by omega⟩, rfl⟩ (Seals.cons (Knw.nil 2 _) (Seals.nil _ _))
  have h0 : 0 < dg (vv q) := by omega
  refine cmp_false rfl (by omega) ?_
  refine call_fn (hpt h0) (Seals.refl _ _) qS ?_
  rintro _ _ _ ⟨rfl, a, b, T, R, ok, rfl, hs, sT, sR, lT, lR, rfl⟩
  cases ok with
  | false =>
    obtain ⟨rfl, rfl, hno⟩ := hs.no rfl
    refine fin ⟨rfl, _, [], 11, rfl, ⟨rfl, fun h => by omega, fun _ ⟨t, ht⟩ => ?_, fun _ _ => ⟨rfl, rfl⟩⟩, rfl⟩ (Seals.cons (Knw.nil 2 _) (Seals.nil _ _))
    exact (hno ⟨t, [], by show (0 : Nat) < _; exact h0, fun x => by rw [ht]; simp [pev]⟩).elim
  | true =>
    obtain ⟨nT, nR, hlow, he⟩ := hs.yes rfl
    refine call_fn (rDegreeT b R sR (by omega)) (Seals.refl _ _) qS ?_
    rintro _ _ _ ⟨rfl, rfl, rfl⟩
    refine cmp_split _ rfl (fun hr => ?_) (fun hr => ?_)
    · refine fin ⟨rfl, _, [], 11, rfl, ⟨rfl, fun h => by omega, fun _ hd => ?_, fun _ _ => ⟨rfl, rfl⟩⟩, rfl⟩ (Seals.cons (Knw.nil 2 _) (Seals.nil _ _))
      have := (div_no he hd).deg (by omega)
      omega
    · have hR0 := dg_zero.1 (show dg R = 0 by omega)
      have he2 : ∀ x, pev (vv p) x = pev (vv q) x * pev T x := fun x => by rw [he, hR0]; omega
      exact fin ⟨rfl, a, T, 0, rfl, ⟨nT, fun h => by omega, fun _ _ => ⟨rfl, he2⟩, fun _ hn => (hn ⟨T, he2⟩).elim⟩, rfl⟩ (Seals.sub qS)
def rks (k l n : Nat) : Nat := k + (n + 1) * (l + 1) + 1
theorem rRest_meets (v w : Value) (p q : Row) (k l : Nat) (hp : Fit k p) (hq : Fit l q) (h1l : 1 ≤ l) (hlk : l ≤ k) (lp : p.length ≤ 1048576) (lq : q.length ≤ 1048576) (hk : 4 * pks (rks k l p.length) l (p.length + 2) ≤ 34359738368) :
    Meets Tryz.prog 134 [v, w] [(v, V p), (w, V q)] (fun r os fs => os = [] ∧ ∃ a b T R, (if dg (vv q) = 0 then r = .tuple #[a, b, .int .i64 2] ∧ T = [] ∧ R = [] else r = .tuple #[a, b, .int .i64 0] ∧ RestSpec (vv p) (vv q) T R ∧ szR (pks (rks k l p.length) l (p.length + 2)) T ∧ szR (pks (rks k l p.length) l (p.length + 2)) R ∧ T.length ≤ p.length ∧ R.length ≤ p.length) ∧ fs = [(a, vd T), (b, vd R)]) := by
  have hkk : rks k l p.length ≤ pks (rks k l p.length) l (p.length + 2) := by unfold pks; omega
  have hkr : k ≤ rks k l p.length := by unfold rks; omega
  have hm1 : (p.length + 1) * (l + 1) + 1 ≤ rks k l p.length := by unfold rks; omega
  have d1 := rDegreeN v p (hp.mono (by omega))
  have d2 := rDegreeN w q (hq.mono (by omega))
  have c2 := rLead_meets w q (hq.mono (by omega))
  have sld : sz (ld (vv q)) l := hq.szR.get _
  have hdl : dg (vv p) ≤ p.length := Nat.le_trans (dg_le_len _) (by rw [vv_len]; exact Nat.le_refl _)
  have hdq : dg (vv q) ≤ q.length := Nat.le_trans (dg_le_len _) (by rw [vv_len]; exact Nat.le_refl _)
  refine meets_of_vc Tryz.func134 (by kernel_rfl) rfl (by kernel_rfl) (Nat.le_of_ble_eq_true rfl) ?_
  refine call_fn (d2) (Seals.refl _ _) qS ?_
  rintro _ _ _ ⟨rfl, rfl, rfl⟩
  by_cases h0 : dg (vv q) = 0
  · refine cmp_true rfl (by omega) ?_
    refine fin ⟨rfl, _, _, [], [], ?_, rfl⟩ (Seals.cons (Knw.nil 2 _) (Seals.cons (Knw.nil 2 _) (Seals.nil _ _)))
    rw [if_pos h0]
    exact ⟨rfl, rfl, rfl⟩
  have h0 : 0 < dg (vv q) := by omega
  have hd : max (0 : Int) (((dg (vv p) : Nat) - 1 : Int) - ((dg (vv q) : Nat) - 1 : Int) + 1) = ((dg (vv p) + 1 - dg (vv q) : Nat) : Int) := by omega
  obtain ⟨t0, r0, hlow0, he0⟩ := pseudo h0 (dg (vv p)) (vv p) (Nat.le_refl _)
  have hspec : ∀ T R, Nm T → Nm R → dg R < dg (vv q) → (∀ x, pev (ptim (ld (vv q) ^ (dg (vv p) + 1 - dg (vv q))) (vv p)) x = pev (vv q) x * pev T x + pev R x) → RestSpec (vv p) (vv q) T R := fun T R h1 h2 h3 h4 => ⟨h1, h2, h3, fun x => by rw [← h4, ev_ptim]⟩
  have hyes : ∃ T' R' : List Int, dg R' < dg (vv q) ∧ ∀ x, pev (ptim (ld (vv q) ^ (dg (vv p) + 1 - dg (vv q))) (vv p)) x = pev (vv q) x * pev T' x + pev R' x := ⟨t0, r0, hlow0, fun x => by rw [ev_ptim, he0]⟩
  have hdn : dg (vv p) + 1 - dg (vv q) ≤ p.length := by omega
  generalize dg (vv p) + 1 - dg (vv q) = d at *
  have hdm : (d + 1) * (l + 1) ≤ (p.length + 1) * (l + 1) := Nat.mul_le_mul_right _ (by omega)
  have hdm2 : d * l ≤ (p.length + 1) * (l + 1) := Nat.mul_le_mul (by omega) (by omega)
  have spw : sz (ld (vv q) ^ d) ((p.length + 1) * (l + 1) + 1) := (sz_pow sld d).mono (by omega)
  have sp2 : szR (rks k l p.length) (ptim (ld (vv q) ^ d) (vv p)) := (ptim_szR hp.szR spw).mono (by unfold rks; omega)
  have lp2 : (ptim (ld (vv q) ^ d) (vv p)).length ≤ p.length := Nat.le_trans (ptim_len _ _) (by rw [vv_len]; exact Nat.le_refl _)
  have c3 := fun u => rPower_meets u (ld (vv q)) d l sld (by omega)
  have c4 := fun u => rTimes_meets v u p (ld (vv q) ^ d) (rks k l p.length) (hp.mono hkr) (spw.mono hm1) (by omega) (by omega)
  have hpm := pks_mono (rks k l p.length) l (show ((ptim (ld (vv q) ^ d) (vv p)).map cn).length + 2 ≤ p.length + 2 by rw [List.length_map]; omega)
  have c5 := fun u => rParts_meets u w ((ptim (ld (vv q) ^ d) (vv p)).map cn) q (rks k l p.length) l sp2.fit hq h0 h1l (by omega) (by rw [List.length_map]; omega) lq (by omega)
  simp only [vv_cn] at c5
  generalize ld (vv q) ^ d = C at *
  generalize ptim C (vv p) = P2 at *
  refine cmp_false rfl (by omega) ?_
  refine call_fn (d1) (Seals.refl _ _) qS ?_
  rintro _ _ _ ⟨rfl, rfl, rfl⟩
  refine call_fn (d2) (Seals.refl _ _) qS ?_
  rintro _ _ _ ⟨rfl, rfl, rfl⟩
  refine ar rfl qI ?_
  refine ar rfl qI ?_
  refine max2_rule ?_
  rw [hd]
  refine call_fn (c2) (Seals.refl _ _) qS ?_
  rintro y1 _ _ ⟨rfl, rfl⟩
  refine call_fn (c3 y1) (Seals.refl _ _) qS ?_
  rintro y2 _ _ ⟨rfl, rfl⟩
  refine call_fn (c4 y2) (Seals.refl _ _) qS ?_
  rintro y3 _ _ ⟨rfl, rfl⟩
  refine call_fn (c5 y3) (Seals.refl _ _) qS ?_
  rintro _ _ _ ⟨rfl, a, b, T, R, ok, rfl, hs, sT, sR, lT, lR, rfl⟩
  rw [List.length_map] at lT lR
  refine fin ⟨rfl, a, b, T, R, ?_, rfl⟩ (Seals.sub qS)
  rw [if_neg (by omega)]
  cases ok with
  | false => exact ((hs.no rfl).2.2 hyes).elim
  | true =>
    obtain ⟨nT, nR, hlow, he⟩ := hs.yes rfl
    exact ⟨rfl, hspec T R nT nR hlow he, sT.mono hpm, sR.mono hpm, by omega, by omega⟩
open Go.RowKit
theorem take_dg (l : List Int) : l.take (dg l) = nrm l := by
  refine row_eq_of_getD 0 (by rw [List.length_take]; have := dg_le_len l; show min (dg l) l.length = dg l; omega) fun i hi => ?_
  rw [List.length_take] at hi
  rw [co_nrm]
  simp only [List.getD_eq_getElem?_getD, List.getElem?_take]
  rw [if_pos (by omega)]
theorem rContent_meets (v : Value) (p : Row) (k : Nat) (hp : Fit k p) (hk : k ≤ 137438953472) (lp : p.length ≤ 1073741824) :
    Meets Tryz.prog 109 [v] [(v, V p)] (fun r os fs => os = [] ∧ fs = [(r, zd (cont (vv p) : Nat))]) := by
  have d1 := rDegreeN v p (hp.mono (by omega))
  have hN : dg (vv p) ≤ p.length := Nat.le_trans (dg_le_len _) (by rw [vv_len]; exact Nat.le_refl _)
  have hs : ∀ i, sz (cont ((vv p).take i) : Nat) k := fun i => cont_sz (hp.szR.take i)
  have hst : ∀ i, i < p.length → Nat.gcd (cont ((vv p).take i)) (jv (p.getD i z0)).natAbs = cont ((vv p).take (i + 1)) := fun i hi => by
    rw [cont_take (by rw [vv_len]; exact hi), vv_get p i hi]
  have hlast : cont ((vv p).take (dg (vv p))) = cont (vv p) := by rw [take_dg, cont_nrm]
  have h00 : cont ((vv p).take 0) = 0 := rfl
  generalize hC : (fun i => cont ((vv p).take i)) = C
  have hs' : ∀ i, sz (C i : Nat) k := fun i => by rw [← hC]; exact hs i
  have hst' : ∀ i, i < p.length → Nat.gcd (C i) (jv (p.getD i z0)).natAbs = C (i + 1) := fun i hi => by rw [← hC]; exact hst i hi
  have hlast' : C (dg (vv p)) = cont (vv p) := by rw [← hC]; exact hlast
  have h0' : C 0 = 0 := by rw [← hC]; exact h00
  generalize dg (vv p) = n at *
  refine meets_of_vc Tryz.func109 (by kernel_rfl) rfl (by kernel_rfl) (Nat.le_of_ble_eq_true rfl) ?_
  refine alloc_rule (d := I false []) fun o ho => ?_
  refine build0 (da := .one (.bool false)) (db := U (lims 0)) (fun S w => ⟨[.bool false], [.slice none 0 0], rfl, rd_false S w, by rw [lims_zero]; exact rd_nil S w 1 _⟩) fun z => ?_
  refine alloc_rule (d := I false []) fun s hs1 => ?_
  refine store_box (d := zd 0) 0 rfl hs1 rfl (by kernel_rfl) ?_ ?_; exact Reads.fact qM
  refine loop_rule (X := Nat) (fun i => ([(0, v), (2, o), (3, s), (4, .int .i64 (i : Nat))], [own1 s 2 1 (fun _ => zd (C i : Nat)), own1 o 2 1 (fun _ => I false [])], [(v, V p)])) (fun i => i ≤ n) (fun i => n - i) rfl ?_ ?_
  · exact again 0 (Nat.zero_le _) trivial qF (Seals.trans (Seals.box0 (by rw [h0']; rfl)) (Seals.sub qS))
  · rintro i hi
    refine call_fn (d1) (Seals.refl _ _) qS ?_
    rintro _ _ _ ⟨rfl, rfl, rfl⟩
    refine cmp_split _ rfl (fun hlt => ?_) (fun hlt => ?_)
    · have hin : i < p.length := by omega
      have hsi := hs' i
      have hpi := hp.get i
      refine draw_rule [0, 1, 2, 3, 4, 5, 6] [0, 1, 2, 3, 4, 5, 6] (by kernel_rfl) (by kernel_rfl) ?_
      refine load_box (d := zd (C i : Nat)) 0 rfl hs1 rfl (load_I _ _) fun y2 => ?_
      refine index_fact qM i rfl hin fun b1 => ?_
      refine load_fact (d := J (p.getD i z0)) qM (load_J _) fun y3 => ?_
      have hg := rGcdJ y2 y3 (cn (C i : Nat)) (p.getD i z0) (Lim_lims _) (Nat.le_trans hsi.len hk) hpi.1 (by omega)
      rw [jv_cn, Int.natAbs_natCast, hst' i hin] at hg
      refine call_fn hg (Seals.refl _ _) qS ?_
      rintro y4 _ _ ⟨rfl, rfl⟩
      refine store_box (d := zd (C (i + 1) : Nat)) 0 rfl hs1 rfl (by kernel_rfl) ?_ ?_; exact Reads.fact qM
      refine ar rfl qI ?_
      exact again (i + 1) (by omega) (by simp only; omega) qF (Seals.trans (Seals.box0 rfl) (Seals.sub qS))
    · have hip : i = n := by omega
      subst hip
      have hsn := hs' i
      rw [hlast'] at hsn
      rw [hlast']
      have hab := fun y => rAbsZ y _ _ hsn hk
      simp only [Int.natAbs_natCast] at hab
      refine load_box (d := zd (cont (vv p) : Nat)) 0 rfl hs1 rfl (load_I _ _) fun y1 => ?_
      refine call_fn (hab y1) (Seals.refl _ _) qS ?_
      rintro y2 _ _ ⟨rfl, rfl⟩
      refine store_box (d := zd (cont (vv p) : Nat)) 1 rfl ho rfl (by kernel_rfl) ?_ ?_; exact Reads.fact qM
      refine load_box (d := zd (cont (vv p) : Nat)) 1 rfl ho rfl (load_I _ _) fun r => ?_
      exact fin ⟨rfl, rfl⟩ (Seals.trans (Seals.drop 0 _ _) (Seals.trans (Seals.drop 0 _ _) (Seals.sub qS)))
theorem prim_neg {l : List Int} (h : ld l < 0) : ptim (-1) (lst (dg l) fun i => l.getD i 0 / (cont l : Nat)) = pprim l := by
  refine (ptim_nm _ _).ext (nrm_nrm _) fun x => ?_
  unfold pprim
  rw [ptim, ev_nrm, ev_nrm]
  congr 1
  refine row_eq_of_getD 0 (by rw [List.length_map, List.length_map, lst_len]; rfl) fun i hi => ?_
  rw [List.length_map, lst_len] at hi
  rw [← lst_map, ← lst_map, lst_get (by rw [lst_len]; exact hi), lst_get hi, lst_get (show i < (nrm l).length from hi), co_nrm, scont, if_pos h, Int.ediv_neg]
  omega
theorem prim_pos {l : List Int} (h : ¬ ld l < 0) : nrm (lst (dg l) fun i => l.getD i 0 / (cont l : Nat)) = pprim l := by
  unfold pprim
  rw [← lst_map (nrm l) fun y => y / scont l]
  congr 1
  refine row_eq_of_getD 0 (by rw [lst_len, lst_len]; rfl) fun i hi => ?_
  rw [lst_len] at hi
  rw [lst_get hi, lst_get (show i < (nrm l).length from hi), co_nrm, scont, if_neg h]
theorem rPrimitive_meets (v : Value) (p : Row) (k : Nat) (hp : Fit k p) (h1k : 1 ≤ k) (hk : k ≤ 34359738368) (lp : p.length ≤ 536870912) :
    Meets Tryz.prog 71 [v] [(v, V p)] (fun r os fs => os = [] ∧ fs = [(r, vd (pprim (vv p)))]) := by
  have d1 := rDegreeN v p (hp.mono (by omega))
  have ct := rContent_meets v p k hp (by omega) (by omega)
  have l1 := rLead_meets v p (hp.mono (by omega))
  have hN : dg (vv p) ≤ p.length := Nat.le_trans (dg_le_len _) (by rw [vv_len]; exact Nat.le_refl _)
  have hcs : sz (cont (vv p) : Nat) k := cont_sz hp.szR
  have hne : 0 < dg (vv p) → ((cont (vv p) : Nat) : Int) ≠ 0 := fun h e => by
    have h3 := cont_zero.1 (show cont (vv p) = 0 by omega)
    omega
  have sld : sz (ld (vv p)) k := hp.szR.get _
  have hsg := fun u => rSignZ u (ld (vv p)) k sld (by omega)
  have e1 : ld (vv p) < 0 → _ := prim_neg (l := vv p)
  have e2 : ¬ ld (vv p) < 0 → _ := prim_pos (l := vv p)
  have hsz : szR k (lst (dg (vv p)) fun i => (vv p).getD i 0 / (cont (vv p) : Nat)) := szR.lst fun i _ => sz_div (hp.szR.get i)
  have hgv : ∀ i, i < p.length → jv (p.getD i z0) / (cont (vv p) : Nat) = (vv p).getD i 0 / (cont (vv p) : Nat) := fun i hi => by rw [vv_get p i hi]
  have hdj : ∀ u u' i, i < p.length → 0 < dg (vv p) → Meets Tryz.prog 34 [u, u'] [(u, J (p.getD i z0)), (u', zd (cont (vv p) : Nat))] (fun r os fs => os = [] ∧ ∃ q m, r = .tuple #[q, m, .bool true] ∧ fs = [(q, zd ((vv p).getD i 0 / (cont (vv p) : Nat))), (m, zd (jv (p.getD i z0) % (cont (vv p) : Nat)))]) := fun u u' i hi h0 => by
    have := rDivModJZ u u' (p.getD i z0) (cont (vv p) : Nat) k (hp.get i).1 (Nat.le_trans (hp.get i).2 hk) hcs hk (hne h0)
    rw [hgv i hi] at this
    exact this
  generalize pprim (vv p) = A at *
  generalize ld (vv p) = L at *
  generalize hg : (fun i => (vv p).getD i 0 / (cont (vv p) : Nat)) = g at *
  have hdj' : ∀ u u' i, i < p.length → 0 < dg (vv p) → Meets Tryz.prog 34 [u, u'] [(u, J (p.getD i z0)), (u', zd (cont (vv p) : Nat))] (fun r os fs => os = [] ∧ ∃ q m, r = .tuple #[q, m, .bool true] ∧ fs = [(q, zd (g i)), (m, zd (jv (p.getD i z0) % (cont (vv p) : Nat)))]) := by
    rw [← hg]; exact hdj
  generalize cont (vv p) = ctv at *
  generalize dg (vv p) = n at *
  refine meets_of_vc Tryz.func71 (by kernel_rfl) rfl (by kernel_rfl) (Nat.le_of_ble_eq_true rfl) ?_
  refine empty_L (size := 2) (e := 26) J z0 (by decide) fun v0 hv0 => ?_
  refine loop_rule (X := Value × Nat) (fun x => ([(0, v), (3, x.1), (4, .int .i64 (x.2 : Nat))], [ownL 2 J z0 x.1 ((lst x.2 g).map cn)], [(v, V p)])) (fun x => isSl x.1 ∧ x.2 ≤ n) (fun x => n - x.2) rfl ?_ ?_
  · exact again (v0, 0) ⟨hv0, Nat.zero_le _⟩ trivial qF (Seals.sub qS)
  · rintro ⟨vo, i⟩ ⟨hvo, h2⟩
    simp only at hvo h2 ⊢
    have hll : (lst i g).length = i := lst_len _ _
    refine call_fn (d1) (Seals.refl _ _) qS ?_
    rintro _ _ _ ⟨rfl, rfl, rfl⟩
    refine cmp_split _ rfl (fun hlt => ?_) (fun hlt => ?_)
    · have hin : i < p.length := by omega
      have hdv := fun u u' => hdj' u u' i hin (by omega)
      generalize jv (p.getD i z0) % (ctv : Nat) = m at *
      refine draw_join (X := Value) (fun z => ([(0, v), (3, vo), (4, .int .i64 (i : Nat)), (5, z)], [ownL 2 J z0 vo ((lst i g).map cn)], [(v, V p), (z, .ptr (zd (g i)))])) (fun _ => True) ?_ ?_
      ·
        refine draw_ord [0, 1, 2, 3, 4, 5, 6, 7, 8, 11, 12, 13, 9, 14, 10, 15] (by kernel_rfl) ?_
        refine ord_split 5 11 (by kernel_rfl) (by kernel_rfl) (by kernel_rfl) ?_ ?_
        · refine ord_split 5 12 (by kernel_rfl) (by kernel_rfl) (by kernel_rfl) ?_ ?_
          · refine ord_split 6 11 (by kernel_rfl) (by kernel_rfl) (by kernel_rfl) ?_ ?_
            · refine ord_split 6 12 (by kernel_rfl) (by kernel_rfl) (by kernel_rfl) ?_ ?_
              · refine ord_split 11 12 (by kernel_rfl) (by kernel_rfl) (by kernel_rfl) ?_ ?_
                · refine ord_go [0, 1, 2, 3, 4, 5, 6, 7, 8, 9, 10, 11, 12, 13, 14, 15] (by kernel_rfl) (by kernel_rfl) ?_
                  refine index_fact qM i rfl hin fun b1 => ?_
                  refine load_fact (d := J (p.getD i z0)) qM (load_J _) fun y1 => ?_
                  refine call_fn (ct) (Seals.refl _ _) qS ?_
                  rintro y2 _ _ ⟨rfl, rfl⟩
                  refine call_fn (hdv y1 y2) (Seals.refl _ _) qS ?_
                  rintro _ _ _ ⟨rfl, y3, y4, rfl, rfl⟩
                  refine alloc_rule (d := I false []) fun b5 h5 => ?_
                  refine alloc_rule (d := I false []) fun b6 h6 => ?_
                  refine store_box (d := zd (g i)) 1 rfl h5 rfl (by kernel_rfl) (Reads.fact qM) ?_
                  refine store_box (d := zd m) 0 rfl h6 rfl (by kernel_rfl) (Reads.fact qM) ?_
                  exact again b5 trivial trivial qF (Seals.trans (Seals.drop 0 _ _) (Seals.trans (Seals.box (d := zd (g i)) 0 rfl h5 rfl) (Seals.sub qS)))
                · refine ord_go [0, 1, 2, 3, 4, 5, 6, 7, 8, 9, 10, 12, 11, 13, 14, 15] (by kernel_rfl) (by kernel_rfl) ?_
                  refine index_fact qM i rfl hin fun b1 => ?_
                  refine load_fact (d := J (p.getD i z0)) qM (load_J _) fun y1 => ?_
                  refine call_fn (ct) (Seals.refl _ _) qS ?_
                  rintro y2 _ _ ⟨rfl, rfl⟩
                  refine call_fn (hdv y1 y2) (Seals.refl _ _) qS ?_
                  rintro _ _ _ ⟨rfl, y3, y4, rfl, rfl⟩
                  refine alloc_rule (d := I false []) fun b6 h6 => ?_
                  refine alloc_rule (d := I false []) fun b5 h5 => ?_
                  refine store_box (d := zd (g i)) 0 rfl h5 rfl (by kernel_rfl) (Reads.fact qM) ?_
                  refine store_box (d := zd m) 1 rfl h6 rfl (by kernel_rfl) (Reads.fact qM) ?_
                  exact again b5 trivial trivial qF (Seals.trans (Seals.box (d := zd (g i)) 0 rfl h5 rfl) (Seals.trans (Seals.drop 0 _ _) (Seals.sub qS)))
              · refine ord_go [0, 1, 2, 3, 4, 5, 12, 6, 7, 8, 9, 10, 11, 13, 14, 15] (by kernel_rfl) (by kernel_rfl) ?_
                refine index_fact qM i rfl hin fun b1 => ?_
                refine load_fact (d := J (p.getD i z0)) qM (load_J _) fun y1 => ?_
                refine call_fn (ct) (Seals.refl _ _) qS ?_
                rintro y2 _ _ ⟨rfl, rfl⟩
                refine alloc_rule (d := I false []) fun b6 h6 => ?_
                refine call_fn (hdv y1 y2) (Seals.refl _ _) qS ?_
                rintro _ _ _ ⟨rfl, y3, y4, rfl, rfl⟩
                refine alloc_rule (d := I false []) fun b5 h5 => ?_
                refine store_box (d := zd (g i)) 0 rfl h5 rfl (by kernel_rfl) (Reads.fact qM) ?_
                refine store_box (d := zd m) 1 rfl h6 rfl (by kernel_rfl) (Reads.fact qM) ?_
                exact again b5 trivial trivial qF (Seals.trans (Seals.box (d := zd (g i)) 0 rfl h5 rfl) (Seals.trans (Seals.drop 0 _ _) (Seals.sub qS)))
            · refine ord_split 6 12 (by kernel_rfl) (by kernel_rfl) (by kernel_rfl) ?_ ?_
              · refine ord_go [0, 1, 2, 3, 4, 5, 11, 6, 7, 8, 9, 10, 12, 13, 14, 15] (by kernel_rfl) (by kernel_rfl) ?_
                refine index_fact qM i rfl hin fun b1 => ?_
                refine load_fact (d := J (p.getD i z0)) qM (load_J _) fun y1 => ?_
                refine call_fn (ct) (Seals.refl _ _) qS ?_
                rintro y2 _ _ ⟨rfl, rfl⟩
                refine alloc_rule (d := I false []) fun b5 h5 => ?_
                refine call_fn (hdv y1 y2) (Seals.refl _ _) qS ?_
                rintro _ _ _ ⟨rfl, y3, y4, rfl, rfl⟩
                refine alloc_rule (d := I false []) fun b6 h6 => ?_
                refine store_box (d := zd (g i)) 1 rfl h5 rfl (by kernel_rfl) (Reads.fact qM) ?_
                refine store_box (d := zd m) 0 rfl h6 rfl (by kernel_rfl) (Reads.fact qM) ?_
                exact again b5 trivial trivial qF (Seals.trans (Seals.drop 0 _ _) (Seals.trans (Seals.box (d := zd (g i)) 0 rfl h5 rfl) (Seals.sub qS)))
              · refine ord_split 11 12 (by kernel_rfl) (by kernel_rfl) (by kernel_rfl) ?_ ?_
                · refine ord_go [0, 1, 2, 3, 4, 5, 11, 12, 6, 7, 8, 9, 10, 13, 14, 15] (by kernel_rfl) (by kernel_rfl) ?_
                  refine index_fact qM i rfl hin fun b1 => ?_
                  refine load_fact (d := J (p.getD i z0)) qM (load_J _) fun y1 => ?_
                  refine call_fn (ct) (Seals.refl _ _) qS ?_
                  rintro y2 _ _ ⟨rfl, rfl⟩
                  refine alloc_rule (d := I false []) fun b5 h5 => ?_
                  refine alloc_rule (d := I false []) fun b6 h6 => ?_
                  refine call_fn (hdv y1 y2) (Seals.refl _ _) qS ?_
                  rintro _ _ _ ⟨rfl, y3, y4, rfl, rfl⟩
                  refine store_box (d := zd (g i)) 1 rfl h5 rfl (by kernel_rfl) (Reads.fact qM) ?_
                  refine store_box (d := zd m) 0 rfl h6 rfl (by kernel_rfl) (Reads.fact qM) ?_
                  exact again b5 trivial trivial qF (Seals.trans (Seals.drop 0 _ _) (Seals.trans (Seals.box (d := zd (g i)) 0 rfl h5 rfl) (Seals.sub qS)))
                · refine ord_go [0, 1, 2, 3, 4, 5, 12, 11, 6, 7, 8, 9, 10, 13, 14, 15] (by kernel_rfl) (by kernel_rfl) ?_
                  refine index_fact qM i rfl hin fun b1 => ?_
                  refine load_fact (d := J (p.getD i z0)) qM (load_J _) fun y1 => ?_
                  refine call_fn (ct) (Seals.refl _ _) qS ?_
                  rintro y2 _ _ ⟨rfl, rfl⟩
                  refine alloc_rule (d := I false []) fun b6 h6 => ?_
                  refine alloc_rule (d := I false []) fun b5 h5 => ?_
                  refine call_fn (hdv y1 y2) (Seals.refl _ _) qS ?_
                  rintro _ _ _ ⟨rfl, y3, y4, rfl, rfl⟩
                  refine store_box (d := zd (g i)) 0 rfl h5 rfl (by kernel_rfl) (Reads.fact qM) ?_
                  refine store_box (d := zd m) 1 rfl h6 rfl (by kernel_rfl) (Reads.fact qM) ?_
                  exact again b5 trivial trivial qF (Seals.trans (Seals.box (d := zd (g i)) 0 rfl h5 rfl) (Seals.trans (Seals.drop 0 _ _) (Seals.sub qS)))
          · refine ord_split 6 11 (by kernel_rfl) (by kernel_rfl) (by kernel_rfl) ?_ ?_
            · refine ord_go [0, 1, 2, 3, 4, 12, 5, 6, 7, 8, 9, 10, 11, 13, 14, 15] (by kernel_rfl) (by kernel_rfl) ?_
              refine index_fact qM i rfl hin fun b1 => ?_
              refine load_fact (d := J (p.getD i z0)) qM (load_J _) fun y1 => ?_
              refine alloc_rule (d := I false []) fun b6 h6 => ?_
              refine call_fn (ct) (Seals.refl _ _) qS ?_
              rintro y2 _ _ ⟨rfl, rfl⟩
              refine call_fn (hdv y1 y2) (Seals.refl _ _) qS ?_
              rintro _ _ _ ⟨rfl, y3, y4, rfl, rfl⟩
              refine alloc_rule (d := I false []) fun b5 h5 => ?_
              refine store_box (d := zd (g i)) 0 rfl h5 rfl (by kernel_rfl) (Reads.fact qM) ?_
              refine store_box (d := zd m) 1 rfl h6 rfl (by kernel_rfl) (Reads.fact qM) ?_
              exact again b5 trivial trivial qF (Seals.trans (Seals.box (d := zd (g i)) 0 rfl h5 rfl) (Seals.trans (Seals.drop 0 _ _) (Seals.sub qS)))
            · refine ord_go [0, 1, 2, 3, 4, 12, 5, 11, 6, 7, 8, 9, 10, 13, 14, 15] (by kernel_rfl) (by kernel_rfl) ?_
              refine index_fact qM i rfl hin fun b1 => ?_
              refine load_fact (d := J (p.getD i z0)) qM (load_J _) fun y1 => ?_
              refine alloc_rule (d := I false []) fun b6 h6 => ?_
              refine call_fn (ct) (Seals.refl _ _) qS ?_
              rintro y2 _ _ ⟨rfl, rfl⟩
              refine alloc_rule (d := I false []) fun b5 h5 => ?_
              refine call_fn (hdv y1 y2) (Seals.refl _ _) qS ?_
              rintro _ _ _ ⟨rfl, y3, y4, rfl, rfl⟩
              refine store_box (d := zd (g i)) 0 rfl h5 rfl (by kernel_rfl) (Reads.fact qM) ?_
              refine store_box (d := zd m) 1 rfl h6 rfl (by kernel_rfl) (Reads.fact qM) ?_
              exact again b5 trivial trivial qF (Seals.trans (Seals.box (d := zd (g i)) 0 rfl h5 rfl) (Seals.trans (Seals.drop 0 _ _) (Seals.sub qS)))
        · refine ord_split 5 12 (by kernel_rfl) (by kernel_rfl) (by kernel_rfl) ?_ ?_
          · refine ord_split 6 12 (by kernel_rfl) (by kernel_rfl) (by kernel_rfl) ?_ ?_
            · refine ord_go [0, 1, 2, 3, 4, 11, 5, 6, 7, 8, 9, 10, 12, 13, 14, 15] (by kernel_rfl) (by kernel_rfl) ?_
              refine index_fact qM i rfl hin fun b1 => ?_
              refine load_fact (d := J (p.getD i z0)) qM (load_J _) fun y1 => ?_
              refine alloc_rule (d := I false []) fun b5 h5 => ?_
              refine call_fn (ct) (Seals.refl _ _) qS ?_
              rintro y2 _ _ ⟨rfl, rfl⟩
              refine call_fn (hdv y1 y2) (Seals.refl _ _) qS ?_
              rintro _ _ _ ⟨rfl, y3, y4, rfl, rfl⟩
              refine alloc_rule (d := I false []) fun b6 h6 => ?_
              refine store_box (d := zd (g i)) 1 rfl h5 rfl (by kernel_rfl) (Reads.fact qM) ?_
              refine store_box (d := zd m) 0 rfl h6 rfl (by kernel_rfl) (Reads.fact qM) ?_
              exact again b5 trivial trivial qF (Seals.trans (Seals.drop 0 _ _) (Seals.trans (Seals.box (d := zd (g i)) 0 rfl h5 rfl) (Seals.sub qS)))
            · refine ord_go [0, 1, 2, 3, 4, 11, 5, 12, 6, 7, 8, 9, 10, 13, 14, 15] (by kernel_rfl) (by kernel_rfl) ?_
              refine index_fact qM i rfl hin fun b1 => ?_
              refine load_fact (d := J (p.getD i z0)) qM (load_J _) fun y1 => ?_
              refine alloc_rule (d := I false []) fun b5 h5 => ?_
              refine call_fn (ct) (Seals.refl _ _) qS ?_
              rintro y2 _ _ ⟨rfl, rfl⟩
              refine alloc_rule (d := I false []) fun b6 h6 => ?_
              refine call_fn (hdv y1 y2) (Seals.refl _ _) qS ?_
              rintro _ _ _ ⟨rfl, y3, y4, rfl, rfl⟩
              refine store_box (d := zd (g i)) 1 rfl h5 rfl (by kernel_rfl) (Reads.fact qM) ?_
              refine store_box (d := zd m) 0 rfl h6 rfl (by kernel_rfl) (Reads.fact qM) ?_
              exact again b5 trivial trivial qF (Seals.trans (Seals.drop 0 _ _) (Seals.trans (Seals.box (d := zd (g i)) 0 rfl h5 rfl) (Seals.sub qS)))
          · refine ord_split 11 12 (by kernel_rfl) (by kernel_rfl) (by kernel_rfl) ?_ ?_
            · refine ord_go [0, 1, 2, 3, 4, 11, 12, 5, 6, 7, 8, 9, 10, 13, 14, 15] (by kernel_rfl) (by kernel_rfl) ?_
              refine index_fact qM i rfl hin fun b1 => ?_
              refine load_fact (d := J (p.getD i z0)) qM (load_J _) fun y1 => ?_
              refine alloc_rule (d := I false []) fun b5 h5 => ?_
              refine alloc_rule (d := I false []) fun b6 h6 => ?_
              refine call_fn (ct) (Seals.refl _ _) qS ?_
              rintro y2 _ _ ⟨rfl, rfl⟩
              refine call_fn (hdv y1 y2) (Seals.refl _ _) qS ?_
              rintro _ _ _ ⟨rfl, y3, y4, rfl, rfl⟩
              refine store_box (d := zd (g i)) 1 rfl h5 rfl (by kernel_rfl) (Reads.fact qM) ?_
              refine store_box (d := zd m) 0 rfl h6 rfl (by kernel_rfl) (Reads.fact qM) ?_
              exact again b5 trivial trivial qF (Seals.trans (Seals.drop 0 _ _) (Seals.trans (Seals.box (d := zd (g i)) 0 rfl h5 rfl) (Seals.sub qS)))
            · refine ord_go [0, 1, 2, 3, 4, 12, 11, 5, 6, 7, 8, 9, 10, 13, 14, 15] (by kernel_rfl) (by kernel_rfl) ?_
              refine index_fact qM i rfl hin fun b1 => ?_
              refine load_fact (d := J (p.getD i z0)) qM (load_J _) fun y1 => ?_
              refine alloc_rule (d := I false []) fun b6 h6 => ?_
              refine alloc_rule (d := I false []) fun b5 h5 => ?_
              refine call_fn (ct) (Seals.refl _ _) qS ?_
              rintro y2 _ _ ⟨rfl, rfl⟩
              refine call_fn (hdv y1 y2) (Seals.refl _ _) qS ?_
              rintro _ _ _ ⟨rfl, y3, y4, rfl, rfl⟩
              refine store_box (d := zd (g i)) 0 rfl h5 rfl (by kernel_rfl) (Reads.fact qM) ?_
              refine store_box (d := zd m) 1 rfl h6 rfl (by kernel_rfl) (Reads.fact qM) ?_
              exact again b5 trivial trivial qF (Seals.trans (Seals.box (d := zd (g i)) 0 rfl h5 rfl) (Seals.trans (Seals.drop 0 _ _) (Seals.sub qS)))
      · rintro b5 _
        simp only
        refine load_fact (d := zd (g i)) qM (load_I _ _) fun y3 => ?_
        refine lit_L (size := 2) (f := J) (z := z0) (e := 26) (cn (g i)) (by decide) (Reads.fact qM) rfl fun y4 => ?_
        refine append_L (size := 2) (e := 26) (f := J) (z := z0) (l := (lst i g).map cn) (m := [cn (g i)]) 0 rfl hvo (Knw.fact qM) (by simp only [List.length_map, hll, List.length_cons, List.length_nil]; omega) (by simp only [List.length_map, hll, List.length_cons, List.length_nil]; omega) fun vn hvn => ?_
        refine ar rfl qI ?_
        refine again (vn, i + 1) ⟨hvn, by simp only; omega⟩ (by simp only; omega) qF ?_
        rw [show (lst i g).map cn ++ [cn (g i)] = (lst (i + 1) g).map cn by rw [lst_snoc, List.map_append]; rfl]
        exact Seals.sub qS
    · have hii : i = n := by omega
      subst hii
      refine call_fn (l1) (Seals.refl _ _) qS ?_
      rintro z1 _ _ ⟨rfl, rfl⟩
      refine call_fn (hsg z1) (Seals.refl _ _) qS ?_
      rintro _ _ _ ⟨rfl, rfl, rfl⟩
      refine cmp_split _ rfl (fun hz => ?_) (fun hz => ?_)
      · have e := e1 (sign_lt.1 hz)
        have ht := fun u => rTimes_meets vo u ((lst i g).map cn) (-1) k hsz.fit ((sz_one _ (by decide)).mono h1k) (by omega) (by rw [List.length_map]; omega)
        rw [vv_cn, e] at ht
        refine call_fn (rOf_meets (-1) (by decide) (by decide)) (Seals.refl _ _) qS ?_
        rintro z2 _ _ ⟨rfl, rfl⟩
        refine call_fn (ht z2) (Seals.toldL hvo) qS ?_
        rintro r _ _ ⟨rfl, rfl⟩
        exact fin ⟨rfl, rfl⟩ (Seals.sub qS)
      · have e := e2 (fun h => hz (sign_lt.2 h))
        have hn := rNormT vo (lst i g) (hsz.mono (by omega)) (by omega)
        rw [e] at hn
        refine call_fn hn (Seals.toldL hvo) qS ?_
        rintro r _ _ ⟨rfl, rfl⟩
        exact fin ⟨rfl, rfl⟩ (Seals.sub qS)
theorem rPrimitiveT (v : Value) (p : List Int) (k : Nat) (hp : szR k p) (h1k : 1 ≤ k) (hk : k ≤ 34359738368) (lp : p.length ≤ 536870912) :
    Meets Tryz.prog 71 [v] [(v, vd p)] (fun r os fs => os = [] ∧ fs = [(r, vd (pprim p))]) := by
  have h := rPrimitive_meets v (p.map cn) k hp.fit h1k hk (by rw [List.length_map]; exact lp)
  rw [vv_cn] at h
  exact h
open Go.RowKit
theorem rRestT (v w : Value) (p q : List Int) (k l : Nat) (hp : szR k p) (hq : szR l q) (h1l : 1 ≤ l) (hlk : l ≤ k) (lp : p.length ≤ 1048576) (lq : q.length ≤ 1048576) (hk : 4 * pks (rks k l p.length) l (p.length + 2) ≤ 34359738368) :
    Meets Tryz.prog 134 [v, w] [(v, vd p), (w, vd q)] (fun r os fs => os = [] ∧ ∃ a b T R, (if dg q = 0 then r = .tuple #[a, b, .int .i64 2] ∧ T = [] ∧ R = [] else r = .tuple #[a, b, .int .i64 0] ∧ RestSpec p q T R ∧ szR (pks (rks k l p.length) l (p.length + 2)) T ∧ szR (pks (rks k l p.length) l (p.length + 2)) R ∧ T.length ≤ p.length ∧ R.length ≤ p.length) ∧ fs = [(a, vd T), (b, vd R)]) := by
  have h := rRest_meets v w (p.map cn) (q.map cn) k l hp.fit hq.fit h1l hlk (by rw [List.length_map]; exact lp) (by rw [List.length_map]; exact lq) (by rw [List.length_map]; exact hk)
  simp only [vv_cn, List.length_map] at h
  exact h
def ce (n e : Nat) : Nat → Nat
  | 0 => e
  | j + 1 => (2 * n + 4) * ce n e j + (3 * n + 6)
theorem ce_le (n e j : Nat) : e ≤ ce n e j := by
  induction j with
  | zero => exact Nat.le_refl _
  | succ j ih =>
    have : 1 * ce n e j ≤ (2 * n + 4) * ce n e j := Nat.mul_le_mul_right _ (by omega)
    show e ≤ (2 * n + 4) * ce n e j + (3 * n + 6)
    omega
theorem ce_shift (n e j : Nat) : ce n (ce n e 1) j = ce n e (j + 1) := by
  induction j with
  | zero => rfl
  | succ j ih => show (2 * n + 4) * ce n (ce n e 1) j + (3 * n + 6) = (2 * n + 4) * ce n e (j + 1) + (3 * n + 6); rw [ih]
theorem pks_ce (n e : Nat) : pks (rks e e n) e (n + 2) = ce n e 1 := by
  show pks (rks e e n) e (n + 2) = (2 * n + 4) * e + (3 * n + 6)
  unfold pks rks
  grind
theorem pks_le {m n e : Nat} (h : m ≤ n) : pks (rks e e m) e (m + 2) ≤ ce n e 1 := by
  rw [← pks_ce]
  have h1 : (m + 1) * (e + 1) ≤ (n + 1) * (e + 1) := Nat.mul_le_mul_right _ (by omega)
  have h2 : (m + 2) * (e + 2) ≤ (n + 2) * (e + 2) := Nat.mul_le_mul_right _ (by omega)
  unfold pks rks
  omega
structure ComSpec (A B G : List Int) : Prop where
  gn : Nm G
  one : 0 < dg G → cont G = 1 ∧ 0 < ld G
  zero : dg G = 0 → dg A = 0 ∧ dg B = 0
  dv : ∀ h, cont h = 1 → (Dv h G ↔ Dv h A ∧ Dv h B)
theorem com_end {A B : List Int} (h0 : dg B = 0) : ComSpec A B (pprim A) :=
  ⟨pprim_nm _, fun h => by rw [pprim_dg] at h; exact ⟨pprim_cont h, pprim_ld h⟩, fun h => by rw [pprim_dg] at h; exact ⟨h, h0⟩,
    fun h hh => by rw [prim_dv hh]; exact ⟨fun k => ⟨k, Dv.zero _ (dg_zero.1 h0)⟩, fun k => k.1⟩⟩
theorem com_step {A B T R G : List Int} (h0 : 0 < dg B) (hs : RestSpec A B T R) (hG : ComSpec (pprim B) (pprim R) G) : ComSpec A B G :=
  ⟨hG.gn, hG.one, fun h => by have := (hG.zero h).1; rw [pprim_dg] at this; omega, fun h hh => by
    have hk0 : ld B ^ (dg A + 1 - dg B) ≠ 0 := by
      have h0 := ld_ne h0
      have : ∀ m : Nat, ld B ^ m ≠ 0 := fun m => by
        induction m with
        | zero => rw [Int.pow_zero]; omega
        | succ m ih => rw [Int.pow_succ]; exact Int.mul_ne_zero ih h0
      exact this _
    rw [hG.dv h hh, gcd_step hh hk0 hs.eq, prim_dv hh]⟩
theorem rCommon_meets (n : Nat) (hn : n ≤ 1048576) (m : Nat) : ∀ (v w : Value) (A B : List Int) (e : Nat), dg B ≤ m → szR e A → szR e B → 1 ≤ e → A.length ≤ n → B.length ≤ n → 4 * ce n e m ≤ 34359738368 →
    Meets Tryz.prog 114 [v, w] [(v, vd A), (w, vd B)] (fun r os fs => os = [] ∧ ∃ G, ComSpec A B G ∧ szR (ce n e m) G ∧ G.length ≤ n ∧ fs = [(r, vd G)]) := by
  induction m with
  | zero =>
    intro v w A B e hm sA sB h1 lA lB hk
    have hce := ce_le n e 0
    have hz : dg B = 0 := by omega
    refine meets_of_vc Tryz.func114 (by kernel_rfl) rfl (by kernel_rfl) (Nat.le_of_ble_eq_true rfl) ?_
    refine call_fn (rDegreeT w B sB (by omega)) (Seals.refl _ _) qS ?_
    rintro _ _ _ ⟨rfl, rfl, rfl⟩
    refine cmp_true rfl (by omega) ?_
    refine call_fn (rPrimitiveT v A e sA h1 (by omega) (by omega)) (Seals.refl _ _) qS ?_
    rintro y1 _ _ ⟨rfl, rfl⟩
    exact fin ⟨rfl, _, com_end hz, sA.pprim.mono hce, Nat.le_trans (pprim_len _) (Nat.le_trans (dg_le_len _) lA), rfl⟩ (Seals.sub qS)
  | succ m ih =>
    intro v w A B e hm sA sB h1 lA lB hk
    have hce := ce_le n e (m + 1)
    refine meets_of_vc Tryz.func114 (by kernel_rfl) rfl (by kernel_rfl) (Nat.le_of_ble_eq_true rfl) ?_
    refine call_fn (rDegreeT w B sB (by omega)) (Seals.refl _ _) qS ?_
    rintro _ _ _ ⟨rfl, rfl, rfl⟩
    by_cases hz : dg B = 0
    · refine cmp_true rfl (by omega) ?_
      refine call_fn (rPrimitiveT v A e sA h1 (by omega) (by omega)) (Seals.refl _ _) qS ?_
      rintro y1 _ _ ⟨rfl, rfl⟩
      exact fin ⟨rfl, _, com_end hz, sA.pprim.mono hce, Nat.le_trans (pprim_len _) (Nat.le_trans (dg_le_len _) lA), rfl⟩ (Seals.sub qS)
    have hb0 : 0 < dg B := by omega
    refine cmp_false rfl (by omega) ?_
    have hpl := pks_le (e := e) lA
    have hc1 := ce_le n (ce n e 1) m
    rw [ce_shift] at hc1
    have he1 := ce_le n e 1
    have hrs := rRestT v w A B e e sA sB h1 (Nat.le_refl _) (by omega) (by omega) (by omega)
    simp only [if_neg hz] at hrs
    refine call_fn hrs (Seals.refl _ _) qS ?_
    rintro _ _ _ ⟨rfl, a, b, T, R, ⟨rfl, hsp, sT, sR, lT, lR⟩, rfl⟩
    have hlow := hsp.low
    have hcs := fun G => com_step (G := G) hb0 hsp
    have ihh := fun u u' => ih u u' (pprim B) (pprim R) (ce n e 1) (by rw [pprim_dg]; omega) (sB.pprim.mono he1) (sR.pprim.mono hpl) (by omega) (Nat.le_trans (pprim_len _) (Nat.le_trans (dg_le_len _) lB)) (Nat.le_trans (pprim_len _) (Nat.le_trans (dg_le_len _) (by omega))) (by rw [ce_shift]; exact hk)
    rw [ce_shift] at ihh
    refine call_fn (rPrimitiveT w B e sB h1 (by omega) (by omega)) (Seals.refl _ _) qS ?_
    rintro y1 _ _ ⟨rfl, rfl⟩
    refine call_fn (rPrimitiveT b R (ce n e 1) (sR.mono hpl) (by omega) (by omega) (by omega)) (Seals.refl _ _) qS ?_
    rintro y2 _ _ ⟨rfl, rfl⟩
    refine call_fn (ihh y1 y2) (Seals.refl _ _) qS ?_
    rintro y3 _ _ ⟨rfl, G, hG, sG, lG, rfl⟩
    exact fin ⟨rfl, G, hcs G hG, sG, lG, rfl⟩ (Seals.sub qS)
theorem rGcdP_meets (v w : Value) (p q : Row) (k n : Nat) (hp : Fit k p) (hq : Fit k q) (h1k : 1 ≤ k) (lp : p.length ≤ n) (lq : q.length ≤ n) (hn : n ≤ 1048576) (hk : 4 * ce n k n ≤ 34359738368) :
    Meets Tryz.prog 73 [v, w] [(v, V p), (w, V q)] (fun r os fs => os = [] ∧ ∃ G, Nm G ∧ Gc G (vv p) (vv q) ∧ fs = [(r, vd G)]) := by
  have hge := ce_le n k n
  have hcs1 : sz (cont (vv p) : Nat) k := cont_sz hp.szR
  have hcs2 : sz (cont (vv q) : Nat) k := cont_sz hq.szR
  have dP : dg (vv p) ≤ n := Nat.le_trans (dg_le_len _) (by rw [vv_len]; exact lp)
  have dQ : dg (vv q) ≤ n := Nat.le_trans (dg_le_len _) (by rw [vv_len]; exact lq)
  have hcg : sz ((Nat.gcd (cont (vv p)) (cont (vv q)) : Nat) : Int) k := by
    by_cases e : cont (vv p) = 0
    · rw [e, Nat.gcd_zero_left]; exact hcs2
    · unfold sz at hcs1 ⊢
      rw [Int.natAbs_natCast] at hcs1 ⊢
      exact Nat.lt_of_le_of_lt (Nat.gcd_le_left _ (Nat.pos_of_ne_zero e)) hcs1
  have hgc := fun u u' => rGcdZ u u' _ _ k k hcs1 hcs2 (by omega) (by omega)
  simp only [Int.natAbs_natCast] at hgc
  have hcm := fun u u' => rCommon_meets n hn n u u' (pprim (vv p)) (pprim (vv q)) k (by rw [pprim_dg]; exact dQ) hp.szR.pprim hq.szR.pprim h1k (Nat.le_trans (pprim_len _) dP) (Nat.le_trans (pprim_len _) dQ) hk
  have hend : ∀ G, ComSpec (pprim (vv p)) (pprim (vv q)) G → Gc (ptim (Nat.gcd (cont (vv p)) (cont (vv q)) : Nat) G) (vv p) (vv q) := fun G hG => gcd_end hG.one (fun h => by have := hG.zero h; rw [pprim_dg, pprim_dg] at this; exact this) hG.dv
  have h1 := rPrimitive_meets v p k hp h1k (by omega) (by omega)
  have h2 := rPrimitive_meets w q k hq h1k (by omega) (by omega)
  have h3 := rContent_meets v p k hp (by omega) (by omega)
  have h4 := rContent_meets w q k hq (by omega) (by omega)
  generalize Nat.gcd (cont (vv p)) (cont (vv q)) = g at *
  refine meets_of_vc Tryz.func73 (by kernel_rfl) rfl (by kernel_rfl) (Nat.le_of_ble_eq_true rfl) ?_
  refine call_fn (h1) (Seals.refl _ _) qS ?_
  rintro x1 _ _ ⟨rfl, rfl⟩
  refine call_fn (h2) (Seals.refl _ _) qS ?_
  rintro x2 _ _ ⟨rfl, rfl⟩
  refine call_fn (hcm x1 x2) (Seals.refl _ _) qS ?_
  rintro x3 _ _ ⟨rfl, G, hG, sG, lG, rfl⟩
  refine call_fn (h3) (Seals.refl _ _) qS ?_
  rintro x4 _ _ ⟨rfl, rfl⟩
  refine call_fn (h4) (Seals.refl _ _) qS ?_
  rintro x5 _ _ ⟨rfl, rfl⟩
  refine call_fn (hgc x4 x5) (Seals.refl _ _) qS ?_
  rintro x6 _ _ ⟨rfl, rfl⟩
  have ht := rTimes_meets x3 x6 (G.map cn) (g : Nat) (ce n k n) sG.fit (hcg.mono hge) (by omega) (by rw [List.length_map]; omega)
  rw [vv_cn] at ht
  refine call_fn (ht) (Seals.refl _ _) qS ?_
  rintro x7 _ _ ⟨rfl, rfl⟩
  exact fin ⟨rfl, _, ptim_nm _ _, hend G hG, rfl⟩ (Seals.sub qS)
theorem rSimple_meets (v : Value) (p : Row) (k n : Nat) (hp : Fit k p) (h1k : 1 ≤ k) (lp : p.length ≤ n) (hn : n ≤ 1000000) (hk : 4 * ce n (k + 1) n ≤ 34359738368) (hd : 2 * pks (dvk (k + 1) n) (dvk (k + 1) n) (n + 2) ≤ 34359738368) :
    Meets Tryz.prog 39 [v] [(v, V p)] (fun r os fs => os = [] ∧ ∃ s, SimSpec (vv p) s ∧ szR (dvk k n) s ∧ fs = [(r, vd s)]) := by
  have hge := ce_le n (k + 1) n
  have h1 := rPrimitive_meets v p k hp h1k (by omega) (by omega)
  have sU := hp.szR.pprim
  have lU : (pprim (vv p)).length ≤ n := Nat.le_trans (pprim_len _) (Nat.le_trans (dg_le_len _) (by rw [vv_len]; exact lp))
  have nU := pprim_nm (vv p)
  have dU := pprim_dg (vv p)
  have hspec : ∀ s g, Nm s → 0 < dg (vv p) → Gc g (pprim (vv p)) (pder (pprim (vv p))) → (∀ x, pev (pprim (vv p)) x = pev g x * pev s x) → SimSpec (vv p) s := fun s g a1 a2 a3 a4 => ⟨a1, fun h => by omega, fun _ => ⟨g, a3, a4⟩⟩
  have hzero : dg (vv p) = 0 → SimSpec (vv p) [] := fun h => ⟨rfl, fun _ => rfl, fun h' => by omega⟩
  rw [dg_nm nU] at dU
  generalize hU : pprim (vv p) = u at *
  have sD := sU.pder (by omega)
  have lD := pder_len u
  have hdk : k ≤ dvk (k + 1) n := by unfold dvk; omega
  have hd1 : 1 ≤ dvk (k + 1) n := by omega
  have hpm := pks_mono (dvk (k + 1) n) (dvk (k + 1) n) (show u.length + 2 ≤ n + 2 by omega)
  have hde := fun x => rDerive_meets x (u.map cn) k sU.fit (by omega) (by rw [List.length_map]; omega)
  have hgc := fun x y => rGcdP_meets x y (u.map cn) ((pder u).map cn) (k + 1) n (sU.mono (by omega)).fit sD.fit (by omega) (by rw [List.length_map]; exact lU) (by rw [List.length_map]; omega) (by omega) hk
  simp only [vv_cn] at hde hgc
  refine meets_of_vc Tryz.func39 (by kernel_rfl) rfl (by kernel_rfl) (Nat.le_of_ble_eq_true rfl) ?_
  refine call_fn (h1) (Seals.refl _ _) qS ?_
  rintro x1 _ _ ⟨rfl, rfl⟩
  refine call_fn (rDegreeT x1 u sU (by omega)) (Seals.refl _ _) qS ?_
  rintro _ _ _ ⟨rfl, rfl, rfl⟩
  refine cmp_split _ rfl (fun hz => ?_) (fun hz => ?_)
  · have hu : u = [] := List.length_eq_zero_iff.1 (by rw [← dg_nm nU]; omega)
    subst hu
    exact fin ⟨rfl, [], hzero dU.symm, fun x hx => by simp at hx, rfl⟩ (Seals.sub qS)
  · have hu0 : 0 < dg u := by omega
    refine call_fn (hde x1) (Seals.refl _ _) qS ?_
    rintro x2 _ _ ⟨rfl, rfl⟩
    refine call_fn (hgc x1 x2) (Seals.refl _ _) qS ?_
    rintro x3 _ _ ⟨rfl, G, nG, gG, rfl⟩
    have hGd := gG.1.deg hu0
    have sG : szR (dvk (k + 1) n) G := dv_szR gG.1 hu0 (sU.mono (by omega)) nG (by rw [dg_nm nU]; exact lU) (by omega)
    have lG : G.length ≤ n := by rw [← dg_nm nG]; rw [dg_nm nU] at hGd; omega
    have hdv := rDivide_meets x1 x3 (u.map cn) (G.map cn) (dvk (k + 1) n) (dvk (k + 1) n) (sU.mono hdk).fit sG.fit hd1 (Nat.le_refl _) (by rw [List.length_map]; omega) (by rw [List.length_map]; omega) (by rw [List.length_map]; omega)
    simp only [vv_cn] at hdv
    refine call_fn hdv (Seals.refl _ _) qS ?_
    rintro _ _ _ ⟨rfl, a, t, e, rfl, hsp, rfl⟩
    obtain ⟨_, ht⟩ := hsp.ok hGd.1 gG.1
    have hs := hspec t G hsp.tn (by rw [dg_nm nU] at hu0; omega) gG ht
    have st : szR (dvk k n) t := dv_szR ⟨G, fun x => by rw [ht, Int.mul_comm]⟩ hu0 sU hsp.tn (by rw [dg_nm nU]; exact lU) (by omega)
    exact fin ⟨rfl, t, hs, st, rfl⟩ (Seals.sub qS)
end Go.Proofs.YtgpcepcbdpigfaaGreat
