/- Towards the statement, part 5 of 6: contracts of functions, and what they rest on. Conditions: each theorem names its own. -/
import Derived.Test.YtajkjlgddmkkaaaM4
import Derived.ProofKit
import Derived.Deep.Slices
set_option linter.unusedVariables false
set_option linter.unusedSimpArgs false

namespace Go.Proofs.Ytajkjlgddmkkaaa
open Go.RowKit

theorem matL_congr {R C : Nat} {x y : Mx} (h : ∀ i j, i < R → j < C → x i j = y i j) : matL R C x = matL R C y :=
  List.map_congr_left fun i hi => List.map_congr_left fun j hj => h i j (List.mem_range.1 hi) (List.mem_range.1 hj)

theorem mulAt_meets (pb pa : Value) (a b : List Row) (k i j : Nat) (ha : Fits k a) (hb : Fits k b) (hk : k ≤ 34359738368) (lb : b.length ≤ 1048576) (hi : i < a.length) (hr : (a.getD i []).length = b.length) (hc : ∀ l, l < b.length → j < (b.getD l []).length) :
    Meets Try.prog 74 [.int .i64 (i : Nat), .int .i64 (j : Nat), pb, pa] [(pb, .ptr (W b)), (pa, .ptr (W a))]
      (fun r os fs => os = [] ∧ fs = [(r, J (cn (isum (fun l => mx (ww a) i l * mx (ww b) l j) b.length)))]) := by
  have hga : ∀ l, l < b.length → mx (ww a) i l = jv ((a.getD i []).getD l z0) := fun l hl => by unfold mx; rw [ww_get, vv_get _ _ (by omega)]
  have hgb : ∀ l, l < b.length → mx (ww b) l j = jv ((b.getD l []).getD j z0) := fun l hl => by unfold mx; rw [ww_get, vv_get _ _ (hc l hl)]
  have hts : ∀ l, l < b.length → sz (mx (ww a) i l * mx (ww b) l j) (k + k) := fun l hl => sz.mul (mx_at ha i l) (mx_at hb l j)
  have hS : ∀ n, n ≤ b.length → sz (isum (fun l => mx (ww a) i l * mx (ww b) l j) n) (k + k + 1) := fun n hn => isum_sz (fun l hl => hts l (by omega)) (by omega)
  generalize hg : (fun l => mx (ww a) i l * mx (ww b) l j) = g at *
  have hgl : ∀ l, l < b.length → g l = jv ((a.getD i []).getD l z0) * jv ((b.getD l []).getD j z0) := fun l hl => by rw [← hg, ← hga l hl, ← hgb l hl]
  have hts' : ∀ l, l < b.length → sz (g l) (k + k + 1) := fun l hl => by rw [← hg]; exact (hts l hl).mono (by omega)
  refine meets_of_vc Try.func74 (by kernel_rfl) rfl (by kernel_rfl) (Nat.le_of_ble_eq_true rfl) ?_
  refine alloc_rule (d := I false []) fun o ho => ?_
  refine build0 (da := .one (.bool false)) (db := U (lims 0)) (fun S w => ⟨[.bool false], [.slice none 0 0], rfl, rd_false S w, by rw [lims_zero]; exact rd_nil S w 1 _⟩) fun z => ?_
  refine alloc_rule (d := I false []) fun s hs => ?_
  refine store_box (d := zd 0) 0 rfl hs rfl (by kernel_rfl) ?_ ?_; exact Reads.fact (by repeat (first | exact List.Mem.head _ | apply List.Mem.tail))
  refine load_fact (d := W b) (by repeat (first | exact List.Mem.head _ | apply List.Mem.tail)) (load_W _) fun x1 => ?_
  refine len_fact (by repeat (first | exact List.Mem.head _ | apply List.Mem.tail)) fun _ => ?_
  refine loop_rule (X := Nat) (fun l => ([(0, .int .i64 (i : Nat)), (1, .int .i64 (j : Nat)), (2, pb), (3, pa), (6, o), (7, s), (11, .int .i64 (b.length : Nat)), (12, .int .i64 (l : Nat))],
    [own1 s 2 1 (fun _ => zd (isum g l)), own1 o 2 1 (fun _ => I false [])], [(pb, .ptr (W b)), (pa, .ptr (W a))])) (fun l => l ≤ b.length) (fun l => b.length - l) rfl ?_ ?_
  · exact again 0 (Nat.zero_le _) trivial (by repeat (first | exact trivial | refine ⟨rfl, ?_⟩ | refine ⟨i64_eq (by first | omega | (simp only; omega)), ?_⟩ | refine ⟨u64_eq (by first | omega | (simp only; omega)), ?_⟩)) (Seals.trans (Seals.box0 rfl) (Seals.sub (by repeat (first | exact Sub.nil _ | refine Sub.cons (by repeat (first | exact List.Mem.head _ | apply List.Mem.tail)) ?_))))
  · rintro l hl
    refine cmp_split _ rfl (fun hd => ?_) (fun hd => ?_)
    · have hlt : l < b.length := by omega
      have hcl := hc l hlt
      have hxa := (ha.get i).get l
      have hxb := (hb.get l).get j
      refine draw_rule [0, 1, 2, 3, 4, 5, 6, 7, 8, 9, 10, 11, 12, 13, 14, 15, 16, 17] [0, 1, 2, 3, 4, 5, 6, 7, 8, 9, 10, 11, 12, 13, 14, 15, 16, 17] (by kernel_rfl) (by kernel_rfl) ?_
      refine load_box (d := zd (isum g l)) 0 rfl hs rfl (load_I _ _) fun y1 => ?_
      refine load_fact (d := W a) (by repeat (first | exact List.Mem.head _ | apply List.Mem.tail)) (load_W _) fun y2 => ?_
      refine index_fact (by repeat (first | exact List.Mem.head _ | apply List.Mem.tail)) i rfl hi fun a1 => ?_
      refine load_fact (d := V (a.getD i [])) (by repeat (first | exact List.Mem.head _ | apply List.Mem.tail)) (load_V _) fun y3 => ?_
      refine index_fact (by repeat (first | exact List.Mem.head _ | apply List.Mem.tail)) l rfl (by omega) fun a2 => ?_
      refine load_fact (d := J ((a.getD i []).getD l z0)) (by repeat (first | exact List.Mem.head _ | apply List.Mem.tail)) (load_J _) fun y4 => ?_
      refine load_fact (d := W b) (by repeat (first | exact List.Mem.head _ | apply List.Mem.tail)) (load_W _) fun y5 => ?_
      refine index_fact (by repeat (first | exact List.Mem.head _ | apply List.Mem.tail)) l rfl hlt fun a3 => ?_
      refine load_fact (d := V (b.getD l [])) (by repeat (first | exact List.Mem.head _ | apply List.Mem.tail)) (load_V _) fun y6 => ?_
      refine index_fact (by repeat (first | exact List.Mem.head _ | apply List.Mem.tail)) j rfl hcl fun a4 => ?_
      refine load_fact (d := J ((b.getD l []).getD j z0)) (by repeat (first | exact List.Mem.head _ | apply List.Mem.tail)) (load_J _) fun y7 => ?_
      refine call_fn (zMulJ y4 y7 ((a.getD i []).getD l z0) ((b.getD l []).getD j z0) hxa.1 (by omega) hxb.1 (by omega)) (Seals.refl _ _) (by repeat (first | exact Sub.nil _ | refine Sub.cons (by repeat (first | exact List.Mem.head _ | apply List.Mem.tail)) ?_)) ?_
      rintro y8 _ _ ⟨rfl, rfl⟩
      rw [← hgl l hlt]
      refine call_fn (zAddZ y1 y8 (isum g l) (g l) _ _ (hS l hl) (hts' l hlt) (by omega) (by omega)) (Seals.refl _ _) (by repeat (first | exact Sub.nil _ | refine Sub.cons (by repeat (first | exact List.Mem.head _ | apply List.Mem.tail)) ?_)) ?_
      rintro y9 _ _ ⟨rfl, rfl⟩
      refine store_box (d := zd (isum g (l + 1))) 0 rfl hs rfl (by kernel_rfl) ?_ ?_; exact Reads.fact (by repeat (first | exact List.Mem.head _ | apply List.Mem.tail))
      refine ar rfl (by first | exact ⟨by omega, by omega⟩ | (simp only [inK]; omega)) ?_
      exact again (l + 1) (by omega) (by simp only; omega) (by repeat (first | exact trivial | refine ⟨rfl, ?_⟩ | refine ⟨i64_eq (by first | omega | (simp only; omega)), ?_⟩ | refine ⟨u64_eq (by first | omega | (simp only; omega)), ?_⟩)) (Seals.trans (Seals.box0 rfl) (Seals.sub (by repeat (first | exact Sub.nil _ | refine Sub.cons (by repeat (first | exact List.Mem.head _ | apply List.Mem.tail)) ?_))))
    · have hlb : l = b.length := by omega
      subst hlb
      refine load_box (d := zd (isum g b.length)) 0 rfl hs rfl (load_I _ _) fun y1 => ?_
      refine store_box (d := zd (isum g b.length)) 1 rfl ho rfl (by kernel_rfl) ?_ ?_; exact Reads.fact (by repeat (first | exact List.Mem.head _ | apply List.Mem.tail))
      refine load_box (d := zd (isum g b.length)) 1 rfl ho rfl (load_I _ _) fun r => ?_
      exact fin ⟨rfl, rfl⟩ (Seals.trans (Seals.drop 0 _ _) (Seals.trans (Seals.drop 0 _ _) (Seals.sub (fs' := [(r, zd (isum g b.length))]) (by repeat (first | exact Sub.nil _ | refine Sub.cons (by repeat (first | exact List.Mem.head _ | apply List.Mem.tail)) ?_)))))

theorem mMul_meets (v w : Value) (a b : List Row) (k : Nat) (ha : Fits k a) (hb : Fits k b) (hk : k ≤ 34359738368) (la : a.length ≤ 1048576) (lb : b.length ≤ 1048576) (lc : (b.getD 0 []).length ≤ 1048576) :
    Meets Try.prog 37 [v, w] [(v, W a), (w, W b)] (fun r os fs => os = [] ∧ ∃ q, r = .tuple #[q, .int .i64 (if fitsProd a b then 0 else 1)] ∧ fs = [(q, wd (if fitsProd a b then prod (ww a) (ww b) else []))]) := by
  refine meets_of_vc Try.func37 (by kernel_rfl) rfl (by kernel_rfl) (Nat.le_of_ble_eq_true rfl) ?_
  refine box_fact (Reads.fact (d := W a) (by repeat (first | exact List.Mem.head _ | apply List.Mem.tail))) fun pa => ?_
  refine box_fact (Reads.fact (d := W b) (by repeat (first | exact List.Mem.head _ | apply List.Mem.tail))) fun pb => ?_
  refine draw_rule [0, 1, 2, 3, 4, 5, 6, 7, 8, 9, 10, 11, 12, 13, 14, 15, 16] [0, 1, 2, 3, 4, 5, 6, 7, 8, 9, 10, 11, 12, 13, 14, 15, 16] (by kernel_rfl) (by kernel_rfl) ?_
  refine load_fact (d := W a) (by repeat (first | exact List.Mem.head _ | apply List.Mem.tail)) (load_W _) fun x1 => ?_
  refine call_fn (mRight_meets x1 a) (Seals.refl _ _) (by repeat (first | exact Sub.nil _ | refine Sub.cons (by repeat (first | exact List.Mem.head _ | apply List.Mem.tail)) ?_)) ?_
  rintro _ _ _ ⟨rfl, rfl, rfl⟩
  by_cases hra : right a
  case neg =>
    rw [decide_eq_false hra, if_neg (fun h : fitsProd a b => hra h.1), if_neg (fun h : fitsProd a b => hra h.1)]
    exact fin ⟨rfl, .slice none 0 0, rfl, rfl⟩ (Seals.cons (Knw.nil 1 _) (Seals.nil _ _))
  rw [decide_eq_true hra]
  refine load_fact (d := W b) (by repeat (first | exact List.Mem.head _ | apply List.Mem.tail)) (load_W _) fun x2 => ?_
  refine call_fn (mRight_meets x2 b) (Seals.refl _ _) (by repeat (first | exact Sub.nil _ | refine Sub.cons (by repeat (first | exact List.Mem.head _ | apply List.Mem.tail)) ?_)) ?_
  rintro _ _ _ ⟨rfl, rfl, rfl⟩
  by_cases hrb : right b
  case neg =>
    rw [decide_eq_false hrb, if_neg (fun h : fitsProd a b => hrb h.2.1), if_neg (fun h : fitsProd a b => hrb h.2.1)]
    exact fin ⟨rfl, .slice none 0 0, rfl, rfl⟩ (Seals.cons (Knw.nil 1 _) (Seals.nil _ _))
  rw [decide_eq_true hrb]
  refine load_fact (d := W b) (by repeat (first | exact List.Mem.head _ | apply List.Mem.tail)) (load_W _) fun x3 => ?_
  refine len_fact (by repeat (first | exact List.Mem.head _ | apply List.Mem.tail)) fun _ => ?_
  refine load_fact (d := W a) (by repeat (first | exact List.Mem.head _ | apply List.Mem.tail)) (load_W _) fun x4 => ?_
  refine index_fact (by repeat (first | exact List.Mem.head _ | apply List.Mem.tail)) 0 rfl hra.1 fun a1 => ?_
  refine load_fact (d := V (a.getD 0 [])) (by repeat (first | exact List.Mem.head _ | apply List.Mem.tail)) (load_V _) fun x5 => ?_
  refine len_fact (by repeat (first | exact List.Mem.head _ | apply List.Mem.tail)) fun _ => ?_
  refine cmp_split _ rfl (fun hd => ?_) (fun hd => ?_)
  · rw [if_neg (fun h : fitsProd a b => hd (by rw [h.2.2])), if_neg (fun h : fitsProd a b => hd (by rw [h.2.2]))]
    exact fin ⟨rfl, .slice none 0 0, rfl, rfl⟩ (Seals.cons (Knw.nil 1 _) (Seals.nil _ _))
  have hfp : fitsProd a b := ⟨hra, hrb, by omega⟩
  have hbl := hfp.2.2
  rw [if_pos hfp, if_pos hfp]
  refine draw_rule [0, 1, 2, 3, 4, 5, 6, 7, 8, 9] [0, 1, 2, 3, 4, 5, 6, 7, 8, 9] (by kernel_rfl) (by kernel_rfl) ?_
  refine load_fact (d := W a) (by repeat (first | exact List.Mem.head _ | apply List.Mem.tail)) (load_W _) fun x6 => ?_
  refine len_fact (by repeat (first | exact List.Mem.head _ | apply List.Mem.tail)) fun _ => ?_
  refine load_fact (d := W b) (by repeat (first | exact List.Mem.head _ | apply List.Mem.tail)) (load_W _) fun x7 => ?_
  refine index_fact (by repeat (first | exact List.Mem.head _ | apply List.Mem.tail)) 0 rfl hrb.1 fun a2 => ?_
  refine load_fact (d := V (b.getD 0 [])) (by repeat (first | exact List.Mem.head _ | apply List.Mem.tail)) (load_V _) fun x8 => ?_
  refine len_fact (by repeat (first | exact List.Mem.head _ | apply List.Mem.tail)) fun _ => ?_
  refine call_fn (mmade_meets a.length (b.getD 0 []).length 74 [pb, pa] [(pb, .ptr (W b)), (pa, .ptr (W a))] (fun i j => cn (isum (fun l => mx (ww a) i l * mx (ww b) l j) b.length))
    (fun i j hi hj => mulAt_meets pb pa a b k i j ha hb hk lb hi (by rw [(hra.get hi).2, hbl]) fun l hl => by rw [(hrb.get hl).2]; exact hj)
    (fun i j _ _ => ⟨Lim_lims _, Nat.le_trans (sz.len (e := k + k + 1) (isum_sz (fun l _ => sz.mul (mx_at ha i l) (mx_at hb l j)) (by omega))) (by omega)⟩) (by omega) (by omega)) (Seals.refl _ _) (by repeat (first | exact Sub.nil _ | refine Sub.cons (by repeat (first | exact List.Mem.head _ | apply List.Mem.tail)) ?_)) ?_
  rintro r _ _ ⟨hv, vs, hvs, rfl, rfl⟩
  refine fin ⟨rfl, r, rfl, rfl⟩ (Seals.trans (Seals.made hv hvs) ?_)
  have e : prod (ww a) (ww b) = matL a.length (b.getD 0 []).length (fun i k => jv (cn (isum (fun l => mx (ww a) i l * mx (ww b) l k) b.length))) := by
    unfold prod matL
    rw [ww_len, ww_len, ww_get, vv_len]
    simp only [jv_cn]
    rfl
  rw [e]
  exact Seals.sub (by repeat (first | exact Sub.nil _ | refine Sub.cons (by repeat (first | exact List.Mem.head _ | apply List.Mem.tail)) ?_))

theorem turnAt_meets (p : Value) (m : List Row) (i k : Nat) (hi : k < m.length) (hk : i < (m.getD k []).length) :
    Meets Try.prog 77 [.int .i64 (i : Nat), .int .i64 (k : Nat), p] [(p, .ptr (W m))] (fun r os fs => os = [] ∧ fs = [(r, J ((m.getD k []).getD i z0))]) := by
  refine meets_of_vc Try.func77 (by kernel_rfl) rfl (by kernel_rfl) (Nat.le_of_ble_eq_true rfl) ?_
  refine alloc_rule (d := I false []) fun o ho => ?_
  refine load_fact (d := W m) (by repeat (first | exact List.Mem.head _ | apply List.Mem.tail)) (load_W _) fun x1 => ?_
  refine index_fact (by repeat (first | exact List.Mem.head _ | apply List.Mem.tail)) k rfl hi fun a1 => ?_
  refine load_fact (d := V (m.getD k [])) (by repeat (first | exact List.Mem.head _ | apply List.Mem.tail)) (load_V _) fun x2 => ?_
  refine index_fact (by repeat (first | exact List.Mem.head _ | apply List.Mem.tail)) i rfl hk fun a2 => ?_
  refine load_fact (d := J ((m.getD k []).getD i z0)) (by repeat (first | exact List.Mem.head _ | apply List.Mem.tail)) (load_J _) fun x3 => ?_
  refine store_box (d := J ((m.getD k []).getD i z0)) 0 rfl ho rfl (by kernel_rfl) ?_ ?_; exact Reads.fact (by repeat (first | exact List.Mem.head _ | apply List.Mem.tail))
  refine load_box (d := J ((m.getD k []).getD i z0)) 0 rfl ho rfl (load_J _) fun r => ?_
  exact fin ⟨rfl, rfl⟩ (Seals.trans (Seals.drop 0 _ _) (Seals.sub (by repeat (first | exact Sub.nil _ | refine Sub.cons (by repeat (first | exact List.Mem.head _ | apply List.Mem.tail)) ?_))))

theorem mTurn_meets (v : Value) (m : List Row) (k : Nat) (hf : Fits k m) (hk : k ≤ 1099511627776) (lm : m.length ≤ 1048576) (lc : (m.getD 0 []).length ≤ 1048576) :
    Meets Try.prog 39 [v] [(v, W m)] (fun r os fs => os = [] ∧ ∃ q, r = .tuple #[q, .int .i64 (if right m then 0 else 1)] ∧ fs = [(q, wd (if right m then turn (ww m) else []))]) := by
  refine meets_of_vc Try.func39 (by kernel_rfl) rfl (by kernel_rfl) (Nat.le_of_ble_eq_true rfl) ?_
  refine box_fact (Reads.fact (d := W m) (by repeat (first | exact List.Mem.head _ | apply List.Mem.tail))) fun p => ?_
  refine load_fact (d := W m) (by repeat (first | exact List.Mem.head _ | apply List.Mem.tail)) (load_W _) fun x1 => ?_
  refine call_fn (mRight_meets x1 m) (Seals.refl _ _) (by repeat (first | exact Sub.nil _ | refine Sub.cons (by repeat (first | exact List.Mem.head _ | apply List.Mem.tail)) ?_)) ?_
  rintro _ _ _ ⟨rfl, rfl, rfl⟩
  by_cases hr : right m
  case neg =>
    rw [decide_eq_false hr, if_neg hr, if_neg hr]
    exact fin ⟨rfl, .slice none 0 0, rfl, rfl⟩ (Seals.cons (Knw.nil 1 _) (Seals.nil _ _))
  rw [decide_eq_true hr, if_pos hr, if_pos hr]
  refine draw_rule [0, 1, 2, 3, 4, 5, 6, 7, 8, 9] [0, 1, 2, 3, 4, 5, 6, 7, 8, 9] (by kernel_rfl) (by kernel_rfl) ?_
  refine load_fact (d := W m) (by repeat (first | exact List.Mem.head _ | apply List.Mem.tail)) (load_W _) fun x2 => ?_
  refine index_fact (by repeat (first | exact List.Mem.head _ | apply List.Mem.tail)) 0 rfl hr.1 fun a2 => ?_
  refine load_fact (d := V (m.getD 0 [])) (by repeat (first | exact List.Mem.head _ | apply List.Mem.tail)) (load_V _) fun x3 => ?_
  refine len_fact (by repeat (first | exact List.Mem.head _ | apply List.Mem.tail)) fun _ => ?_
  refine load_fact (d := W m) (by repeat (first | exact List.Mem.head _ | apply List.Mem.tail)) (load_W _) fun x4 => ?_
  refine len_fact (by repeat (first | exact List.Mem.head _ | apply List.Mem.tail)) fun _ => ?_
  refine call_fn (mmade_meets (m.getD 0 []).length m.length 77 [p] [(p, .ptr (W m))] (fun i j => (m.getD j []).getD i z0)
    (fun i j hi hj => turnAt_meets p m i j hj (by rw [(hr.get hj).2]; exact hi))
    (fun i j _ _ => ⟨((hf.get j).get i).1, Nat.le_trans ((hf.get j).get i).2 hk⟩) (by omega) (by omega)) (Seals.refl _ _) (by repeat (first | exact Sub.nil _ | refine Sub.cons (by repeat (first | exact List.Mem.head _ | apply List.Mem.tail)) ?_)) ?_
  rintro r _ _ ⟨hv, vs, hvs, rfl, rfl⟩
  refine fin ⟨rfl, r, rfl, rfl⟩ (Seals.trans (Seals.made hv hvs) ?_)
  have e : turn (ww m) = matL (m.getD 0 []).length m.length (fun i k => jv ((m.getD k []).getD i z0)) := by
    have e1 : turn (ww m) = matL (m.getD 0 []).length m.length (fun i k => mx (ww m) k i) := by
      unfold turn matL
      rw [ww_len, ww_get, vv_len]; rfl
    rw [e1]
    refine matL_congr fun i j hi hj => ?_
    unfold mx
    rw [ww_get, vv_get _ _ (by rw [(hr.get hj).2]; exact hi)]
  rw [e]
  exact Seals.sub (by repeat (first | exact Sub.nil _ | refine Sub.cons (by repeat (first | exact List.Mem.head _ | apply List.Mem.tail)) ?_))

end Go.Proofs.Ytajkjlgddmkkaaa

namespace Go.Proofs.Ytajkjlgddmkkaaa
open Go.RowKit

/-- Whatever order is drawn, it comes to one of the states of I; from these it goes on. -/
theorem draw_join {P : Program} {N id : Nat} {L : List Oper} {f : Fr} {os : List Own} {fs : List Fact} {K : Next1} {X : Type} (I : X → Fr × List Own × List Fact) (ok : X → Prop)
    (h : DrawK P N id L f os fs fun f os fs => AtK I ok f os fs fun _ => True) (k : ∀ x, ok x → K (I x).1 (I x).2.1 (I x).2.2) : DrawK P N id L f os fs K := by
  refine ⟨fun G Q hQ a w hk hw => ?_⟩
  let Q' : Post := fun e => match e with
    | .normal => fun f os fs => AtK I ok f os fs fun _ => True
    | e => Q e
  refine wp_mono (h.out G Q' rfl a w hk hw) ?_
  rintro e a' w' ⟨f', os', fs', hk', hw', hq⟩
  cases e with
  | normal =>
    obtain ⟨⟨x, hx, _, g1, g2⟩⟩ := hq
    exact ⟨_, _, _, hk'.sub g1, g2 G w' hw', by rw [hQ]; exact k x hx⟩
  | exit id => exact ⟨f', os', fs', hk', hw', hq⟩
  | goto l => exact ⟨f', os', fs', hk', hw', hq⟩
  | ret => exact ⟨f', os', fs', hk', hw', hq⟩
  | panic ch => exact ⟨f', os', fs', hk', hw', hq⟩
  | outgrown => exact ⟨f', os', fs', hk', hw', hq⟩

/-- Rows of numbers of one's own, as they came. -/
def famR (vs : Nat → Value) (m : List Row) : Own := ⟨m.length, vs, 2, fun i => (m.getD i []).length, fun i k => J ((m.getD i []).getD k z0)⟩

theorem take_getD {α : Type} {l : List α} {i j : Nat} (z : α) (h : j < i) : (l.take i).getD j z = l.getD j z := by
  simp [List.getD_eq_getElem?_getD, h]

theorem rowsOwnO_meets (v : Value) (m : List Row) (ll : m.length ≤ 274877906944) (hk : ∀ r, r ∈ m → r.length ≤ 274877906944 ∧ ∀ x, x ∈ r → x.2.length ≤ 1099511627776) :
    Meets Try.prog 15 [v] [(v, W m)] (fun r os fs => isSl r ∧ ∃ vs, (∀ i, i < m.length → isSl (vs i)) ∧ os = [famR vs m, outer r m.length vs] ∧ fs = []) := by
  refine meets_of_vc Try.func15 (by kernel_rfl) rfl (by kernel_rfl) (Nat.le_of_ble_eq_true rfl) ?_
  refine empty_L (α := Value) Dat.one undef (by decide) fun w hw => ?_
  refine loop_rule (X := Nat × Value × List Value) (fun x => ([(0, v), (3, x.2.1), (4, .int .i64 (x.1 : Nat))], [famR (fun i => x.2.2.getD i undef) (m.take x.1), ownL 1 Dat.one undef x.2.1 x.2.2], [(v, W m)]))
    (fun x => x.1 ≤ m.length ∧ isSl x.2.1 ∧ x.2.2.length = x.1 ∧ ∀ i, i < x.1 → isSl (x.2.2.getD i undef)) (fun x => m.length - x.1) rfl ?_ ?_
  · exact again (0, w, []) ⟨Nat.zero_le _, hw, rfl, fun i hi => absurd hi (Nat.not_lt_zero _)⟩ trivial (by repeat (first | exact trivial | refine ⟨rfl, ?_⟩ | refine ⟨i64_eq (by first | omega | (simp only; omega)), ?_⟩ | refine ⟨u64_eq (by first | omega | (simp only; omega)), ?_⟩)) (Seals.trans (Seals.none _ (by simp [famR])) (Seals.sub (by repeat (first | exact Sub.nil _ | refine Sub.cons (by repeat (first | exact List.Mem.head _ | apply List.Mem.tail)) ?_))))
  · rintro ⟨i, w, l⟩ ⟨h1, hw, hl, hs⟩
    simp only at h1 hw hl hs ⊢
    refine len_fact (by repeat (first | exact List.Mem.head _ | apply List.Mem.tail)) fun _ => ?_
    refine cmp_split _ rfl (fun hi => ?_) (fun hi => ?_)
    · have hlt : i < m.length := by omega
      have hr := hk _ (getD_mem [] hlt)
      refine index_fact (by repeat (first | exact List.Mem.head _ | apply List.Mem.tail)) i rfl hlt fun a1 => ?_
      refine load_fact (d := V (m.getD i [])) (by repeat (first | exact List.Mem.head _ | apply List.Mem.tail)) (load_V _) fun x1 => ?_
      refine call_fn (rOwn_meets x1 (m.getD i []) hr.1 hr.2) (Seals.refl _ _) (by repeat (first | exact Sub.nil _ | refine Sub.cons (by repeat (first | exact List.Mem.head _ | apply List.Mem.tail)) ?_)) ?_
      rintro x2 _ _ ⟨rfl, hx2, rfl⟩
      refine lit_L (size := 1) Dat.one undef x2 (by decide) (Reads.one hx2.one) rfl fun l1 => ?_
      refine append_L 2 rfl hw (Knw.fact (by repeat (first | exact List.Mem.head _ | apply List.Mem.tail))) (by simp; omega) (by simp; omega) fun w2 hw2 => ?_
      refine ar rfl (by first | exact ⟨by omega, by omega⟩ | (simp only [inK]; omega)) ?_
      refine again (i + 1, w2, l ++ [x2]) ⟨by simp only; omega, hw2, by simp [hl], fun j hj => ?_⟩ (by simp only; omega) (by repeat (first | exact trivial | refine ⟨rfl, ?_⟩ | refine ⟨i64_eq (by first | omega | (simp only; omega)), ?_⟩ | refine ⟨u64_eq (by first | omega | (simp only; omega)), ?_⟩)) (Seals.trans (Seals.sub (fs' := [(v, W m)]) (by repeat (first | exact Sub.nil _ | refine Sub.cons (by repeat (first | exact List.Mem.head _ | apply List.Mem.tail)) ?_))) ?_)
      · simp only at hj ⊢
        by_cases e : j = i
        · subst e
          have : (l ++ [x2]).getD j undef = x2 := by simp [List.getD_eq_getElem?_getD, ← hl]
          rw [this]; exact hx2
        · have : (l ++ [x2]).getD j undef = l.getD j undef := by simp [List.getD_eq_getElem?_getD, List.getElem?_append_left (show j < l.length by omega)]
          rw [this]; exact hs j (by omega)
      · have hti : (m.take i).length = i := by rw [List.length_take]; omega
        refine Seals.join (F := famR (fun i => l.getD i undef) (m.take i)) (F' := famR (fun j => (l ++ [x2]).getD j undef) (m.take (i + 1))) ?_ rfl rfl (fun j hj => ⟨?_, ?_, fun k hk => ?_⟩) ⟨?_, ?_, fun k hk => ?_⟩
        · show (m.take (i + 1)).length = (m.take i).length + 1
          rw [hti, List.length_take]; omega
        · have hj' : j < i := by rw [← hti]; exact hj
          show (l ++ [x2]).getD j undef = l.getD j undef
          simp [List.getD_eq_getElem?_getD, List.getElem?_append_left (show j < l.length by omega)]
        · have hj' : j < i := by rw [← hti]; exact hj
          show ((m.take (i + 1)).getD j []).length = ((m.take i).getD j []).length
          rw [take_getD [] (by omega), take_getD [] hj']
        · have hj' : j < i := by rw [← hti]; exact hj
          show J (((m.take (i + 1)).getD j []).getD k z0) = J (((m.take i).getD j []).getD k z0)
          rw [take_getD [] (by omega), take_getD [] hj']
        · show (l ++ [x2]).getD (m.take i).length undef = x2
          rw [hti, ← hl]; simp [List.getD_eq_getElem?_getD]
        · show ((m.take (i + 1)).getD (m.take i).length []).length = (m.getD i []).length
          rw [hti, take_getD [] (by omega)]
        · show J (((m.take (i + 1)).getD (m.take i).length []).getD k z0) = J ((m.getD i []).getD k z0)
          rw [hti, take_getD [] (by omega)]
    · have hia : i = m.length := by omega
      subst hia
      refine fin ⟨hw, fun i => l.getD i undef, hs, rfl, rfl⟩ (Seals.trans (Seals.nil _ _) ?_)
      rw [List.take_length]
      have e : ownL 1 Dat.one undef w l = outer w m.length fun i => l.getD i undef := by unfold ownL outer; rw [hl]
      rw [e]
      exact Seals.refl _ _

/-- Rows of one's own become a fact. -/
theorem Seals.madeR {v : Value} {vs : Nat → Value} {m : List Row} {os : List Own} {fs : List Fact} (hv : isSl v) (hs : ∀ i, i < m.length → isSl (vs i)) :
    Seals (famR vs m :: outer v m.length vs :: os) fs os ((v, W m) :: fs) :=
  Seals.trans (Seals.rows (F := famR vs m) hv hs) (Seals.cons (Knw.cast (Knw.sl_cong (e' := fun i => V (m.getD i [])) (Knw.fact (List.Mem.head _)) fun _ _ => rfl) rfl) (Seals.sub fun _ hF => .tail _ hF))

theorem index_famR {kk : IntKind} {z : Int} {vs : Nat → Value} {m : List Row} {os : List Own} {fs : List Fact} {K : Cont} (pos i : Nat) (h : nthOwn os pos = some (famR vs m)) (hi : i < m.length) (hs : isSl (vs i)) (j : Nat) (hz : z = (j : Int)) (hj : j < (m.getD i []).length)
    (k : K (eptr (vs i) (j * 2)) os fs) : IndexAddrK Try.prog 37 (vs i) (.int kk z) os fs K :=
  index_own (o := famR vs m) pos i h hi (fun r => by obtain ⟨a, n, c, e⟩ := hs; show vs i ≠ _; rw [e]; simp) j hz hj k

theorem getD_set2 {m : List Row} {i a : Nat} {r : Row} (h : i < m.length) : (m.set i r).getD a [] = if a = i then r else m.getD a [] := by
  simp only [List.getD_eq_getElem?_getD, List.getElem?_set]
  by_cases e : i = a
  · subst e; simp [h]
  · simp [e, Ne.symm e]

theorem store_R {u : Value} {vs : Nat → Value} {m : List Row} {os : List Own} {fs : List Fact} {K : Cont} (pos i j : Nat) (h : nthOwn os pos = some (famR vs m)) (hi : i < m.length) (hj : j < (m.getD i []).length) (x : Bool × List Nat)
    (hu : Reads os fs u (J x)) (k : K undef (setOwn os pos (famR vs (m.set i ((m.getD i []).set j x)))) fs) :
    StoreK Try.prog 28 (eptr (vs i) (j * 2)) u os fs K :=
  store_fam (d := J x) pos i (famR vs (m.set i ((m.getD i []).set j x))) h hi j hj rfl (by kernel_rfl) hu (by simp [famR]) rfl (fun a ha => by
    have ha' : a < m.length := ha
    refine ⟨rfl, ?_, fun b hb => ?_⟩
    · show ((m.set i ((m.getD i []).set j x)).getD a []).length = (m.getD a []).length
      rw [getD_set2 hi]
      by_cases e : a = i
      · rw [if_pos e, List.length_set, e]
      · rw [if_neg e]
    · show J (((m.set i ((m.getD i []).set j x)).getD a []).getD b z0) = if a = i ∧ b = j then J x else J ((m.getD a []).getD b z0)
      rw [getD_set2 hi]
      by_cases e : a = i
      · rw [if_pos e, getD_setL hj]
        by_cases e2 : b = j
        · rw [if_pos e2, if_pos ⟨e, e2⟩]
        · rw [if_neg e2, if_neg (fun h => e2 h.2), e]
      · rw [if_neg e, if_neg (fun h => e h.1)]) k

/-- b in the place of column c, of the first n rows. -/
def colPut (m : List Row) (b : Row) (c n : Nat) : List Row := (List.range m.length).map fun i => if i < n then (m.getD i []).set c (b.getD i z0) else m.getD i []

theorem colPut_len (m : List Row) (b : Row) (c n : Nat) : (colPut m b c n).length = m.length := by unfold colPut; simp
theorem colPut_get {m : List Row} (b : Row) (c n : Nat) {i : Nat} (h : i < m.length) : (colPut m b c n).getD i [] = if i < n then (m.getD i []).set c (b.getD i z0) else m.getD i [] := by
  unfold colPut; simp [List.getD_eq_getElem?_getD, h]
theorem colPut_zero (m : List Row) (b : Row) (c : Nat) : colPut m b c 0 = m := by
  refine row_eq_of_getD [] (colPut_len _ _ _ _) fun i hi => ?_
  rw [colPut_len] at hi
  rw [colPut_get _ _ _ hi, if_neg (Nat.not_lt_zero _)]
theorem colPut_step {m : List Row} (b : Row) (c n : Nat) (h : n < m.length) : (colPut m b c n).set n (((colPut m b c n).getD n []).set c (b.getD n z0)) = colPut m b c (n + 1) := by
  refine row_eq_of_getD [] (by simp [colPut_len]) fun i hi => ?_
  rw [List.length_set, colPut_len] at hi
  rw [getD_set2 (by rw [colPut_len]; exact h), colPut_get b c n h, colPut_get b c (n + 1) hi, if_neg (Nat.lt_irrefl n), colPut_get b c n hi]
  by_cases e : i = n
  · subst e; rw [if_pos rfl, if_pos (by omega)]
  · rw [if_neg e]
    by_cases e2 : i < n
    · rw [if_pos e2, if_pos (by omega)]
    · rw [if_neg e2, if_neg (by omega)]

theorem colPut_sq {m : List Row} {b : Row} {k n c : Nat} (h : Sq n k m) (hb : Fit k b) : Sq n k (colPut m b c n) := by
  have hrow : ∀ r, r ∈ colPut m b c n → ∃ i, i < m.length ∧ r = (m.getD i []).set c (b.getD i z0) := fun r hr => by
    obtain ⟨i, hi, e⟩ := mem_getD [] hr
    rw [colPut_len] at hi
    rw [colPut_get b c n hi, if_pos (by rw [← h.rows]; exact hi)] at e
    exact ⟨i, hi, e.symm⟩
  refine ⟨by rw [colPut_len, h.rows], fun r hr => ?_, fun r hr x hx => ?_⟩
  · obtain ⟨i, hi, rfl⟩ := hrow r hr
    rw [List.length_set]; exact h.cols _ (getD_mem [] hi)
  · obtain ⟨i, hi, rfl⟩ := hrow r hr
    rcases List.mem_or_eq_of_mem_set hx with hx | rfl
    · exact (h.fits.get i) x hx
    · exact hb.get i

/-- What solves, by the document. -/
def rsolve (m : List Row) (b : Row) : List Int × Int × Int :=
  if ¬ (square m ∧ b.length = m.length) then ([], 0, 1)
  else if rdet m.length (ww m) = 0 then ([], 0, 8)
  else ((List.range m.length).map fun c => rdet m.length (ww (colPut m b c m.length)), rdet m.length (ww m), 0)

theorem rSolve_meets (v w : Value) (m : List Row) (b : Row) (k : Nat) (hf : Fits k m) (hb : Fit k b) (lm : m.length ≤ 262144) (hk : (k + 1) * m.length ≤ 4294967296) :
    Meets Try.prog 27 [v, w] [(v, W m), (w, V b)] (fun r os fs => os = [] ∧ ∃ q d, r = .tuple #[q, d, .int .i64 (rsolve m b).2.2] ∧ fs = [(q, vd (rsolve m b).1), (d, zd (rsolve m b).2.1)]) := by
  refine meets_of_vc Try.func27 (by kernel_rfl) rfl (by kernel_rfl) (Nat.le_of_ble_eq_true rfl) ?_
  refine alloc_rule (d := I false []) fun o ho => ?_
  refine call_fn (rSquare_meets v m) (Seals.refl _ _) (by repeat (first | exact Sub.nil _ | refine Sub.cons (by repeat (first | exact List.Mem.head _ | apply List.Mem.tail)) ?_)) ?_
  rintro _ _ _ ⟨rfl, rfl, rfl⟩
  by_cases hs : square m
  case neg =>
    rw [decide_eq_false hs]
    have e : rsolve m b = ([], 0, 1) := if_pos (fun h => hs h.1)
    rw [e]
    refine build0 (da := .one (.bool false)) (db := U (lims 0)) (fun S w => ⟨[.bool false], [.slice none 0 0], rfl, rd_false S w, by rw [lims_zero]; exact rd_nil S w 1 _⟩) fun z => ?_
    refine store_box (d := zd 0) 0 rfl ho rfl (by kernel_rfl) ?_ ?_; exact Reads.fact (by repeat (first | exact List.Mem.head _ | apply List.Mem.tail))
    refine load_box (d := zd 0) 0 rfl ho rfl (load_I _ _) fun r => ?_
    exact fin ⟨rfl, .slice none 0 0, r, rfl, rfl⟩ (Seals.trans (Seals.drop 0 _ _) (Seals.cons (Knw.nil 2 _) (Seals.sub (fs' := [(r, zd 0)]) (by repeat (first | exact Sub.nil _ | refine Sub.cons (by repeat (first | exact List.Mem.head _ | apply List.Mem.tail)) ?_)))))
  rw [decide_eq_true hs]
  refine len_fact (by repeat (first | exact List.Mem.head _ | apply List.Mem.tail)) fun _ => ?_
  refine len_fact (by repeat (first | exact List.Mem.head _ | apply List.Mem.tail)) fun _ => ?_
  refine cmp_split _ rfl (fun hl => ?_) (fun hl => ?_)
  · have e : rsolve m b = ([], 0, 1) := if_pos (fun h => hl (by rw [h.2]))
    rw [e]
    refine build0 (da := .one (.bool false)) (db := U (lims 0)) (fun S w => ⟨[.bool false], [.slice none 0 0], rfl, rd_false S w, by rw [lims_zero]; exact rd_nil S w 1 _⟩) fun z => ?_
    refine store_box (d := zd 0) 0 rfl ho rfl (by kernel_rfl) ?_ ?_; exact Reads.fact (by repeat (first | exact List.Mem.head _ | apply List.Mem.tail))
    refine load_box (d := zd 0) 0 rfl ho rfl (load_I _ _) fun r => ?_
    exact fin ⟨rfl, .slice none 0 0, r, rfl, rfl⟩ (Seals.trans (Seals.drop 0 _ _) (Seals.cons (Knw.nil 2 _) (Seals.sub (fs' := [(r, zd 0)]) (by repeat (first | exact Sub.nil _ | refine Sub.cons (by repeat (first | exact List.Mem.head _ | apply List.Mem.tail)) ?_)))))
  have hbl : b.length = m.length := by omega
  have e0 : rsolve m b = if rdet m.length (ww m) = 0 then ([], 0, 8)
    else ((List.range m.length).map fun c => rdet m.length (ww (colPut m b c m.length)), rdet m.length (ww m), 0) := if_neg (fun h => h ⟨hs, hbl⟩)
  have hsq := sq_of hs hf
  have hmem : ∀ r, r ∈ m → r.length ≤ 274877906944 ∧ ∀ x, x ∈ r → x.2.length ≤ 1099511627776 := fun r hr => ⟨by rw [hsq.cols r hr]; omega, fun x hx => by
    have h1 := (hf r hr x hx).2
    have h2 : k + 1 ≤ (k + 1) * m.length := Nat.le_mul_of_pos_right _ hs.1.1
    omega⟩
  have hc : ∀ i, i < m.length → (m.getD i []).length = m.length := fun i hi => hsq.cols _ (getD_mem [] hi)
  obtain ⟨n, hn⟩ : ∃ n, m.length = n + 1 := ⟨m.length - 1, by have := hs.1.1; omega⟩
  refine call_fn (rdet_meets n v m k (by omega) (hn ▸ hsq) (by rw [← hn]; exact hk)) (Seals.refl _ _) (by repeat (first | exact Sub.nil _ | refine Sub.cons (by repeat (first | exact List.Mem.head _ | apply List.Mem.tail)) ?_)) ?_
  rintro dv _ _ ⟨rfl, rfl⟩
  rw [← hn]
  have hD : sz (rdet m.length (ww m)) 4294967296 := (rdet_sz m.length m k (by omega) hsq).mono hk
  generalize hDe : rdet m.length (ww m) = D at *
  refine alloc_rule (d := I false []) fun l hl' => ?_
  refine store_box (d := zd D) 0 rfl hl' rfl (by kernel_rfl) ?_ ?_; exact Reads.fact (by repeat (first | exact List.Mem.head _ | apply List.Mem.tail))
  refine load_box (d := zd D) 0 rfl hl' rfl (load_I _ _) fun u1 => ?_
  have hsg := rSign_meets u1 (decide (D < 0)) (lims D.natAbs) (Lim_lims _) (Nat.le_trans hD.len (by omega))
  rw [iv_zd] at hsg
  refine call_fn hsg (Seals.refl _ _) (by repeat (first | exact Sub.nil _ | refine Sub.cons (by repeat (first | exact List.Mem.head _ | apply List.Mem.tail)) ?_)) ?_
  rintro _ _ _ ⟨rfl, rfl, rfl⟩
  refine cmp_split _ rfl (fun h0 => ?_) (fun h0 => ?_)
  · rw [if_pos (Int.sign_eq_zero_iff_zero.1 h0)] at e0
    rw [e0]
    refine build0 (da := .one (.bool false)) (db := U (lims 0)) (fun S w => ⟨[.bool false], [.slice none 0 0], rfl, rd_false S w, by rw [lims_zero]; exact rd_nil S w 1 _⟩) fun z => ?_
    refine store_box (d := zd 0) 1 rfl ho rfl (by kernel_rfl) ?_ ?_; exact Reads.fact (by repeat (first | exact List.Mem.head _ | apply List.Mem.tail))
    refine load_box (d := zd 0) 1 rfl ho rfl (load_I _ _) fun r => ?_
    exact fin ⟨rfl, .slice none 0 0, r, rfl, rfl⟩ (Seals.trans (Seals.drop 0 _ _) (Seals.trans (Seals.drop 0 _ _) (Seals.cons (Knw.nil 2 _) (Seals.sub (fs' := [(r, zd 0)]) (by repeat (first | exact Sub.nil _ | refine Sub.cons (by repeat (first | exact List.Mem.head _ | apply List.Mem.tail)) ?_))))))
  rw [if_neg (fun e => h0 (Int.sign_eq_zero_iff_zero.2 e))] at e0
  rw [e0]
  let g : Nat → Int := fun c => rdet m.length (ww (colPut m b c m.length))
  refine empty_L J z0 (by decide) fun x hx => ?_
  refine loop_rule (X := Nat × Value) (fun y => ([(0, v), (1, w), (5, o), (7, l), (8, y.2), (9, .int .i64 (y.1 : Nat))],
    [ownL 2 J z0 y.2 ((List.range y.1).map fun c => cn (g c)), own1 l 2 1 (fun _ => zd D), own1 o 2 1 (fun _ => I false [])], [(w, V b), (v, W m)]))
    (fun y => y.1 ≤ m.length ∧ isSl y.2) (fun y => m.length - y.1) rfl ?_ ?_
  · exact again (0, x) ⟨Nat.zero_le _, hx⟩ trivial (by repeat (first | exact trivial | refine ⟨rfl, ?_⟩ | refine ⟨i64_eq (by first | omega | (simp only; omega)), ?_⟩ | refine ⟨u64_eq (by first | omega | (simp only; omega)), ?_⟩)) (Seals.trans (Seals.box1 rfl) (Seals.sub (by repeat (first | exact Sub.nil _ | refine Sub.cons (by repeat (first | exact List.Mem.head _ | apply List.Mem.tail)) ?_))))
  · rintro ⟨c, x⟩ ⟨hc1, hx⟩
    simp only at hc1 hx ⊢
    refine len_fact (by repeat (first | exact List.Mem.head _ | apply List.Mem.tail)) fun _ => ?_
    refine cmp_split _ rfl (fun hlt => ?_) (fun hlt => ?_)
    · have hcm : c < m.length := by omega
      refine call_fn (rowsOwnO_meets v m (by omega) hmem) (Seals.refl _ _) (by repeat (first | exact Sub.nil _ | refine Sub.cons (by repeat (first | exact List.Mem.head _ | apply List.Mem.tail)) ?_)) ?_
      rintro u _ _ ⟨hu, vs, hvs, rfl, rfl⟩
      refine loop_rule (X := Nat) (fun i => ([(0, v), (1, w), (5, o), (7, l), (8, x), (9, .int .i64 (c : Nat)), (10, u), (11, .int .i64 (i : Nat))],
        [famR vs (colPut m b c i), outer u m.length vs, ownL 2 J z0 x ((List.range c).map fun c => cn (g c)), own1 l 2 1 (fun _ => zd D), own1 o 2 1 (fun _ => I false [])], [(w, V b), (v, W m)]))
        (fun i => i ≤ m.length) (fun i => m.length - i) rfl ?_ ?_
      · refine again 0 (Nat.zero_le _) trivial (by repeat (first | exact trivial | refine ⟨rfl, ?_⟩ | refine ⟨i64_eq (by first | omega | (simp only; omega)), ?_⟩ | refine ⟨u64_eq (by first | omega | (simp only; omega)), ?_⟩)) ?_
        simp only [colPut_zero]
        exact Seals.sub (by repeat (first | exact Sub.nil _ | refine Sub.cons (by repeat (first | exact List.Mem.head _ | apply List.Mem.tail)) ?_))
      · rintro i hi1
        refine len_fact (by repeat (first | exact List.Mem.head _ | apply List.Mem.tail)) fun _ => ?_
        refine cmp_split _ rfl (fun hi => ?_) (fun hi => ?_)
        · have him : i < m.length := by omega
          have hlen : ((colPut m b c i).getD i []).length = m.length := by rw [colPut_get b c i him, if_neg (Nat.lt_irrefl i), hc i him]
          refine draw_rule [0, 1, 2, 3, 4, 5, 6, 7, 8, 9, 10] [0, 1, 2, 3, 4, 5, 6, 7, 8, 9, 10] (by kernel_rfl) (by kernel_rfl) ?_
          refine index_elem 1 rfl hu i rfl him ?_
          refine load_one_elem 1 rfl i him (u := vs i) rfl ?_
          refine index_fact (by repeat (first | exact List.Mem.head _ | apply List.Mem.tail)) i rfl (by omega) fun a1 => ?_
          refine load_fact (d := J (b.getD i z0)) (by repeat (first | exact List.Mem.head _ | apply List.Mem.tail)) (load_J _) fun x1 => ?_
          refine index_famR 0 i rfl (by rw [colPut_len]; exact him) (hvs i him) c rfl (by rw [hlen]; exact hcm) ?_
          refine store_R 0 i c rfl (by rw [colPut_len]; exact him) (by rw [hlen]; exact hcm) (b.getD i z0) (Reads.fact (by repeat (first | exact List.Mem.head _ | apply List.Mem.tail))) ?_
          rw [colPut_step b c i him]
          refine ar rfl (by first | exact ⟨by omega, by omega⟩ | (simp only [inK]; omega)) ?_
          exact again (i + 1) (by omega) (by simp only; omega) (by repeat (first | exact trivial | refine ⟨rfl, ?_⟩ | refine ⟨i64_eq (by first | omega | (simp only; omega)), ?_⟩ | refine ⟨u64_eq (by first | omega | (simp only; omega)), ?_⟩)) (Seals.sub (by repeat (first | exact Sub.nil _ | refine Sub.cons (by repeat (first | exact List.Mem.head _ | apply List.Mem.tail)) ?_)))
        · have him : i = m.length := by omega
          subst him
          have hsq' := colPut_sq (c := c) hsq hb
          have hse : Seals (famR vs (colPut m b c m.length) :: outer u m.length vs :: [ownL 2 J z0 x ((List.range c).map fun c => cn (g c)), own1 l 2 1 (fun _ => zd D), own1 o 2 1 (fun _ => I false [])]) [(w, V b), (v, W m)]
              [ownL 2 J z0 x ((List.range c).map fun c => cn (g c)), own1 l 2 1 (fun _ => zd D), own1 o 2 1 (fun _ => I false [])] ((u, W (colPut m b c m.length)) :: [(w, V b), (v, W m)]) := by
            have := Seals.madeR (v := u) (vs := vs) (m := colPut m b c m.length) (os := [ownL 2 J z0 x ((List.range c).map fun c => cn (g c)), own1 l 2 1 (fun _ => zd D), own1 o 2 1 (fun _ => I false [])]) (fs := [(w, V b), (v, W m)]) hu (fun i hi => hvs i (by rw [colPut_len] at hi; exact hi))
            rw [colPut_len] at this
            exact this
          refine call_fn (rdet_meets n u (colPut m b c m.length) k (by omega) (hn ▸ hsq') (by rw [← hn]; exact hk)) hse (by repeat (first | exact Sub.nil _ | refine Sub.cons (by repeat (first | exact List.Mem.head _ | apply List.Mem.tail)) ?_)) ?_
          rintro dv2 _ _ ⟨rfl, rfl⟩
          rw [← hn]
          refine lit_L (size := 2) J z0 (cn (g c)) (by decide) (Reads.fact (d := zd (g c)) (by repeat (first | exact List.Mem.head _ | apply List.Mem.tail))) rfl fun l1 => ?_
          refine append_L 0 rfl hx (Knw.fact (by repeat (first | exact List.Mem.head _ | apply List.Mem.tail))) (by simp; omega) (by simp; omega) fun x2 hx2 => ?_
          refine ar rfl (by first | exact ⟨by omega, by omega⟩ | (simp only [inK]; omega)) ?_
          refine again (c + 1, x2) ⟨by simp only; omega, hx2⟩ (by simp only; omega) (by repeat (first | exact trivial | refine ⟨rfl, ?_⟩ | refine ⟨i64_eq (by first | omega | (simp only; omega)), ?_⟩ | refine ⟨u64_eq (by first | omega | (simp only; omega)), ?_⟩)) ?_
          simp only [range_snoc_map]
          exact Seals.sub (by repeat (first | exact Sub.nil _ | refine Sub.cons (by repeat (first | exact List.Mem.head _ | apply List.Mem.tail)) ?_))
    · have hcm : c = m.length := by omega
      subst hcm
      refine draw_rule [0, 1, 2, 3, 4] [0, 2, 1, 3, 4] (by kernel_rfl) (by kernel_rfl) ?_
      refine load_box (d := zd D) 1 rfl hl' rfl (load_I _ _) fun u2 => ?_
      refine store_box (d := zd D) 2 rfl ho rfl (by kernel_rfl) ?_ ?_; exact Reads.fact (by repeat (first | exact List.Mem.head _ | apply List.Mem.tail))
      refine load_box (d := zd D) 2 rfl ho rfl (load_I _ _) fun r => ?_
      refine fin ⟨rfl, x, r, rfl, rfl⟩ (Seals.trans (Seals.L 0 rfl hx) (Seals.trans (Seals.drop 0 _ _) (Seals.trans (Seals.drop 0 _ _) (Seals.cons ((Knw.fact (by repeat (first | exact List.Mem.head _ | apply List.Mem.tail))).cast ?_) (Seals.sub (fs' := [(r, zd D)]) (by repeat (first | exact Sub.nil _ | refine Sub.cons (by repeat (first | exact List.Mem.head _ | apply List.Mem.tail)) ?_)))))))
      unfold vd V
      rw [List.map_map]
      rfl

end Go.Proofs.Ytajkjlgddmkkaaa

namespace Go.Proofs.Ytajkjlgddmkkaaa
open Go.RowKit

theorem get_cn (m : List (List Int)) (i : Nat) : ((m.map (·.map cn)).getD i []) = (m.getD i []).map cn := by
  by_cases h : i < m.length
  · simp [List.getD_eq_getElem?_getD, h]
  · simp [List.getD_eq_getElem?_getD, h]

theorem right_cn (m : List (List Int)) : right (m.map (·.map cn)) ↔ right m := by
  unfold right
  rw [List.length_map, get_cn, List.length_map]
  constructor
  · rintro ⟨h1, h2⟩
    exact ⟨h1, fun r hr => by have := h2 _ (List.mem_map.2 ⟨r, hr, rfl⟩); rwa [List.length_map] at this⟩
  · rintro ⟨h1, h2⟩
    refine ⟨h1, fun r hr => ?_⟩
    obtain ⟨r', hr', rfl⟩ := List.mem_map.1 hr
    rw [List.length_map]; exact h2 r' hr'

theorem square_cn (m : List (List Int)) : square (m.map (·.map cn)) ↔ square m := by
  unfold square
  rw [right_cn, get_cn, List.length_map, List.length_map]

theorem right_ww (m : List Row) : right (ww m) ↔ right m := by
  unfold right
  rw [ww_len, ww_get, vv_len]
  constructor
  · rintro ⟨h1, h2⟩
    exact ⟨h1, fun r hr => by have := h2 _ (List.mem_map.2 ⟨r, hr, rfl⟩); rwa [vv_len] at this⟩
  · rintro ⟨h1, h2⟩
    refine ⟨h1, fun r hr => ?_⟩
    obtain ⟨r', hr', rfl⟩ := List.mem_map.1 hr
    rw [vv_len]; exact h2 r' hr'

theorem square_ww (m : List Row) : square (ww m) ↔ square m := by
  unfold square
  rw [right_ww, ww_get, vv_len, ww_len]

/-- All numbers are of at most e limbs. -/
def szM (e : Nat) (m : List (List Int)) : Prop := ∀ r, r ∈ m → ∀ x, x ∈ r → sz x e
def szR (e : Nat) (l : List Int) : Prop := ∀ x, x ∈ l → sz x e

theorem szM.fits {e : Nat} {m : List (List Int)} (h : szM e m) : Fits e (m.map (·.map cn)) := fun r hr => by
  obtain ⟨r', hr', rfl⟩ := List.mem_map.1 hr
  exact Fit_cn fun x hx => h r' hr' x hx

-- Told matrices.
theorem detW (v : Value) (m : List (List Int)) (e : Nat) (d : Int) (hs : square m) (hd : det m.length (mx m) = d) (hz : szM e m) (lm : m.length ≤ 1048576) (hk : Eb e m.length ≤ 17179869184) :
    Meets Try.prog 16 [v] [(v, wd m)] (fun r os fs => os = [] ∧ ∃ q, r = .tuple #[q, .int .i64 0] ∧ fs = [(q, zd d)]) := by
  have h := mDet_meets v (m.map (·.map cn)) e hz.fits (by rw [List.length_map]; exact lm) (by rw [List.length_map]; exact hk)
  rw [if_pos ((square_cn m).2 hs), if_pos ((square_cn m).2 hs), ww_cn, List.length_map, hd] at h
  exact h

theorem rankW (v : Value) (m : List (List Int)) (e : Nat) (n : Nat) (hs : right m) (hn : (bar m.length (m.getD 0 []).length (mx m)).step = n) (hz : szM e m) (lm : m.length ≤ 1048576) (lc : (m.getD 0 []).length ≤ 1048576) (hk : Eb e (m.getD 0 []).length ≤ 17179869184) :
    Meets Try.prog 18 [v] [(v, wd m)] (fun r os fs => os = [] ∧ fs = [] ∧ r = .tuple #[.int .i64 (n : Nat), .int .i64 0]) := by
  have hl : ((m.map (·.map cn)).getD 0 []).length = (m.getD 0 []).length := by rw [get_cn, List.length_map]
  have h := mRank_meets v (m.map (·.map cn)) e hz.fits (by rw [List.length_map]; exact lm) (by rw [hl]; exact lc) (by rw [hl]; exact hk)
  rw [if_pos ((right_cn m).2 hs), if_pos ((right_cn m).2 hs), ww_cn, List.length_map, hl, hn] at h
  exact h

theorem adjW (v : Value) (m : List (List Int)) (e : Nat) (x : List (List Int)) (hs : square m) (hx : madj m = x) (hz : szM e m) (lm : m.length ≤ 1048575) (hk : Eb e m.length ≤ 17179869184) :
    Meets Try.prog 24 [v] [(v, wd m)] (fun r os fs => os = [] ∧ ∃ q, r = .tuple #[q, .int .i64 0] ∧ fs = [(q, wd x)]) := by
  have h := mAdjugate_meets v (m.map (·.map cn)) e hz.fits (by rw [List.length_map]; exact lm) (by rw [List.length_map]; exact hk)
  rw [if_pos ((square_cn m).2 hs), if_pos ((square_cn m).2 hs), ww_cn, hx] at h
  exact h

theorem solW (v w : Value) (m : List (List Int)) (b : List Int) (e : Nat) (x : List Int) (d : Int) (hs : square m) (hb : b.length = m.length) (hd : det m.length (mx m) = d) (h0 : d ≠ 0)
    (hx : ((List.range m.length).map fun c => det m.length (cw (mx m) c fun i => b.getD i 0)) = x) (hz : szM e m) (hzb : szR e b) (lm : m.length ≤ 1048575) (hk : Eb e m.length ≤ 17179869184) :
    Meets Try.prog 26 [v, w] [(v, wd m), (w, vd b)] (fun r os fs => os = [] ∧ ∃ q u, r = .tuple #[q, u, .int .i64 0] ∧ fs = [(q, vd x), (u, zd d)]) := by
  have h := mSolve_meets v w (m.map (·.map cn)) (b.map cn) e hz.fits (Fit_cn hzb) (by rw [List.length_map]; exact lm) (by rw [List.length_map]; exact hk)
  have hm : msolve (m.map (·.map cn)) (b.map cn) = (x, d, 0) := by
    unfold msolve
    rw [if_neg (fun h => h ⟨(square_cn m).2 hs, by rw [List.length_map, List.length_map, hb]⟩), ww_cn, List.length_map, hd, if_neg h0, vv_cn, hx]
  rw [hm] at h
  exact h

theorem sylW (v w : Value) (p q : List Int) (e : Nat) (x : List (List Int)) (hs : ¬ bare p q) (hx : syl p q = x) (hp : szR e p) (hq : szR e q) (hk : e ≤ 137438953472) (lp : p.length ≤ 262144) (lq : q.length ≤ 262144) :
    Meets Try.prog 29 [v, w] [(v, vd p), (w, vd q)] (fun r os fs => os = [] ∧ ∃ u, r = .tuple #[u, .int .i64 0] ∧ fs = [(u, wd x)]) := by
  have h := mSylvester_meets v w (p.map cn) (q.map cn) e (Fit_cn hp) (Fit_cn hq) hk (by rw [List.length_map]; exact lp) (by rw [List.length_map]; exact lq)
  rw [vv_cn, vv_cn, if_neg hs, if_neg hs, hx] at h
  exact h

theorem resW (v w : Value) (p q : List Int) (e : Nat) (x : Int) (hx : mres p q = x) (hp : szR e p) (hq : szR e q) (lp : p.length ≤ 262144) (lq : q.length ≤ 262144) (hk : Eb e (p.length + q.length) ≤ 17179869184) :
    Meets Try.prog 31 [v, w] [(v, vd p), (w, vd q)] (fun r os fs => os = [] ∧ fs = [(r, zd x)]) := by
  have h := mResultant_meets v w (p.map cn) (q.map cn) e (Fit_cn hp) (Fit_cn hq) (by rw [List.length_map]; exact lp) (by rw [List.length_map]; exact lq) (by rw [List.length_map, List.length_map]; exact hk)
  rw [vv_cn, vv_cn, hx] at h
  exact h

theorem exactW (v w : Value) (x y : Int) : Meets Try.prog 20 [v, w] [(v, zd x), (w, zd y)] (fun r os fs => os = [] ∧ fs = [] ∧ r = .bool (decide (x = y))) := by
  have h := exact_meets v w (cn x) (cn y)
  have e : (cn x = cn y) ↔ x = y := ⟨fun h => by rw [← jv_cn x, h, jv_cn], fun h => by rw [h]⟩
  rw [decide_eq_decide.2 e] at h
  exact h

theorem map_cn_inj {l m : List Int} : l.map cn = m.map cn ↔ l = m := ⟨fun h => by rw [← vv_cn l, h, vv_cn], fun h => by rw [h]⟩
theorem mapm_cn_inj {l m : List (List Int)} : l.map (·.map cn) = m.map (·.map cn) ↔ l = m := ⟨fun h => by rw [← ww_cn l, h, ww_cn], fun h => by rw [h]⟩

theorem exactAllW (v w : Value) (x y : List Int) : Meets Try.prog 28 [v, w] [(v, vd x), (w, vd y)] (fun r os fs => os = [] ∧ fs = [] ∧ r = .bool (decide (x = y))) := by
  have h := exactAll_meets v w (x.map cn) (y.map cn)
  rw [decide_eq_decide.2 map_cn_inj] at h
  exact h

theorem same_meets (v w : Value) (a b : List Row) :
    Meets Try.prog 21 [v, w] [(v, W a), (w, W b)] (fun r os fs => os = [] ∧ fs = [] ∧ r = .bool (decide (a = b))) := by
  refine meets_of_vc Try.func21 (by kernel_rfl) rfl (by kernel_rfl) (Nat.le_of_ble_eq_true rfl) ?_
  refine call_fn (rowsExact_meets v w a b) (Seals.refl _ _) (by repeat (first | exact Sub.nil _ | refine Sub.cons (by repeat (first | exact List.Mem.head _ | apply List.Mem.tail)) ?_)) ?_
  rintro _ _ _ ⟨rfl, rfl, rfl⟩
  exact fin ⟨rfl, rfl, rfl⟩ (Seals.nil _ _)

theorem sameW (v w : Value) (x y : List (List Int)) : Meets Try.prog 21 [v, w] [(v, wd x), (w, wd y)] (fun r os fs => os = [] ∧ fs = [] ∧ r = .bool (decide (x = y))) := by
  have h := same_meets v w (x.map (·.map cn)) (y.map (·.map cn))
  rw [decide_eq_decide.2 mapm_cn_inj] at h
  exact h

/-- Small numbers. -/
def IL (l : List Int) : Dat := .sl 1 l.length fun i => .one (.int .i64 (l.getD i 0))

theorem lit_IL {P : Program} {t e : TypeId} {os : List Own} {fs : List Fact} {K : Cont} [ht : TSl P t e 1] [he : TEl P e 1 8] {n : Nat} (l : List Int) {ps : List (Nat × Value)} (hps : ps = enumP 0 (l.map fun x => Value.int .i64 x)) (hn : n = l.length) (hl : l.length ≤ 1000) (k : ∀ v, K v os ((v, IL l) :: fs)) :
    BuildSliceK P t n ps os fs K := by
  have hr : ∀ l : List Int, ReadsAll os fs 1 (l.map fun x => Value.int .i64 x) (l.map fun x => Dat.one (.int .i64 x)) := fun l => by
    induction l with
    | nil => trivial
    | cons x l ih => exact ⟨Reads.one rfl, rfl, ih⟩
  have h1 := buildSlice_fact (P := P) (t := t) (os := os) (fs := fs) (K := fun u os' fs' => ∃ os'' fs'', Seals os' fs' os'' fs'' ∧ K u os'' fs'') (n := n) (l.map fun x => Value.int .i64 x) (l.map fun x => Dat.one (.int .i64 x)) hps (by rw [hn, List.length_map]) (by omega) (by decide) (hr l)
  refine ⟨Grw.sealed (h1 fun v => ⟨_, _, ?_, k v⟩).out⟩
  exact Seals.knw_cong hn fun i hi => by
    have hi' : i < l.length := by omega
    simp [List.getD_eq_getElem?_getD, hi']

theorem of_meets (v : Value) (R C : Nat) (l : List Int) (hl : l.length = R * C) (hC : 0 < C) (lC : C ≤ 1000) (lR : R ≤ 1000) (hz : ∀ i, -9223372036854775808 ≤ l.getD i 0 ∧ l.getD i 0 < 9223372036854775808) :
    Meets Try.prog 49 [.int .i64 (C : Nat), v] [(v, IL l)] (fun r os fs => os = [] ∧ fs = [(r, wd (matL R C fun i k => l.getD (i * C + k) 0))]) := by
  have hRC : R * C ≤ 1000 * 1000 := Nat.mul_le_mul lR lC
  refine meets_of_vc Try.func49 (by kernel_rfl) rfl (by kernel_rfl) (Nat.le_of_ble_eq_true rfl) ?_
  refine empty_L V [] (by decide) fun w hw => ?_
  refine loop_rule (X := Nat × Value) (fun x => ([(0, .int .i64 (C : Nat)), (1, v), (5, x.2), (6, .int .i64 (x.1 * C : Nat))], [ownL 1 V [] x.2 ((List.range x.1).map fun i => (List.range C).map fun k => cn (l.getD (i * C + k) 0))], [(v, IL l)]))
    (fun x => x.1 ≤ R ∧ isSl x.2) (fun x => R - x.1) rfl ?_ ?_
  · exact again (0, w) ⟨Nat.zero_le _, hw⟩ trivial (by repeat (first | exact trivial | refine ⟨rfl, ?_⟩ | refine ⟨i64_eq (by first | omega | (simp only; omega)), ?_⟩ | refine ⟨u64_eq (by first | omega | (simp only; omega)), ?_⟩)) (Seals.sub (by repeat (first | exact Sub.nil _ | refine Sub.cons (by repeat (first | exact List.Mem.head _ | apply List.Mem.tail)) ?_)))
  · rintro ⟨i, w⟩ ⟨h1, hw⟩
    simp only at h1 hw ⊢
    have hiC : i * C ≤ R * C := Nat.mul_le_mul_right _ h1
    refine len_fact (by repeat (first | exact List.Mem.head _ | apply List.Mem.tail)) fun _ => ?_
    refine cmp_split _ rfl (fun hi => ?_) (fun hi => ?_)
    · have hiR : i < R := by
        rcases Nat.lt_or_ge i R with h | h
        · exact h
        · have := Nat.mul_le_mul_right C h; omega
      have hi1 : (i + 1) * C ≤ R * C := Nat.mul_le_mul_right _ hiR
      have hi2 : (i + 1) * C = i * C + C := Nat.succ_mul _ _
      refine empty_L J z0 (by decide) fun u hu => ?_
      refine loop_rule (X := Nat × Value) (fun x => ([(0, .int .i64 (C : Nat)), (1, v), (5, w), (6, .int .i64 (i * C : Nat)), (7, x.2), (8, .int .i64 (i * C + x.1 : Nat))], [ownL 2 J z0 x.2 ((List.range x.1).map fun k => cn (l.getD (i * C + k) 0)), ownL 1 V [] w ((List.range i).map fun i => (List.range C).map fun k => cn (l.getD (i * C + k) 0))], [(v, IL l)]))
        (fun x => x.1 ≤ C ∧ isSl x.2) (fun x => C - x.1) rfl ?_ ?_
      · exact again (0, u) ⟨Nat.zero_le _, hu⟩ trivial (by repeat (first | exact trivial | refine ⟨rfl, ?_⟩ | refine ⟨i64_eq (by first | omega | (simp only; omega)), ?_⟩ | refine ⟨u64_eq (by first | omega | (simp only; omega)), ?_⟩)) (Seals.sub (by repeat (first | exact Sub.nil _ | refine Sub.cons (by repeat (first | exact List.Mem.head _ | apply List.Mem.tail)) ?_)))
      · rintro ⟨k, u⟩ ⟨g1, hu⟩
        simp only at g1 hu ⊢
        refine ar rfl (by first | exact ⟨by omega, by omega⟩ | (simp only [inK]; omega)) ?_
        refine cmp_split _ rfl (fun hk => ?_) (fun hk => ?_)
        · have hkC : k < C := by omega
          refine index_fact (by repeat (first | exact List.Mem.head _ | apply List.Mem.tail)) (i * C + k) rfl (by omega) fun a1 => ?_
          refine load_one (by repeat (first | exact List.Mem.head _ | apply List.Mem.tail)) ?_
          refine call_fn (rOf_meets (l.getD (i * C + k) 0) (hz _).1 (hz _).2) (Seals.refl _ _) (by repeat (first | exact Sub.nil _ | refine Sub.cons (by repeat (first | exact List.Mem.head _ | apply List.Mem.tail)) ?_)) ?_
          rintro y _ _ ⟨rfl, rfl⟩
          refine lit_L (size := 2) J z0 (cn (l.getD (i * C + k) 0)) (by decide) (Reads.fact (d := zd (l.getD (i * C + k) 0)) (by repeat (first | exact List.Mem.head _ | apply List.Mem.tail))) rfl fun l1 => ?_
          refine append_L 0 rfl hu (Knw.fact (by repeat (first | exact List.Mem.head _ | apply List.Mem.tail))) (by simp; omega) (by simp; omega) fun u2 hu2 => ?_
          refine ar rfl (by first | exact ⟨by omega, by omega⟩ | (simp only [inK]; omega)) ?_
          refine again (k + 1, u2) ⟨by simp only; omega, hu2⟩ (by simp only; omega) (by repeat (first | exact trivial | refine ⟨rfl, ?_⟩ | refine ⟨i64_eq (by first | omega | (simp only; omega)), ?_⟩ | refine ⟨u64_eq (by first | omega | (simp only; omega)), ?_⟩)) ?_
          simp only [range_snoc_map]
          exact Seals.sub (by repeat (first | exact Sub.nil _ | refine Sub.cons (by repeat (first | exact List.Mem.head _ | apply List.Mem.tail)) ?_))
        · have hkC : k = C := by omega
          subst hkC
          refine BuildSliceK.pre (Seals.L 0 rfl hu) ?_
          refine lit_L (size := 1) V [] ((List.range k).map fun j => cn (l.getD (i * k + j) 0)) (by decide) (Reads.fact (d := V ((List.range k).map fun j => cn (l.getD (i * k + j) 0))) (by repeat (first | exact List.Mem.head _ | apply List.Mem.tail))) rfl fun l1 => ?_
          refine append_L 0 rfl hw (Knw.fact (by repeat (first | exact List.Mem.head _ | apply List.Mem.tail))) (by simp; omega) (by simp; omega) fun w2 hw2 => ?_
          refine ar rfl (by first | exact ⟨by omega, by omega⟩ | (simp only [inK]; omega)) ?_
          refine again (i + 1, w2) ⟨by simp only; omega, hw2⟩ (by simp only; omega) (by repeat (first | exact trivial | refine ⟨rfl, ?_⟩ | refine ⟨i64_eq (by first | omega | (simp only; omega)), ?_⟩ | refine ⟨u64_eq (by first | omega | (simp only; omega)), ?_⟩)) ?_
          simp only [range_snoc_map]
          exact Seals.sub (by repeat (first | exact Sub.nil _ | refine Sub.cons (by repeat (first | exact List.Mem.head _ | apply List.Mem.tail)) ?_))
    · have hiR : i = R := by
        rcases Nat.lt_or_ge i R with h | h
        · have h2 := Nat.mul_le_mul_right C h
          have h3 : (i + 1) * C = i * C + C := Nat.succ_mul _ _
          simp only [Nat.succ_eq_add_one] at h2
          omega
        · omega
      subst hiR
      refine fin ⟨rfl, rfl⟩ (Seals.trans (Seals.L 0 rfl hw) (Seals.cons ((Knw.fact (by repeat (first | exact List.Mem.head _ | apply List.Mem.tail))).cast ?_) (Seals.nil _ _)))
      unfold wd matL
      congr 1
      simp [Function.comp_def]

theorem ofW (v : Value) (R C : Nat) (l : List Int) (m : List (List Int)) (hl : l.length = R * C) (hm : (matL R C fun i k => l.getD (i * C + k) 0) = m) (hC : 0 < C) (lC : C ≤ 1000) (lR : R ≤ 1000) (hz : ∀ x, x ∈ l → -9223372036854775808 ≤ x ∧ x < 9223372036854775808) :
    Meets Try.prog 49 [.int .i64 (C : Nat), v] [(v, IL l)] (fun r os fs => os = [] ∧ fs = [(r, wd m)]) := by
  subst hm
  refine of_meets v R C l hl hC lC lR fun i => ?_
  by_cases h : i < l.length
  · exact hz _ (getD_mem 0 h)
  · rw [List.getD_eq_getElem?_getD, List.getElem?_eq_none (by omega)]; decide

end Go.Proofs.Ytajkjlgddmkkaaa

namespace Go.Proofs.Ytajkjlgddmkkaaa

theorem getD_erase (l : List Int) (j k : Nat) : (l.eraseIdx j).getD k 0 = l.getD (sk j k) 0 := by
  simp only [List.getD_eq_getElem?_getD, List.getElem?_eraseIdx, sk]
  split <;> rfl

theorem mx_minor (m : List (List Int)) (j x y : Nat) : mx (minor m 0 j) x y = cut (mx m) 0 j x y := by
  unfold mx cut minor
  rw [sk_zero]
  cases m with
  | nil => simp
  | cons r m =>
    simp only [List.eraseIdx_cons_zero, List.getD_cons_succ]
    by_cases h : x < m.length
    · simp [List.getD_eq_getElem?_getD, h, List.getElem?_eraseIdx, sk]
      split <;> rfl
    · simp [List.getD_eq_getElem?_getD, h]

theorem rdet_det : ∀ (n : Nat) (m : List (List Int)), m.length = n + 1 → rdet (n + 1) m = det (n + 1) (mx m)
  | 0, m, h => by
    unfold rdet
    rw [if_pos h]
    simp [det, isum, sg, mx]
  | n + 1, m, h => by
    rw [rdet, if_neg (by omega), h, det_row (mx m) (i := 0) (by omega)]
    refine isum_congr fun j hj => ?_
    have hl : (minor m 0 j).length = n + 1 := by
      unfold minor
      rw [List.length_map, List.length_eraseIdx_of_lt (by omega), h]; rfl
    rw [rdet_det n _ hl, det_congr fun x y _ _ => mx_minor m j x y, Nat.zero_add]
    rfl

theorem rdet_square {m : List (List Int)} (h : square m) : rdet m.length m = det m.length (mx m) := by
  obtain ⟨n, hn⟩ : ∃ n, m.length = n + 1 := ⟨m.length - 1, by have := h.1.1; omega⟩
  rw [hn]; exact rdet_det n m hn

-- The rank.
def at' (S : List (List Int)) (j k : Nat) : Int := (S.getD j []).getD k 0

/-- Steps: each begins where those behind it have a nought. -/
structure Steps (C : Nat) (S : List (List Int)) : Prop where
  len : ∀ s, s ∈ S → s.length = C
  lead : ∀ s, s ∈ S → lead0 s < C
  stair : ∀ i j, i < j → j < S.length → at' S j (lead0 (S.getD i [])) = 0

theorem lead0_ne {l : List Int} (h : lead0 l < l.length) : l.getD (lead0 l) 0 ≠ 0 := by
  induction l with
  | nil => simp at h
  | cons x l ih =>
    unfold lead0 at h ⊢
    by_cases hx : x = 0
    · simp only [hx, if_true] at h ⊢
      rw [List.getD_cons_succ]
      exact ih (by simpa using h)
    · simp only [hx, if_false]
      simpa using hx

theorem lead0_all {l : List Int} (h : lead0 l = l.length) (k : Nat) : l.getD k 0 = 0 := by
  induction l generalizing k with
  | nil => simp
  | cons x l ih =>
    unfold lead0 at h
    by_cases hx : x = 0
    · simp only [hx, if_true, List.length_cons] at h
      cases k with
      | zero => simpa using hx
      | succ k => rw [List.getD_cons_succ]; exact ih (by omega) k
    · simp [hx] at h

theorem at_snoc_lt {S : List (List Int)} {s : List Int} {j : Nat} (h : j < S.length) : (S ++ [s]).getD j [] = S.getD j [] := by
  simp [List.getD_eq_getElem?_getD, List.getElem?_append_left h]
theorem at_snoc_eq (S : List (List Int)) (s : List Int) : (S ++ [s]).getD S.length [] = s := by
  simp [List.getD_eq_getElem?_getD]

theorem Steps.init {C : Nat} {S : List (List Int)} {s : List Int} (h : Steps C (S ++ [s])) : Steps C S :=
  ⟨fun x hx => h.len x (by simp [hx]), fun x hx => h.lead x (by simp [hx]), fun i j hij hj => by
    have := h.stair i j hij (by simp; omega)
    unfold at' at this ⊢
    rwa [at_snoc_lt hj, at_snoc_lt (by omega)] at this⟩

theorem dep_snoc (S : List (List Int)) (s r : List Int) : dep (S ++ [s]) r = red1 s (dep S r) := by
  unfold dep; rw [List.foldl_append]; rfl

theorem dep_len (S : List (List Int)) (r : List Int) : (dep S r).length = r.length := by
  unfold dep
  induction S generalizing r with
  | nil => rfl
  | cons s S ih => rw [List.foldl_cons, ih, red1_len]

theorem dep_spec {C : Nat} (r : List Int) (hr : r.length = C) : ∀ (n : Nat) (S : List (List Int)), S.length = n → Steps C S →
    (∃ D : Int, D ≠ 0 ∧ ∃ g : Nat → Int, ∀ k, k < C → (dep S r).getD k 0 = D * r.getD k 0 - isum (fun j => g j * at' S j k) S.length) ∧ ∀ j, j < S.length → (dep S r).getD (lead0 (S.getD j [])) 0 = 0
  | 0, S, hn, _ => by
    have : S = [] := List.eq_nil_of_length_eq_zero hn
    subst this
    exact ⟨⟨1, by decide, fun _ => 0, fun k _ => by simp [dep, isum]⟩, fun j hj => by simp at hj⟩
  | n + 1, S, hn, hS => by
    obtain ⟨S', s, rfl⟩ : ∃ S' s, S = S' ++ [s] := by
      refine ⟨S.dropLast, S.getLast (by intro e; simp [e] at hn), ?_⟩
      rw [List.dropLast_concat_getLast]
    have hn' : S'.length = n := by simpa using hn
    obtain ⟨⟨D, hD, g, hg⟩, hz⟩ := dep_spec r hr n S' hn' hS.init
    have hs : s.length = C := hS.len s (by simp)
    have hl : lead0 s < C := hS.lead s (by simp)
    have hsp : s.getD (lead0 s) 0 ≠ 0 := lead0_ne (by omega)
    have hdl : (dep S' r).length = C := by rw [dep_len, hr]
    rw [dep_snoc]
    constructor
    · refine ⟨s.getD (lead0 s) 0 * D, Int.mul_ne_zero hsp hD, fun j => if j = S'.length then (dep S' r).getD (lead0 s) 0 else s.getD (lead0 s) 0 * g j, fun k hk => ?_⟩
      rw [red1_get _ _ (by omega), hg k hk, List.length_append, List.length_singleton, isum]
      have e1 : at' (S' ++ [s]) S'.length k = s.getD k 0 := by unfold at'; rw [at_snoc_eq]
      have e2 : isum (fun j => (if j = S'.length then (dep S' r).getD (lead0 s) 0 else s.getD (lead0 s) 0 * g j) * at' (S' ++ [s]) j k) S'.length = s.getD (lead0 s) 0 * isum (fun j => g j * at' S' j k) S'.length := by
        rw [← isum_mul]
        refine isum_congr fun j hj => ?_
        rw [if_neg (by omega)]
        unfold at'
        rw [at_snoc_lt hj, Int.mul_assoc]
      rw [e2, e1]
      simp only [if_true]
      grind
    · intro j hj
      rw [List.length_append, List.length_singleton] at hj
      by_cases e : j = S'.length
      · rw [e, at_snoc_eq, red1_get s (dep S' r) (k := lead0 s) (by omega)]
        grind
      · have hj' : j < S'.length := by omega
        have hlj : lead0 (S'.getD j []) < C := hS.lead _ (List.mem_append.2 (.inl (getD_mem [] hj')))
        have hst := hS.stair j S'.length hj' (by simp)
        unfold at' at hst
        rw [at_snoc_eq, at_snoc_lt hj'] at hst
        rw [at_snoc_lt hj', red1_get s (dep S' r) (k := lead0 (S'.getD j [])) (by omega), hz j hj', hst]
        simp

theorem det_upper : ∀ (n : Nat) (T : Mx), (∀ a b, b < a → a < n → T a b = 0) → (∀ a, a < n → T a a ≠ 0) → det n T ≠ 0
  | 0, _, _, _ => by simp [det]
  | n + 1, T, h, hd => by
    rw [det, isum_one (r := 0) (by omega) fun k hk hk0 => by rw [h k 0 (by omega) hk]; simp]
    rw [sg_zero, Int.one_mul]
    refine Int.mul_ne_zero (hd 0 (by omega)) (det_upper n _ (fun a b hab ha => ?_) fun a ha => ?_)
    · simp only [cut, sk_zero]; exact h _ _ (by omega) (by omega)
    · simp only [cut, sk_zero]; exact hd _ (by omega)

/-- What the first rows have come to. -/
structure RInv (C : Nat) (A : Mx) (i : Nat) (S : List (List Int)) : Prop where
  steps : Steps C S
  made : ∃ X : Mx, ∀ j k, j < S.length → k < C → at' S j k = isum (fun t => X j t * A t k) i
  told : ∀ t, t < i → ∃ d : Int, d ≠ 0 ∧ ∃ b : Nat → Int, ∀ k, k < C → d * A t k = isum (fun j => b j * at' S j k) S.length

theorem RInv.next {C : Nat} {A : Mx} {i : Nat} {S : List (List Int)} {r : List Int} (h : RInv C A i S) (hr : r.length = C) (hA : ∀ k, k < C → A i k = r.getD k 0) : RInv C A (i + 1) (rstep S r) := by
  obtain ⟨⟨D, hD, g, hg⟩, hz⟩ := dep_spec r hr S.length S rfl h.steps
  obtain ⟨X, hX⟩ := h.made
  unfold rstep
  split
  · rename_i he
    refine ⟨h.steps, ⟨fun j t => if t = i then 0 else X j t, fun j k hj hk => ?_⟩, fun t ht => ?_⟩
    · rw [hX j k hj hk, isum]
      dsimp only
      rw [if_pos rfl, Int.zero_mul, Int.add_zero]
      exact isum_congr fun t ht => by rw [if_neg (by omega)]
    · by_cases e : t = i
      · subst e
        refine ⟨D, hD, g, fun k hk => ?_⟩
        have := hg k hk
        rw [lead0_all he] at this
        rw [hA k hk]; omega
      · exact h.told t (by omega)
  · rename_i he
    have hlen : (dep S r).length = C := by rw [dep_len, hr]
    have hlead : lead0 (dep S r) < C := by have := lead0_le (dep S r); omega
    refine ⟨⟨fun s hs => ?_, fun s hs => ?_, fun a b hab hb => ?_⟩, ⟨fun j t => if j = S.length then (if t = i then D else - isum (fun l => g l * X l t) S.length) else (if t = i then 0 else X j t), fun j k hj hk => ?_⟩, fun t ht => ?_⟩
    · rcases List.mem_append.1 hs with hs | hs
      · exact h.steps.len s hs
      · rw [List.mem_singleton.1 hs, hlen]
    · rcases List.mem_append.1 hs with hs | hs
      · exact h.steps.lead s hs
      · rw [List.mem_singleton.1 hs]; exact hlead
    · rw [List.length_append, List.length_singleton] at hb
      by_cases e : b = S.length
      · unfold at'
        rw [e, at_snoc_eq, at_snoc_lt (by omega)]
        exact hz a (by omega)
      · have := h.steps.stair a b hab (by omega)
        unfold at' at this ⊢
        rwa [at_snoc_lt (by omega), at_snoc_lt (by omega)]
    · rw [List.length_append, List.length_singleton] at hj
      by_cases e : j = S.length
      · unfold at'
        rw [e, at_snoc_eq, hg k hk, isum]
        dsimp only
        rw [if_pos rfl, if_pos rfl, hA k hk]
        have e2 : isum (fun t => (if S.length = S.length then (if t = i then D else - isum (fun l => g l * X l t) S.length) else (if t = i then 0 else X S.length t)) * A t k) i = - isum (fun l => g l * at' S l k) S.length := by
          rw [← isum_neg]
          rw [isum_congr (g' := fun l => isum (fun t => - (g l * X l t * A t k)) i) (n := S.length) fun l hl => by
            rw [hX l k hl hk, isum_neg, ← isum_mul]
            congr 1
            exact isum_congr fun t _ => by grind]
          rw [isum_swap]
          refine isum_congr fun t ht => ?_
          rw [if_pos rfl, if_neg (by omega), isum_neg]
          rw [Int.neg_mul]
          congr 1
          rw [← isum_mul_right]
        rw [e2]; omega
      · have hj' : j < S.length := by omega
        unfold at'
        rw [at_snoc_lt hj']
        have := hX j k hj' hk
        unfold at' at this
        rw [this, isum]
        dsimp only
        rw [if_neg e, if_pos rfl, Int.zero_mul, Int.add_zero]
        exact isum_congr fun t ht => by rw [if_neg e, if_neg (by omega)]
    · by_cases e : t = i
      · subst e
        refine ⟨D, hD, fun j => if j = S.length then 1 else g j, fun k hk => ?_⟩
        rw [List.length_append, List.length_singleton, isum]
        dsimp only
        rw [if_pos rfl]
        have e1 : at' (S ++ [dep S r]) S.length k = (dep S r).getD k 0 := by unfold at'; rw [at_snoc_eq]
        have e2 : isum (fun j => (if j = S.length then 1 else g j) * at' (S ++ [dep S r]) j k) S.length = isum (fun j => g j * at' S j k) S.length := isum_congr fun j hj => by
          rw [if_neg (by omega)]
          unfold at'
          rw [at_snoc_lt hj]
        rw [e1, e2, hg k hk, hA k hk]; omega
      · obtain ⟨d, hd, b, hb⟩ := h.told t (by omega)
        refine ⟨d, hd, fun j => if j = S.length then 0 else b j, fun k hk => ?_⟩
        rw [hb k hk, List.length_append, List.length_singleton, isum]
        dsimp only
        rw [if_pos rfl, Int.zero_mul, Int.add_zero]
        refine isum_congr fun j hj => ?_
        rw [if_neg (by omega)]
        unfold at'
        rw [at_snoc_lt hj]

theorem rrows_inv {m : List (List Int)} {C : Nat} (hC : ∀ r, r ∈ m → r.length = C) : ∀ i, i ≤ m.length → RInv C (mx m) i (rrows (m.take i))
  | 0, _ => ⟨⟨fun s hs => by simp [rrows] at hs, fun s hs => by simp [rrows] at hs, fun i j _ hj => by simp [rrows] at hj⟩, ⟨fun _ _ => 0, fun j k hj => by simp [rrows] at hj⟩, fun t ht => by omega⟩
  | i + 1, hi => by
    have h := rrows_inv hC i (by omega)
    have e : rrows (m.take (i + 1)) = rstep (rrows (m.take i)) (m.getD i []) := by
      unfold rrows
      rw [take_snoc' [] (by omega), List.foldl_append]; rfl
    rw [e]
    exact h.next (hC _ (getD_mem [] (by omega))) fun k _ => rfl

theorem rrank_rk {m : List (List Int)} {C : Nat} (hC : ∀ r, r ∈ m → r.length = C) : Rk (rrank m) m.length C (mx m) := by
  have h := rrows_inv hC m.length (Nat.le_refl _)
  rw [List.take_length] at h
  unfold rrank
  generalize rrows m = S at h
  obtain ⟨X, hX⟩ := h.made
  refine ⟨⟨X, fun k b => one k (lead0 (S.getD b [])), ?_⟩, ?_⟩
  · have hl : ∀ b, b < S.length → lead0 (S.getD b []) < C := fun b hb => h.steps.lead _ (getD_mem [] hb)
    have e : ∀ a b, a < S.length → b < S.length → mm C (mm m.length X (mx m)) (fun k b => one k (lead0 (S.getD b []))) a b = at' S a (lead0 (S.getD b [])) := fun a b ha hb => by
      unfold mm
      rw [isum_one (r := lead0 (S.getD b [])) (hl b hb) fun k _ hk => by show _ * (if k = lead0 (S.getD b []) then (1 : Int) else 0) = 0; rw [if_neg hk, Int.mul_zero]]
      rw [← hX a _ ha (hl b hb)]
      simp [one]
    rw [det_congr e]
    refine det_upper _ _ (fun a b hab ha => h.steps.stair b a hab ha) fun a ha => ?_
    have := h.steps.len _ (getD_mem [] ha)
    exact lead0_ne (by rw [this]; exact hl a ha)
  · have hch : ∀ t, ∃ p : Int × (Nat → Int), t < m.length → p.1 ≠ 0 ∧ ∀ k, k < C → p.1 * mx m t k = isum (fun j => p.2 j * at' S j k) S.length := fun t => by
      by_cases ht : t < m.length
      · obtain ⟨d, hd, b, hb⟩ := h.told t ht
        exact ⟨(d, b), fun _ => ⟨hd, hb⟩⟩
      · exact ⟨(1, fun _ => 0), fun h => absurd h ht⟩
    -- one divisor for all
    have key : ∀ n, n ≤ m.length → ∃ d : Int, d ≠ 0 ∧ ∃ B : Mx, ∀ t k, t < n → k < C → d * mx m t k = isum (fun j => B t j * at' S j k) S.length := by
      intro n
      induction n with
      | zero => intro _; exact ⟨1, by decide, fun _ _ => 0, fun t k ht => by omega⟩
      | succ n ih =>
        intro hn
        obtain ⟨d, hd, B, hB⟩ := ih (by omega)
        obtain ⟨⟨e, b⟩, he⟩ := hch n
        obtain ⟨he0, heb⟩ := he (by omega)
        simp only at he0 heb
        refine ⟨d * e, Int.mul_ne_zero hd he0, fun t j => if t = n then d * b j else e * B t j, fun t k ht hk => ?_⟩
        by_cases etn : t = n
        · subst etn
          rw [Int.mul_assoc, heb k hk, ← isum_mul]
          exact isum_congr fun j _ => by dsimp only; rw [if_pos rfl, Int.mul_assoc]
        · rw [Int.mul_comm d e, Int.mul_assoc, hB t k (by omega) hk, ← isum_mul]
          exact isum_congr fun j _ => by dsimp only; rw [if_neg etn, Int.mul_assoc]
    obtain ⟨d, hd, B, hB⟩ := key m.length (Nat.le_refl _)
    exact ⟨d, hd, B, at' S, fun t k ht hk => hB t k ht hk⟩

theorem rank_same {m : List (List Int)} (h : right m) : rrank m = (bar m.length (m.getD 0 []).length (mx m)).step :=
  (rrank_rk (C := (m.getD 0 []).length) fun r hr => (h.2 r hr).2).unique (bar_rank _ _ _)

end Go.Proofs.Ytajkjlgddmkkaaa

namespace Go.Proofs.Ytajkjlgddmkkaaa
open Go.RowKit

instance (x : Int) (e : Nat) : Decidable (sz x e) := inferInstanceAs (Decidable (_ < _))
theorem sz1 : szR 1 [1, 2] := by unfold szR; decide
theorem sz3 : szR 1 [3, 0, 1] := by unfold szR; decide

theorem shown_meets : Meets Try.prog 13 [] [] (fun r os fs => os = [] ∧ fs = [] ∧ r = .bool true) := by
  refine meets_of_vc Try.func13 (by kernel_rfl) rfl (by kernel_rfl) (Nat.le_of_ble_eq_true rfl) ?_
  refine lit_IL [1, 2, 3, 4] rfl rfl (by decide) fun s0 => ?_
  refine call_fn (ofW s0 2 2 [1, 2, 3, 4] [[1, 2], [3, 4]] rfl rfl (by decide) (by decide) (by decide) (by decide)) (Seals.refl _ _) (by repeat (first | exact Sub.nil _ | refine Sub.cons (by repeat (first | exact List.Mem.head _ | apply List.Mem.tail)) ?_)) ?_
  rintro a _ _ ⟨rfl, rfl⟩
  have hs : square [[(1 : Int), 2], [3, 4]] := by decide
  have hz : szM 1 [[(1 : Int), 2], [3, 4]] := by unfold szM; decide
  refine call_fn (detW a [[1, 2], [3, 4]] 1 (-2) hs (by decide) hz (by decide) (by decide)) (Seals.refl _ _) (by repeat (first | exact Sub.nil _ | refine Sub.cons (by repeat (first | exact List.Mem.head _ | apply List.Mem.tail)) ?_)) ?_
  rintro _ _ _ ⟨rfl, d0, rfl, rfl⟩
  refine alloc_rule (d := I false []) fun d hd => ?_
  refine store_box (d := zd (-2)) 0 rfl hd rfl (by kernel_rfl) ?_ ?_; exact Reads.fact (by repeat (first | exact List.Mem.head _ | apply List.Mem.tail))
  refine lit_IL [1, 2, 2, 4] rfl rfl (by decide) fun s1 => ?_
  refine call_fn (ofW s1 2 2 [1, 2, 2, 4] [[1, 2], [2, 4]] rfl rfl (by decide) (by decide) (by decide) (by decide)) (Seals.refl _ _) (by repeat (first | exact Sub.nil _ | refine Sub.cons (by repeat (first | exact List.Mem.head _ | apply List.Mem.tail)) ?_)) ?_
  rintro b _ _ ⟨rfl, rfl⟩
  refine call_fn (rankW b [[1, 2], [2, 4]] 1 1 (by decide) (by decide) (by unfold szM; decide) (by decide) (by decide) (by decide)) (Seals.refl _ _) (by repeat (first | exact Sub.nil _ | refine Sub.cons (by repeat (first | exact List.Mem.head _ | apply List.Mem.tail)) ?_)) ?_
  rintro _ _ _ ⟨rfl, rfl, rfl⟩
  refine call_fn (adjW a [[1, 2], [3, 4]] 1 [[4, -2], [-3, 1]] hs (by decide) hz (by decide) (by decide)) (Seals.refl _ _) (by repeat (first | exact Sub.nil _ | refine Sub.cons (by repeat (first | exact List.Mem.head _ | apply List.Mem.tail)) ?_)) ?_
  rintro _ _ _ ⟨rfl, x, rfl, rfl⟩
  refine lit_IL [5, 6] rfl rfl (by decide) fun s2 => ?_
  refine call_fn (ofW s2 1 2 [5, 6] [[5, 6]] rfl rfl (by decide) (by decide) (by decide) (by decide)) (Seals.refl _ _) (by repeat (first | exact Sub.nil _ | refine Sub.cons (by repeat (first | exact List.Mem.head _ | apply List.Mem.tail)) ?_)) ?_
  rintro c _ _ ⟨rfl, rfl⟩
  refine index_fact (n := 1) (by repeat (first | exact List.Mem.head _ | apply List.Mem.tail)) 0 rfl (by decide) fun c1 => ?_
  refine load_fact (d := vd [5, 6]) (by repeat (first | exact List.Mem.head _ | apply List.Mem.tail)) (load_V _) fun c2 => ?_
  refine call_fn (solW a c2 [[1, 2], [3, 4]] [5, 6] 1 [8, -9] (-2) hs (by decide) (by decide) (by decide) (by decide) hz (by unfold szR; decide) (by decide) (by decide)) (Seals.refl _ _) (by repeat (first | exact Sub.nil _ | refine Sub.cons (by repeat (first | exact List.Mem.head _ | apply List.Mem.tail)) ?_)) ?_
  rintro _ _ _ ⟨rfl, y, z0', rfl, rfl⟩
  refine alloc_rule (d := I false []) fun z hz' => ?_
  refine store_box (d := zd (-2)) 0 rfl hz' rfl (by kernel_rfl) ?_ ?_; exact Reads.fact (by repeat (first | exact List.Mem.head _ | apply List.Mem.tail))
  refine draw_join (X := Value) (fun s => ([(2, d), (3, .int .i64 0), (4, .int .i64 1), (5, .int .i64 0), (6, x), (7, .int .i64 0), (8, y), (9, z), (10, .int .i64 0), (11, s), (12, .int .i64 0)],
    [own1 z 2 1 (fun _ => zd (-2)), own1 d 2 1 (fun _ => zd (-2))], [(s, wd [[2, 1, 0], [0, 2, 1], [1, 0, 3]]), (x, wd [[4, -2], [-3, 1]]), (y, vd [8, -9])])) (fun _ => True) ?_ ?_
  · refine draw_ord [0, 1, 2, 3, 4, 5, 6, 7, 8, 9, 10, 12, 11, 13] (by kernel_rfl) ?_
    refine ord_split 4 0 (by kernel_rfl) (by kernel_rfl) (by kernel_rfl) ?_ ?_
    · refine ord_go [4, 0, 1, 2, 3, 5, 6, 7, 8, 9, 10, 11, 12, 13] (by kernel_rfl) (by kernel_rfl) ?_
      refine lit_IL [3, 0, 1] rfl rfl (by decide) fun s2 => ?_
      refine lit_IL [1, 2] rfl rfl (by decide) fun s1 => ?_
      refine call_fn (ofW s1 1 2 [1, 2] [[1, 2]] rfl rfl (by decide) (by decide) (by decide) (by decide)) (Seals.refl _ _) (by repeat (first | exact Sub.nil _ | refine Sub.cons (by repeat (first | exact List.Mem.head _ | apply List.Mem.tail)) ?_)) ?_
      rintro m1 _ _ ⟨rfl, rfl⟩
      refine index_fact (n := 1) (by repeat (first | exact List.Mem.head _ | apply List.Mem.tail)) 0 rfl (by decide) fun i1 => ?_
      refine load_fact (d := vd [1, 2]) (by repeat (first | exact List.Mem.head _ | apply List.Mem.tail)) (load_V _) fun p1 => ?_
      refine call_fn (ofW s2 1 3 [3, 0, 1] [[3, 0, 1]] rfl rfl (by decide) (by decide) (by decide) (by decide)) (Seals.refl _ _) (by repeat (first | exact Sub.nil _ | refine Sub.cons (by repeat (first | exact List.Mem.head _ | apply List.Mem.tail)) ?_)) ?_
      rintro m2 _ _ ⟨rfl, rfl⟩
      refine index_fact (n := 1) (by repeat (first | exact List.Mem.head _ | apply List.Mem.tail)) 0 rfl (by decide) fun i2 => ?_
      refine load_fact (d := vd [3, 0, 1]) (by repeat (first | exact List.Mem.head _ | apply List.Mem.tail)) (load_V _) fun p2 => ?_
      refine call_fn (sylW p1 p2 [1, 2] [3, 0, 1] 1 [[2, 1, 0], [0, 2, 1], [1, 0, 3]] (by decide) (by decide) sz1 sz3 (by decide) (by decide) (by decide)) (Seals.refl _ _) (by repeat (first | exact Sub.nil _ | refine Sub.cons (by repeat (first | exact List.Mem.head _ | apply List.Mem.tail)) ?_)) ?_
      rintro _ _ _ ⟨rfl, s, rfl, rfl⟩
      exact again s trivial trivial (by repeat (first | exact trivial | refine ⟨rfl, ?_⟩ | refine ⟨i64_eq (by first | omega | (simp only; omega)), ?_⟩ | refine ⟨u64_eq (by first | omega | (simp only; omega)), ?_⟩)) (Seals.trans (Seals.box0 rfl) (Seals.trans (Seals.box1 rfl) (Seals.sub (by repeat (first | exact Sub.nil _ | refine Sub.cons (by repeat (first | exact List.Mem.head _ | apply List.Mem.tail)) ?_)))))
    · refine ord_split 4 1 (by kernel_rfl) (by kernel_rfl) (by kernel_rfl) ?_ ?_
      · refine ord_go [0, 4, 1, 2, 3, 5, 6, 7, 8, 9, 10, 11, 12, 13] (by kernel_rfl) (by kernel_rfl) ?_
        refine lit_IL [1, 2] rfl rfl (by decide) fun s1 => ?_
        refine lit_IL [3, 0, 1] rfl rfl (by decide) fun s2 => ?_
        refine call_fn (ofW s1 1 2 [1, 2] [[1, 2]] rfl rfl (by decide) (by decide) (by decide) (by decide)) (Seals.refl _ _) (by repeat (first | exact Sub.nil _ | refine Sub.cons (by repeat (first | exact List.Mem.head _ | apply List.Mem.tail)) ?_)) ?_
        rintro m1 _ _ ⟨rfl, rfl⟩
        refine index_fact (n := 1) (by repeat (first | exact List.Mem.head _ | apply List.Mem.tail)) 0 rfl (by decide) fun i1 => ?_
        refine load_fact (d := vd [1, 2]) (by repeat (first | exact List.Mem.head _ | apply List.Mem.tail)) (load_V _) fun p1 => ?_
        refine call_fn (ofW s2 1 3 [3, 0, 1] [[3, 0, 1]] rfl rfl (by decide) (by decide) (by decide) (by decide)) (Seals.refl _ _) (by repeat (first | exact Sub.nil _ | refine Sub.cons (by repeat (first | exact List.Mem.head _ | apply List.Mem.tail)) ?_)) ?_
        rintro m2 _ _ ⟨rfl, rfl⟩
        refine index_fact (n := 1) (by repeat (first | exact List.Mem.head _ | apply List.Mem.tail)) 0 rfl (by decide) fun i2 => ?_
        refine load_fact (d := vd [3, 0, 1]) (by repeat (first | exact List.Mem.head _ | apply List.Mem.tail)) (load_V _) fun p2 => ?_
        refine call_fn (sylW p1 p2 [1, 2] [3, 0, 1] 1 [[2, 1, 0], [0, 2, 1], [1, 0, 3]] (by decide) (by decide) sz1 sz3 (by decide) (by decide) (by decide)) (Seals.refl _ _) (by repeat (first | exact Sub.nil _ | refine Sub.cons (by repeat (first | exact List.Mem.head _ | apply List.Mem.tail)) ?_)) ?_
        rintro _ _ _ ⟨rfl, s, rfl, rfl⟩
        exact again s trivial trivial (by repeat (first | exact trivial | refine ⟨rfl, ?_⟩ | refine ⟨i64_eq (by first | omega | (simp only; omega)), ?_⟩ | refine ⟨u64_eq (by first | omega | (simp only; omega)), ?_⟩)) (Seals.trans (Seals.box0 rfl) (Seals.trans (Seals.box1 rfl) (Seals.sub (by repeat (first | exact Sub.nil _ | refine Sub.cons (by repeat (first | exact List.Mem.head _ | apply List.Mem.tail)) ?_)))))
      · refine ord_go [0, 1, 2, 3, 4, 5, 6, 7, 8, 9, 10, 11, 12, 13] (by kernel_rfl) (by kernel_rfl) ?_
        refine lit_IL [1, 2] rfl rfl (by decide) fun s1 => ?_
        refine call_fn (ofW s1 1 2 [1, 2] [[1, 2]] rfl rfl (by decide) (by decide) (by decide) (by decide)) (Seals.refl _ _) (by repeat (first | exact Sub.nil _ | refine Sub.cons (by repeat (first | exact List.Mem.head _ | apply List.Mem.tail)) ?_)) ?_
        rintro m1 _ _ ⟨rfl, rfl⟩
        refine index_fact (n := 1) (by repeat (first | exact List.Mem.head _ | apply List.Mem.tail)) 0 rfl (by decide) fun i1 => ?_
        refine load_fact (d := vd [1, 2]) (by repeat (first | exact List.Mem.head _ | apply List.Mem.tail)) (load_V _) fun p1 => ?_
        refine lit_IL [3, 0, 1] rfl rfl (by decide) fun s2 => ?_
        refine call_fn (ofW s2 1 3 [3, 0, 1] [[3, 0, 1]] rfl rfl (by decide) (by decide) (by decide) (by decide)) (Seals.refl _ _) (by repeat (first | exact Sub.nil _ | refine Sub.cons (by repeat (first | exact List.Mem.head _ | apply List.Mem.tail)) ?_)) ?_
        rintro m2 _ _ ⟨rfl, rfl⟩
        refine index_fact (n := 1) (by repeat (first | exact List.Mem.head _ | apply List.Mem.tail)) 0 rfl (by decide) fun i2 => ?_
        refine load_fact (d := vd [3, 0, 1]) (by repeat (first | exact List.Mem.head _ | apply List.Mem.tail)) (load_V _) fun p2 => ?_
        refine call_fn (sylW p1 p2 [1, 2] [3, 0, 1] 1 [[2, 1, 0], [0, 2, 1], [1, 0, 3]] (by decide) (by decide) sz1 sz3 (by decide) (by decide) (by decide)) (Seals.refl _ _) (by repeat (first | exact Sub.nil _ | refine Sub.cons (by repeat (first | exact List.Mem.head _ | apply List.Mem.tail)) ?_)) ?_
        rintro _ _ _ ⟨rfl, s, rfl, rfl⟩
        exact again s trivial trivial (by repeat (first | exact trivial | refine ⟨rfl, ?_⟩ | refine ⟨i64_eq (by first | omega | (simp only; omega)), ?_⟩ | refine ⟨u64_eq (by first | omega | (simp only; omega)), ?_⟩)) (Seals.trans (Seals.box0 rfl) (Seals.trans (Seals.box1 rfl) (Seals.sub (by repeat (first | exact Sub.nil _ | refine Sub.cons (by repeat (first | exact List.Mem.head _ | apply List.Mem.tail)) ?_)))))
  rintro s -
  simp only
  refine draw_join (X := Value) (fun r => ([(2, d), (3, .int .i64 0), (4, .int .i64 1), (5, .int .i64 0), (6, x), (7, .int .i64 0), (8, y), (9, z), (10, .int .i64 0), (11, s), (12, .int .i64 0), (13, r)],
    [own1 z 2 1 (fun _ => zd (-2)), own1 d 2 1 (fun _ => zd (-2))], [(r, .ptr (zd 13)), (s, wd [[2, 1, 0], [0, 2, 1], [1, 0, 3]]), (x, wd [[4, -2], [-3, 1]]), (y, vd [8, -9])])) (fun _ => True) ?_ ?_
  · refine draw_ord [0, 1, 2, 3, 4, 5, 6, 7, 8, 9, 10] (by kernel_rfl) ?_
    refine ord_split 9 0 (by kernel_rfl) (by kernel_rfl) (by kernel_rfl) ?_ ?_
    · refine ord_split 4 0 (by kernel_rfl) (by kernel_rfl) (by kernel_rfl) ?_ ?_
      · refine ord_split 4 9 (by kernel_rfl) (by kernel_rfl) (by kernel_rfl) ?_ ?_
        · refine ord_go [4, 9, 0, 1, 2, 3, 5, 6, 7, 8, 10] (by kernel_rfl) (by kernel_rfl) ?_
          refine lit_IL [3, 0, 1] rfl rfl (by decide) fun s2 => ?_
          refine alloc_rule (d := I false []) fun r hr => ?_
          refine lit_IL [1, 2] rfl rfl (by decide) fun s1 => ?_
          refine call_fn (ofW s1 1 2 [1, 2] [[1, 2]] rfl rfl (by decide) (by decide) (by decide) (by decide)) (Seals.refl _ _) (by repeat (first | exact Sub.nil _ | refine Sub.cons (by repeat (first | exact List.Mem.head _ | apply List.Mem.tail)) ?_)) ?_
          rintro m1 _ _ ⟨rfl, rfl⟩
          refine index_fact (n := 1) (by repeat (first | exact List.Mem.head _ | apply List.Mem.tail)) 0 rfl (by decide) fun i1 => ?_
          refine load_fact (d := vd [1, 2]) (by repeat (first | exact List.Mem.head _ | apply List.Mem.tail)) (load_V _) fun p1 => ?_
          refine call_fn (ofW s2 1 3 [3, 0, 1] [[3, 0, 1]] rfl rfl (by decide) (by decide) (by decide) (by decide)) (Seals.refl _ _) (by repeat (first | exact Sub.nil _ | refine Sub.cons (by repeat (first | exact List.Mem.head _ | apply List.Mem.tail)) ?_)) ?_
          rintro m2 _ _ ⟨rfl, rfl⟩
          refine index_fact (n := 1) (by repeat (first | exact List.Mem.head _ | apply List.Mem.tail)) 0 rfl (by decide) fun i2 => ?_
          refine load_fact (d := vd [3, 0, 1]) (by repeat (first | exact List.Mem.head _ | apply List.Mem.tail)) (load_V _) fun p2 => ?_
          refine call_fn (resW p1 p2 [1, 2] [3, 0, 1] 1 13 (by decide) sz1 sz3 (by decide) (by decide) (by decide)) (Seals.refl _ _) (by repeat (first | exact Sub.nil _ | refine Sub.cons (by repeat (first | exact List.Mem.head _ | apply List.Mem.tail)) ?_)) ?_
          rintro rv _ _ ⟨rfl, rfl⟩
          refine store_box (d := zd 13) 0 rfl hr rfl (by kernel_rfl) ?_ ?_; exact Reads.fact (by repeat (first | exact List.Mem.head _ | apply List.Mem.tail))
          exact again r trivial trivial (by repeat (first | exact trivial | refine ⟨rfl, ?_⟩ | refine ⟨i64_eq (by first | omega | (simp only; omega)), ?_⟩ | refine ⟨u64_eq (by first | omega | (simp only; omega)), ?_⟩)) (Seals.trans (Seals.box (d := zd 13) 0 rfl hr rfl) (Seals.sub (by repeat (first | exact Sub.nil _ | refine Sub.cons (by repeat (first | exact List.Mem.head _ | apply List.Mem.tail)) ?_))))
        · refine ord_go [9, 4, 0, 1, 2, 3, 5, 6, 7, 8, 10] (by kernel_rfl) (by kernel_rfl) ?_
          refine alloc_rule (d := I false []) fun r hr => ?_
          refine lit_IL [3, 0, 1] rfl rfl (by decide) fun s2 => ?_
          refine lit_IL [1, 2] rfl rfl (by decide) fun s1 => ?_
          refine call_fn (ofW s1 1 2 [1, 2] [[1, 2]] rfl rfl (by decide) (by decide) (by decide) (by decide)) (Seals.refl _ _) (by repeat (first | exact Sub.nil _ | refine Sub.cons (by repeat (first | exact List.Mem.head _ | apply List.Mem.tail)) ?_)) ?_
          rintro m1 _ _ ⟨rfl, rfl⟩
          refine index_fact (n := 1) (by repeat (first | exact List.Mem.head _ | apply List.Mem.tail)) 0 rfl (by decide) fun i1 => ?_
          refine load_fact (d := vd [1, 2]) (by repeat (first | exact List.Mem.head _ | apply List.Mem.tail)) (load_V _) fun p1 => ?_
          refine call_fn (ofW s2 1 3 [3, 0, 1] [[3, 0, 1]] rfl rfl (by decide) (by decide) (by decide) (by decide)) (Seals.refl _ _) (by repeat (first | exact Sub.nil _ | refine Sub.cons (by repeat (first | exact List.Mem.head _ | apply List.Mem.tail)) ?_)) ?_
          rintro m2 _ _ ⟨rfl, rfl⟩
          refine index_fact (n := 1) (by repeat (first | exact List.Mem.head _ | apply List.Mem.tail)) 0 rfl (by decide) fun i2 => ?_
          refine load_fact (d := vd [3, 0, 1]) (by repeat (first | exact List.Mem.head _ | apply List.Mem.tail)) (load_V _) fun p2 => ?_
          refine call_fn (resW p1 p2 [1, 2] [3, 0, 1] 1 13 (by decide) sz1 sz3 (by decide) (by decide) (by decide)) (Seals.refl _ _) (by repeat (first | exact Sub.nil _ | refine Sub.cons (by repeat (first | exact List.Mem.head _ | apply List.Mem.tail)) ?_)) ?_
          rintro rv _ _ ⟨rfl, rfl⟩
          refine store_box (d := zd 13) 0 rfl hr rfl (by kernel_rfl) ?_ ?_; exact Reads.fact (by repeat (first | exact List.Mem.head _ | apply List.Mem.tail))
          exact again r trivial trivial (by repeat (first | exact trivial | refine ⟨rfl, ?_⟩ | refine ⟨i64_eq (by first | omega | (simp only; omega)), ?_⟩ | refine ⟨u64_eq (by first | omega | (simp only; omega)), ?_⟩)) (Seals.trans (Seals.box (d := zd 13) 0 rfl hr rfl) (Seals.sub (by repeat (first | exact Sub.nil _ | refine Sub.cons (by repeat (first | exact List.Mem.head _ | apply List.Mem.tail)) ?_))))
      · refine ord_split 4 1 (by kernel_rfl) (by kernel_rfl) (by kernel_rfl) ?_ ?_
        · refine ord_go [9, 0, 4, 1, 2, 3, 5, 6, 7, 8, 10] (by kernel_rfl) (by kernel_rfl) ?_
          refine alloc_rule (d := I false []) fun r hr => ?_
          refine lit_IL [1, 2] rfl rfl (by decide) fun s1 => ?_
          refine lit_IL [3, 0, 1] rfl rfl (by decide) fun s2 => ?_
          refine call_fn (ofW s1 1 2 [1, 2] [[1, 2]] rfl rfl (by decide) (by decide) (by decide) (by decide)) (Seals.refl _ _) (by repeat (first | exact Sub.nil _ | refine Sub.cons (by repeat (first | exact List.Mem.head _ | apply List.Mem.tail)) ?_)) ?_
          rintro m1 _ _ ⟨rfl, rfl⟩
          refine index_fact (n := 1) (by repeat (first | exact List.Mem.head _ | apply List.Mem.tail)) 0 rfl (by decide) fun i1 => ?_
          refine load_fact (d := vd [1, 2]) (by repeat (first | exact List.Mem.head _ | apply List.Mem.tail)) (load_V _) fun p1 => ?_
          refine call_fn (ofW s2 1 3 [3, 0, 1] [[3, 0, 1]] rfl rfl (by decide) (by decide) (by decide) (by decide)) (Seals.refl _ _) (by repeat (first | exact Sub.nil _ | refine Sub.cons (by repeat (first | exact List.Mem.head _ | apply List.Mem.tail)) ?_)) ?_
          rintro m2 _ _ ⟨rfl, rfl⟩
          refine index_fact (n := 1) (by repeat (first | exact List.Mem.head _ | apply List.Mem.tail)) 0 rfl (by decide) fun i2 => ?_
          refine load_fact (d := vd [3, 0, 1]) (by repeat (first | exact List.Mem.head _ | apply List.Mem.tail)) (load_V _) fun p2 => ?_
          refine call_fn (resW p1 p2 [1, 2] [3, 0, 1] 1 13 (by decide) sz1 sz3 (by decide) (by decide) (by decide)) (Seals.refl _ _) (by repeat (first | exact Sub.nil _ | refine Sub.cons (by repeat (first | exact List.Mem.head _ | apply List.Mem.tail)) ?_)) ?_
          rintro rv _ _ ⟨rfl, rfl⟩
          refine store_box (d := zd 13) 0 rfl hr rfl (by kernel_rfl) ?_ ?_; exact Reads.fact (by repeat (first | exact List.Mem.head _ | apply List.Mem.tail))
          exact again r trivial trivial (by repeat (first | exact trivial | refine ⟨rfl, ?_⟩ | refine ⟨i64_eq (by first | omega | (simp only; omega)), ?_⟩ | refine ⟨u64_eq (by first | omega | (simp only; omega)), ?_⟩)) (Seals.trans (Seals.box (d := zd 13) 0 rfl hr rfl) (Seals.sub (by repeat (first | exact Sub.nil _ | refine Sub.cons (by repeat (first | exact List.Mem.head _ | apply List.Mem.tail)) ?_))))
        · refine ord_go [9, 0, 1, 2, 3, 4, 5, 6, 7, 8, 10] (by kernel_rfl) (by kernel_rfl) ?_
          refine alloc_rule (d := I false []) fun r hr => ?_
          refine lit_IL [1, 2] rfl rfl (by decide) fun s1 => ?_
          refine call_fn (ofW s1 1 2 [1, 2] [[1, 2]] rfl rfl (by decide) (by decide) (by decide) (by decide)) (Seals.refl _ _) (by repeat (first | exact Sub.nil _ | refine Sub.cons (by repeat (first | exact List.Mem.head _ | apply List.Mem.tail)) ?_)) ?_
          rintro m1 _ _ ⟨rfl, rfl⟩
          refine index_fact (n := 1) (by repeat (first | exact List.Mem.head _ | apply List.Mem.tail)) 0 rfl (by decide) fun i1 => ?_
          refine load_fact (d := vd [1, 2]) (by repeat (first | exact List.Mem.head _ | apply List.Mem.tail)) (load_V _) fun p1 => ?_
          refine lit_IL [3, 0, 1] rfl rfl (by decide) fun s2 => ?_
          refine call_fn (ofW s2 1 3 [3, 0, 1] [[3, 0, 1]] rfl rfl (by decide) (by decide) (by decide) (by decide)) (Seals.refl _ _) (by repeat (first | exact Sub.nil _ | refine Sub.cons (by repeat (first | exact List.Mem.head _ | apply List.Mem.tail)) ?_)) ?_
          rintro m2 _ _ ⟨rfl, rfl⟩
          refine index_fact (n := 1) (by repeat (first | exact List.Mem.head _ | apply List.Mem.tail)) 0 rfl (by decide) fun i2 => ?_
          refine load_fact (d := vd [3, 0, 1]) (by repeat (first | exact List.Mem.head _ | apply List.Mem.tail)) (load_V _) fun p2 => ?_
          refine call_fn (resW p1 p2 [1, 2] [3, 0, 1] 1 13 (by decide) sz1 sz3 (by decide) (by decide) (by decide)) (Seals.refl _ _) (by repeat (first | exact Sub.nil _ | refine Sub.cons (by repeat (first | exact List.Mem.head _ | apply List.Mem.tail)) ?_)) ?_
          rintro rv _ _ ⟨rfl, rfl⟩
          refine store_box (d := zd 13) 0 rfl hr rfl (by kernel_rfl) ?_ ?_; exact Reads.fact (by repeat (first | exact List.Mem.head _ | apply List.Mem.tail))
          exact again r trivial trivial (by repeat (first | exact trivial | refine ⟨rfl, ?_⟩ | refine ⟨i64_eq (by first | omega | (simp only; omega)), ?_⟩ | refine ⟨u64_eq (by first | omega | (simp only; omega)), ?_⟩)) (Seals.trans (Seals.box (d := zd 13) 0 rfl hr rfl) (Seals.sub (by repeat (first | exact Sub.nil _ | refine Sub.cons (by repeat (first | exact List.Mem.head _ | apply List.Mem.tail)) ?_))))
    · refine ord_split 9 1 (by kernel_rfl) (by kernel_rfl) (by kernel_rfl) ?_ ?_
      · refine ord_split 4 0 (by kernel_rfl) (by kernel_rfl) (by kernel_rfl) ?_ ?_
        · refine ord_go [4, 0, 9, 1, 2, 3, 5, 6, 7, 8, 10] (by kernel_rfl) (by kernel_rfl) ?_
          refine lit_IL [3, 0, 1] rfl rfl (by decide) fun s2 => ?_
          refine lit_IL [1, 2] rfl rfl (by decide) fun s1 => ?_
          refine alloc_rule (d := I false []) fun r hr => ?_
          refine call_fn (ofW s1 1 2 [1, 2] [[1, 2]] rfl rfl (by decide) (by decide) (by decide) (by decide)) (Seals.refl _ _) (by repeat (first | exact Sub.nil _ | refine Sub.cons (by repeat (first | exact List.Mem.head _ | apply List.Mem.tail)) ?_)) ?_
          rintro m1 _ _ ⟨rfl, rfl⟩
          refine index_fact (n := 1) (by repeat (first | exact List.Mem.head _ | apply List.Mem.tail)) 0 rfl (by decide) fun i1 => ?_
          refine load_fact (d := vd [1, 2]) (by repeat (first | exact List.Mem.head _ | apply List.Mem.tail)) (load_V _) fun p1 => ?_
          refine call_fn (ofW s2 1 3 [3, 0, 1] [[3, 0, 1]] rfl rfl (by decide) (by decide) (by decide) (by decide)) (Seals.refl _ _) (by repeat (first | exact Sub.nil _ | refine Sub.cons (by repeat (first | exact List.Mem.head _ | apply List.Mem.tail)) ?_)) ?_
          rintro m2 _ _ ⟨rfl, rfl⟩
          refine index_fact (n := 1) (by repeat (first | exact List.Mem.head _ | apply List.Mem.tail)) 0 rfl (by decide) fun i2 => ?_
          refine load_fact (d := vd [3, 0, 1]) (by repeat (first | exact List.Mem.head _ | apply List.Mem.tail)) (load_V _) fun p2 => ?_
          refine call_fn (resW p1 p2 [1, 2] [3, 0, 1] 1 13 (by decide) sz1 sz3 (by decide) (by decide) (by decide)) (Seals.refl _ _) (by repeat (first | exact Sub.nil _ | refine Sub.cons (by repeat (first | exact List.Mem.head _ | apply List.Mem.tail)) ?_)) ?_
          rintro rv _ _ ⟨rfl, rfl⟩
          refine store_box (d := zd 13) 0 rfl hr rfl (by kernel_rfl) ?_ ?_; exact Reads.fact (by repeat (first | exact List.Mem.head _ | apply List.Mem.tail))
          exact again r trivial trivial (by repeat (first | exact trivial | refine ⟨rfl, ?_⟩ | refine ⟨i64_eq (by first | omega | (simp only; omega)), ?_⟩ | refine ⟨u64_eq (by first | omega | (simp only; omega)), ?_⟩)) (Seals.trans (Seals.box (d := zd 13) 0 rfl hr rfl) (Seals.sub (by repeat (first | exact Sub.nil _ | refine Sub.cons (by repeat (first | exact List.Mem.head _ | apply List.Mem.tail)) ?_))))
        · refine ord_split 4 1 (by kernel_rfl) (by kernel_rfl) (by kernel_rfl) ?_ ?_
          · refine ord_split 4 9 (by kernel_rfl) (by kernel_rfl) (by kernel_rfl) ?_ ?_
            · refine ord_go [0, 4, 9, 1, 2, 3, 5, 6, 7, 8, 10] (by kernel_rfl) (by kernel_rfl) ?_
              refine lit_IL [1, 2] rfl rfl (by decide) fun s1 => ?_
              refine lit_IL [3, 0, 1] rfl rfl (by decide) fun s2 => ?_
              refine alloc_rule (d := I false []) fun r hr => ?_
              refine call_fn (ofW s1 1 2 [1, 2] [[1, 2]] rfl rfl (by decide) (by decide) (by decide) (by decide)) (Seals.refl _ _) (by repeat (first | exact Sub.nil _ | refine Sub.cons (by repeat (first | exact List.Mem.head _ | apply List.Mem.tail)) ?_)) ?_
              rintro m1 _ _ ⟨rfl, rfl⟩
              refine index_fact (n := 1) (by repeat (first | exact List.Mem.head _ | apply List.Mem.tail)) 0 rfl (by decide) fun i1 => ?_
              refine load_fact (d := vd [1, 2]) (by repeat (first | exact List.Mem.head _ | apply List.Mem.tail)) (load_V _) fun p1 => ?_
              refine call_fn (ofW s2 1 3 [3, 0, 1] [[3, 0, 1]] rfl rfl (by decide) (by decide) (by decide) (by decide)) (Seals.refl _ _) (by repeat (first | exact Sub.nil _ | refine Sub.cons (by repeat (first | exact List.Mem.head _ | apply List.Mem.tail)) ?_)) ?_
              rintro m2 _ _ ⟨rfl, rfl⟩
              refine index_fact (n := 1) (by repeat (first | exact List.Mem.head _ | apply List.Mem.tail)) 0 rfl (by decide) fun i2 => ?_
              refine load_fact (d := vd [3, 0, 1]) (by repeat (first | exact List.Mem.head _ | apply List.Mem.tail)) (load_V _) fun p2 => ?_
              refine call_fn (resW p1 p2 [1, 2] [3, 0, 1] 1 13 (by decide) sz1 sz3 (by decide) (by decide) (by decide)) (Seals.refl _ _) (by repeat (first | exact Sub.nil _ | refine Sub.cons (by repeat (first | exact List.Mem.head _ | apply List.Mem.tail)) ?_)) ?_
              rintro rv _ _ ⟨rfl, rfl⟩
              refine store_box (d := zd 13) 0 rfl hr rfl (by kernel_rfl) ?_ ?_; exact Reads.fact (by repeat (first | exact List.Mem.head _ | apply List.Mem.tail))
              exact again r trivial trivial (by repeat (first | exact trivial | refine ⟨rfl, ?_⟩ | refine ⟨i64_eq (by first | omega | (simp only; omega)), ?_⟩ | refine ⟨u64_eq (by first | omega | (simp only; omega)), ?_⟩)) (Seals.trans (Seals.box (d := zd 13) 0 rfl hr rfl) (Seals.sub (by repeat (first | exact Sub.nil _ | refine Sub.cons (by repeat (first | exact List.Mem.head _ | apply List.Mem.tail)) ?_))))
            · refine ord_go [0, 9, 4, 1, 2, 3, 5, 6, 7, 8, 10] (by kernel_rfl) (by kernel_rfl) ?_
              refine lit_IL [1, 2] rfl rfl (by decide) fun s1 => ?_
              refine alloc_rule (d := I false []) fun r hr => ?_
              refine lit_IL [3, 0, 1] rfl rfl (by decide) fun s2 => ?_
              refine call_fn (ofW s1 1 2 [1, 2] [[1, 2]] rfl rfl (by decide) (by decide) (by decide) (by decide)) (Seals.refl _ _) (by repeat (first | exact Sub.nil _ | refine Sub.cons (by repeat (first | exact List.Mem.head _ | apply List.Mem.tail)) ?_)) ?_
              rintro m1 _ _ ⟨rfl, rfl⟩
              refine index_fact (n := 1) (by repeat (first | exact List.Mem.head _ | apply List.Mem.tail)) 0 rfl (by decide) fun i1 => ?_
              refine load_fact (d := vd [1, 2]) (by repeat (first | exact List.Mem.head _ | apply List.Mem.tail)) (load_V _) fun p1 => ?_
              refine call_fn (ofW s2 1 3 [3, 0, 1] [[3, 0, 1]] rfl rfl (by decide) (by decide) (by decide) (by decide)) (Seals.refl _ _) (by repeat (first | exact Sub.nil _ | refine Sub.cons (by repeat (first | exact List.Mem.head _ | apply List.Mem.tail)) ?_)) ?_
              rintro m2 _ _ ⟨rfl, rfl⟩
              refine index_fact (n := 1) (by repeat (first | exact List.Mem.head _ | apply List.Mem.tail)) 0 rfl (by decide) fun i2 => ?_
              refine load_fact (d := vd [3, 0, 1]) (by repeat (first | exact List.Mem.head _ | apply List.Mem.tail)) (load_V _) fun p2 => ?_
              refine call_fn (resW p1 p2 [1, 2] [3, 0, 1] 1 13 (by decide) sz1 sz3 (by decide) (by decide) (by decide)) (Seals.refl _ _) (by repeat (first | exact Sub.nil _ | refine Sub.cons (by repeat (first | exact List.Mem.head _ | apply List.Mem.tail)) ?_)) ?_
              rintro rv _ _ ⟨rfl, rfl⟩
              refine store_box (d := zd 13) 0 rfl hr rfl (by kernel_rfl) ?_ ?_; exact Reads.fact (by repeat (first | exact List.Mem.head _ | apply List.Mem.tail))
              exact again r trivial trivial (by repeat (first | exact trivial | refine ⟨rfl, ?_⟩ | refine ⟨i64_eq (by first | omega | (simp only; omega)), ?_⟩ | refine ⟨u64_eq (by first | omega | (simp only; omega)), ?_⟩)) (Seals.trans (Seals.box (d := zd 13) 0 rfl hr rfl) (Seals.sub (by repeat (first | exact Sub.nil _ | refine Sub.cons (by repeat (first | exact List.Mem.head _ | apply List.Mem.tail)) ?_))))
          · refine ord_go [0, 9, 1, 2, 3, 4, 5, 6, 7, 8, 10] (by kernel_rfl) (by kernel_rfl) ?_
            refine lit_IL [1, 2] rfl rfl (by decide) fun s1 => ?_
            refine alloc_rule (d := I false []) fun r hr => ?_
            refine call_fn (ofW s1 1 2 [1, 2] [[1, 2]] rfl rfl (by decide) (by decide) (by decide) (by decide)) (Seals.refl _ _) (by repeat (first | exact Sub.nil _ | refine Sub.cons (by repeat (first | exact List.Mem.head _ | apply List.Mem.tail)) ?_)) ?_
            rintro m1 _ _ ⟨rfl, rfl⟩
            refine index_fact (n := 1) (by repeat (first | exact List.Mem.head _ | apply List.Mem.tail)) 0 rfl (by decide) fun i1 => ?_
            refine load_fact (d := vd [1, 2]) (by repeat (first | exact List.Mem.head _ | apply List.Mem.tail)) (load_V _) fun p1 => ?_
            refine lit_IL [3, 0, 1] rfl rfl (by decide) fun s2 => ?_
            refine call_fn (ofW s2 1 3 [3, 0, 1] [[3, 0, 1]] rfl rfl (by decide) (by decide) (by decide) (by decide)) (Seals.refl _ _) (by repeat (first | exact Sub.nil _ | refine Sub.cons (by repeat (first | exact List.Mem.head _ | apply List.Mem.tail)) ?_)) ?_
            rintro m2 _ _ ⟨rfl, rfl⟩
            refine index_fact (n := 1) (by repeat (first | exact List.Mem.head _ | apply List.Mem.tail)) 0 rfl (by decide) fun i2 => ?_
            refine load_fact (d := vd [3, 0, 1]) (by repeat (first | exact List.Mem.head _ | apply List.Mem.tail)) (load_V _) fun p2 => ?_
            refine call_fn (resW p1 p2 [1, 2] [3, 0, 1] 1 13 (by decide) sz1 sz3 (by decide) (by decide) (by decide)) (Seals.refl _ _) (by repeat (first | exact Sub.nil _ | refine Sub.cons (by repeat (first | exact List.Mem.head _ | apply List.Mem.tail)) ?_)) ?_
            rintro rv _ _ ⟨rfl, rfl⟩
            refine store_box (d := zd 13) 0 rfl hr rfl (by kernel_rfl) ?_ ?_; exact Reads.fact (by repeat (first | exact List.Mem.head _ | apply List.Mem.tail))
            exact again r trivial trivial (by repeat (first | exact trivial | refine ⟨rfl, ?_⟩ | refine ⟨i64_eq (by first | omega | (simp only; omega)), ?_⟩ | refine ⟨u64_eq (by first | omega | (simp only; omega)), ?_⟩)) (Seals.trans (Seals.box (d := zd 13) 0 rfl hr rfl) (Seals.sub (by repeat (first | exact Sub.nil _ | refine Sub.cons (by repeat (first | exact List.Mem.head _ | apply List.Mem.tail)) ?_))))
      · refine ord_split 9 5 (by kernel_rfl) (by kernel_rfl) (by kernel_rfl) ?_ ?_
        · refine ord_split 4 0 (by kernel_rfl) (by kernel_rfl) (by kernel_rfl) ?_ ?_
          · refine ord_go [4, 0, 1, 2, 3, 9, 5, 6, 7, 8, 10] (by kernel_rfl) (by kernel_rfl) ?_
            refine lit_IL [3, 0, 1] rfl rfl (by decide) fun s2 => ?_
            refine lit_IL [1, 2] rfl rfl (by decide) fun s1 => ?_
            refine call_fn (ofW s1 1 2 [1, 2] [[1, 2]] rfl rfl (by decide) (by decide) (by decide) (by decide)) (Seals.refl _ _) (by repeat (first | exact Sub.nil _ | refine Sub.cons (by repeat (first | exact List.Mem.head _ | apply List.Mem.tail)) ?_)) ?_
            rintro m1 _ _ ⟨rfl, rfl⟩
            refine index_fact (n := 1) (by repeat (first | exact List.Mem.head _ | apply List.Mem.tail)) 0 rfl (by decide) fun i1 => ?_
            refine load_fact (d := vd [1, 2]) (by repeat (first | exact List.Mem.head _ | apply List.Mem.tail)) (load_V _) fun p1 => ?_
            refine alloc_rule (d := I false []) fun r hr => ?_
            refine call_fn (ofW s2 1 3 [3, 0, 1] [[3, 0, 1]] rfl rfl (by decide) (by decide) (by decide) (by decide)) (Seals.refl _ _) (by repeat (first | exact Sub.nil _ | refine Sub.cons (by repeat (first | exact List.Mem.head _ | apply List.Mem.tail)) ?_)) ?_
            rintro m2 _ _ ⟨rfl, rfl⟩
            refine index_fact (n := 1) (by repeat (first | exact List.Mem.head _ | apply List.Mem.tail)) 0 rfl (by decide) fun i2 => ?_
            refine load_fact (d := vd [3, 0, 1]) (by repeat (first | exact List.Mem.head _ | apply List.Mem.tail)) (load_V _) fun p2 => ?_
            refine call_fn (resW p1 p2 [1, 2] [3, 0, 1] 1 13 (by decide) sz1 sz3 (by decide) (by decide) (by decide)) (Seals.refl _ _) (by repeat (first | exact Sub.nil _ | refine Sub.cons (by repeat (first | exact List.Mem.head _ | apply List.Mem.tail)) ?_)) ?_
            rintro rv _ _ ⟨rfl, rfl⟩
            refine store_box (d := zd 13) 0 rfl hr rfl (by kernel_rfl) ?_ ?_; exact Reads.fact (by repeat (first | exact List.Mem.head _ | apply List.Mem.tail))
            exact again r trivial trivial (by repeat (first | exact trivial | refine ⟨rfl, ?_⟩ | refine ⟨i64_eq (by first | omega | (simp only; omega)), ?_⟩ | refine ⟨u64_eq (by first | omega | (simp only; omega)), ?_⟩)) (Seals.trans (Seals.box (d := zd 13) 0 rfl hr rfl) (Seals.sub (by repeat (first | exact Sub.nil _ | refine Sub.cons (by repeat (first | exact List.Mem.head _ | apply List.Mem.tail)) ?_))))
          · refine ord_split 4 1 (by kernel_rfl) (by kernel_rfl) (by kernel_rfl) ?_ ?_
            · refine ord_go [0, 4, 1, 2, 3, 9, 5, 6, 7, 8, 10] (by kernel_rfl) (by kernel_rfl) ?_
              refine lit_IL [1, 2] rfl rfl (by decide) fun s1 => ?_
              refine lit_IL [3, 0, 1] rfl rfl (by decide) fun s2 => ?_
              refine call_fn (ofW s1 1 2 [1, 2] [[1, 2]] rfl rfl (by decide) (by decide) (by decide) (by decide)) (Seals.refl _ _) (by repeat (first | exact Sub.nil _ | refine Sub.cons (by repeat (first | exact List.Mem.head _ | apply List.Mem.tail)) ?_)) ?_
              rintro m1 _ _ ⟨rfl, rfl⟩
              refine index_fact (n := 1) (by repeat (first | exact List.Mem.head _ | apply List.Mem.tail)) 0 rfl (by decide) fun i1 => ?_
              refine load_fact (d := vd [1, 2]) (by repeat (first | exact List.Mem.head _ | apply List.Mem.tail)) (load_V _) fun p1 => ?_
              refine alloc_rule (d := I false []) fun r hr => ?_
              refine call_fn (ofW s2 1 3 [3, 0, 1] [[3, 0, 1]] rfl rfl (by decide) (by decide) (by decide) (by decide)) (Seals.refl _ _) (by repeat (first | exact Sub.nil _ | refine Sub.cons (by repeat (first | exact List.Mem.head _ | apply List.Mem.tail)) ?_)) ?_
              rintro m2 _ _ ⟨rfl, rfl⟩
              refine index_fact (n := 1) (by repeat (first | exact List.Mem.head _ | apply List.Mem.tail)) 0 rfl (by decide) fun i2 => ?_
              refine load_fact (d := vd [3, 0, 1]) (by repeat (first | exact List.Mem.head _ | apply List.Mem.tail)) (load_V _) fun p2 => ?_
              refine call_fn (resW p1 p2 [1, 2] [3, 0, 1] 1 13 (by decide) sz1 sz3 (by decide) (by decide) (by decide)) (Seals.refl _ _) (by repeat (first | exact Sub.nil _ | refine Sub.cons (by repeat (first | exact List.Mem.head _ | apply List.Mem.tail)) ?_)) ?_
              rintro rv _ _ ⟨rfl, rfl⟩
              refine store_box (d := zd 13) 0 rfl hr rfl (by kernel_rfl) ?_ ?_; exact Reads.fact (by repeat (first | exact List.Mem.head _ | apply List.Mem.tail))
              exact again r trivial trivial (by repeat (first | exact trivial | refine ⟨rfl, ?_⟩ | refine ⟨i64_eq (by first | omega | (simp only; omega)), ?_⟩ | refine ⟨u64_eq (by first | omega | (simp only; omega)), ?_⟩)) (Seals.trans (Seals.box (d := zd 13) 0 rfl hr rfl) (Seals.sub (by repeat (first | exact Sub.nil _ | refine Sub.cons (by repeat (first | exact List.Mem.head _ | apply List.Mem.tail)) ?_))))
            · refine ord_split 4 9 (by kernel_rfl) (by kernel_rfl) (by kernel_rfl) ?_ ?_
              · refine ord_go [0, 1, 2, 3, 4, 9, 5, 6, 7, 8, 10] (by kernel_rfl) (by kernel_rfl) ?_
                refine lit_IL [1, 2] rfl rfl (by decide) fun s1 => ?_
                refine call_fn (ofW s1 1 2 [1, 2] [[1, 2]] rfl rfl (by decide) (by decide) (by decide) (by decide)) (Seals.refl _ _) (by repeat (first | exact Sub.nil _ | refine Sub.cons (by repeat (first | exact List.Mem.head _ | apply List.Mem.tail)) ?_)) ?_
                rintro m1 _ _ ⟨rfl, rfl⟩
                refine index_fact (n := 1) (by repeat (first | exact List.Mem.head _ | apply List.Mem.tail)) 0 rfl (by decide) fun i1 => ?_
                refine load_fact (d := vd [1, 2]) (by repeat (first | exact List.Mem.head _ | apply List.Mem.tail)) (load_V _) fun p1 => ?_
                refine lit_IL [3, 0, 1] rfl rfl (by decide) fun s2 => ?_
                refine alloc_rule (d := I false []) fun r hr => ?_
                refine call_fn (ofW s2 1 3 [3, 0, 1] [[3, 0, 1]] rfl rfl (by decide) (by decide) (by decide) (by decide)) (Seals.refl _ _) (by repeat (first | exact Sub.nil _ | refine Sub.cons (by repeat (first | exact List.Mem.head _ | apply List.Mem.tail)) ?_)) ?_
                rintro m2 _ _ ⟨rfl, rfl⟩
                refine index_fact (n := 1) (by repeat (first | exact List.Mem.head _ | apply List.Mem.tail)) 0 rfl (by decide) fun i2 => ?_
                refine load_fact (d := vd [3, 0, 1]) (by repeat (first | exact List.Mem.head _ | apply List.Mem.tail)) (load_V _) fun p2 => ?_
                refine call_fn (resW p1 p2 [1, 2] [3, 0, 1] 1 13 (by decide) sz1 sz3 (by decide) (by decide) (by decide)) (Seals.refl _ _) (by repeat (first | exact Sub.nil _ | refine Sub.cons (by repeat (first | exact List.Mem.head _ | apply List.Mem.tail)) ?_)) ?_
                rintro rv _ _ ⟨rfl, rfl⟩
                refine store_box (d := zd 13) 0 rfl hr rfl (by kernel_rfl) ?_ ?_; exact Reads.fact (by repeat (first | exact List.Mem.head _ | apply List.Mem.tail))
                exact again r trivial trivial (by repeat (first | exact trivial | refine ⟨rfl, ?_⟩ | refine ⟨i64_eq (by first | omega | (simp only; omega)), ?_⟩ | refine ⟨u64_eq (by first | omega | (simp only; omega)), ?_⟩)) (Seals.trans (Seals.box (d := zd 13) 0 rfl hr rfl) (Seals.sub (by repeat (first | exact Sub.nil _ | refine Sub.cons (by repeat (first | exact List.Mem.head _ | apply List.Mem.tail)) ?_))))
              · refine ord_go [0, 1, 2, 3, 9, 4, 5, 6, 7, 8, 10] (by kernel_rfl) (by kernel_rfl) ?_
                refine lit_IL [1, 2] rfl rfl (by decide) fun s1 => ?_
                refine call_fn (ofW s1 1 2 [1, 2] [[1, 2]] rfl rfl (by decide) (by decide) (by decide) (by decide)) (Seals.refl _ _) (by repeat (first | exact Sub.nil _ | refine Sub.cons (by repeat (first | exact List.Mem.head _ | apply List.Mem.tail)) ?_)) ?_
                rintro m1 _ _ ⟨rfl, rfl⟩
                refine index_fact (n := 1) (by repeat (first | exact List.Mem.head _ | apply List.Mem.tail)) 0 rfl (by decide) fun i1 => ?_
                refine load_fact (d := vd [1, 2]) (by repeat (first | exact List.Mem.head _ | apply List.Mem.tail)) (load_V _) fun p1 => ?_
                refine alloc_rule (d := I false []) fun r hr => ?_
                refine lit_IL [3, 0, 1] rfl rfl (by decide) fun s2 => ?_
                refine call_fn (ofW s2 1 3 [3, 0, 1] [[3, 0, 1]] rfl rfl (by decide) (by decide) (by decide) (by decide)) (Seals.refl _ _) (by repeat (first | exact Sub.nil _ | refine Sub.cons (by repeat (first | exact List.Mem.head _ | apply List.Mem.tail)) ?_)) ?_
                rintro m2 _ _ ⟨rfl, rfl⟩
                refine index_fact (n := 1) (by repeat (first | exact List.Mem.head _ | apply List.Mem.tail)) 0 rfl (by decide) fun i2 => ?_
                refine load_fact (d := vd [3, 0, 1]) (by repeat (first | exact List.Mem.head _ | apply List.Mem.tail)) (load_V _) fun p2 => ?_
                refine call_fn (resW p1 p2 [1, 2] [3, 0, 1] 1 13 (by decide) sz1 sz3 (by decide) (by decide) (by decide)) (Seals.refl _ _) (by repeat (first | exact Sub.nil _ | refine Sub.cons (by repeat (first | exact List.Mem.head _ | apply List.Mem.tail)) ?_)) ?_
                rintro rv _ _ ⟨rfl, rfl⟩
                refine store_box (d := zd 13) 0 rfl hr rfl (by kernel_rfl) ?_ ?_; exact Reads.fact (by repeat (first | exact List.Mem.head _ | apply List.Mem.tail))
                exact again r trivial trivial (by repeat (first | exact trivial | refine ⟨rfl, ?_⟩ | refine ⟨i64_eq (by first | omega | (simp only; omega)), ?_⟩ | refine ⟨u64_eq (by first | omega | (simp only; omega)), ?_⟩)) (Seals.trans (Seals.box (d := zd 13) 0 rfl hr rfl) (Seals.sub (by repeat (first | exact Sub.nil _ | refine Sub.cons (by repeat (first | exact List.Mem.head _ | apply List.Mem.tail)) ?_))))
        · refine ord_split 9 8 (by kernel_rfl) (by kernel_rfl) (by kernel_rfl) ?_ ?_
          · refine ord_split 4 0 (by kernel_rfl) (by kernel_rfl) (by kernel_rfl) ?_ ?_
            · refine ord_go [4, 0, 1, 2, 3, 5, 6, 7, 9, 8, 10] (by kernel_rfl) (by kernel_rfl) ?_
              refine lit_IL [3, 0, 1] rfl rfl (by decide) fun s2 => ?_
              refine lit_IL [1, 2] rfl rfl (by decide) fun s1 => ?_
              refine call_fn (ofW s1 1 2 [1, 2] [[1, 2]] rfl rfl (by decide) (by decide) (by decide) (by decide)) (Seals.refl _ _) (by repeat (first | exact Sub.nil _ | refine Sub.cons (by repeat (first | exact List.Mem.head _ | apply List.Mem.tail)) ?_)) ?_
              rintro m1 _ _ ⟨rfl, rfl⟩
              refine index_fact (n := 1) (by repeat (first | exact List.Mem.head _ | apply List.Mem.tail)) 0 rfl (by decide) fun i1 => ?_
              refine load_fact (d := vd [1, 2]) (by repeat (first | exact List.Mem.head _ | apply List.Mem.tail)) (load_V _) fun p1 => ?_
              refine call_fn (ofW s2 1 3 [3, 0, 1] [[3, 0, 1]] rfl rfl (by decide) (by decide) (by decide) (by decide)) (Seals.refl _ _) (by repeat (first | exact Sub.nil _ | refine Sub.cons (by repeat (first | exact List.Mem.head _ | apply List.Mem.tail)) ?_)) ?_
              rintro m2 _ _ ⟨rfl, rfl⟩
              refine index_fact (n := 1) (by repeat (first | exact List.Mem.head _ | apply List.Mem.tail)) 0 rfl (by decide) fun i2 => ?_
              refine load_fact (d := vd [3, 0, 1]) (by repeat (first | exact List.Mem.head _ | apply List.Mem.tail)) (load_V _) fun p2 => ?_
              refine alloc_rule (d := I false []) fun r hr => ?_
              refine call_fn (resW p1 p2 [1, 2] [3, 0, 1] 1 13 (by decide) sz1 sz3 (by decide) (by decide) (by decide)) (Seals.refl _ _) (by repeat (first | exact Sub.nil _ | refine Sub.cons (by repeat (first | exact List.Mem.head _ | apply List.Mem.tail)) ?_)) ?_
              rintro rv _ _ ⟨rfl, rfl⟩
              refine store_box (d := zd 13) 0 rfl hr rfl (by kernel_rfl) ?_ ?_; exact Reads.fact (by repeat (first | exact List.Mem.head _ | apply List.Mem.tail))
              exact again r trivial trivial (by repeat (first | exact trivial | refine ⟨rfl, ?_⟩ | refine ⟨i64_eq (by first | omega | (simp only; omega)), ?_⟩ | refine ⟨u64_eq (by first | omega | (simp only; omega)), ?_⟩)) (Seals.trans (Seals.box (d := zd 13) 0 rfl hr rfl) (Seals.sub (by repeat (first | exact Sub.nil _ | refine Sub.cons (by repeat (first | exact List.Mem.head _ | apply List.Mem.tail)) ?_))))
            · refine ord_split 4 1 (by kernel_rfl) (by kernel_rfl) (by kernel_rfl) ?_ ?_
              · refine ord_go [0, 4, 1, 2, 3, 5, 6, 7, 9, 8, 10] (by kernel_rfl) (by kernel_rfl) ?_
                refine lit_IL [1, 2] rfl rfl (by decide) fun s1 => ?_
                refine lit_IL [3, 0, 1] rfl rfl (by decide) fun s2 => ?_
                refine call_fn (ofW s1 1 2 [1, 2] [[1, 2]] rfl rfl (by decide) (by decide) (by decide) (by decide)) (Seals.refl _ _) (by repeat (first | exact Sub.nil _ | refine Sub.cons (by repeat (first | exact List.Mem.head _ | apply List.Mem.tail)) ?_)) ?_
                rintro m1 _ _ ⟨rfl, rfl⟩
                refine index_fact (n := 1) (by repeat (first | exact List.Mem.head _ | apply List.Mem.tail)) 0 rfl (by decide) fun i1 => ?_
                refine load_fact (d := vd [1, 2]) (by repeat (first | exact List.Mem.head _ | apply List.Mem.tail)) (load_V _) fun p1 => ?_
                refine call_fn (ofW s2 1 3 [3, 0, 1] [[3, 0, 1]] rfl rfl (by decide) (by decide) (by decide) (by decide)) (Seals.refl _ _) (by repeat (first | exact Sub.nil _ | refine Sub.cons (by repeat (first | exact List.Mem.head _ | apply List.Mem.tail)) ?_)) ?_
                rintro m2 _ _ ⟨rfl, rfl⟩
                refine index_fact (n := 1) (by repeat (first | exact List.Mem.head _ | apply List.Mem.tail)) 0 rfl (by decide) fun i2 => ?_
                refine load_fact (d := vd [3, 0, 1]) (by repeat (first | exact List.Mem.head _ | apply List.Mem.tail)) (load_V _) fun p2 => ?_
                refine alloc_rule (d := I false []) fun r hr => ?_
                refine call_fn (resW p1 p2 [1, 2] [3, 0, 1] 1 13 (by decide) sz1 sz3 (by decide) (by decide) (by decide)) (Seals.refl _ _) (by repeat (first | exact Sub.nil _ | refine Sub.cons (by repeat (first | exact List.Mem.head _ | apply List.Mem.tail)) ?_)) ?_
                rintro rv _ _ ⟨rfl, rfl⟩
                refine store_box (d := zd 13) 0 rfl hr rfl (by kernel_rfl) ?_ ?_; exact Reads.fact (by repeat (first | exact List.Mem.head _ | apply List.Mem.tail))
                exact again r trivial trivial (by repeat (first | exact trivial | refine ⟨rfl, ?_⟩ | refine ⟨i64_eq (by first | omega | (simp only; omega)), ?_⟩ | refine ⟨u64_eq (by first | omega | (simp only; omega)), ?_⟩)) (Seals.trans (Seals.box (d := zd 13) 0 rfl hr rfl) (Seals.sub (by repeat (first | exact Sub.nil _ | refine Sub.cons (by repeat (first | exact List.Mem.head _ | apply List.Mem.tail)) ?_))))
              · refine ord_go [0, 1, 2, 3, 4, 5, 6, 7, 9, 8, 10] (by kernel_rfl) (by kernel_rfl) ?_
                refine lit_IL [1, 2] rfl rfl (by decide) fun s1 => ?_
                refine call_fn (ofW s1 1 2 [1, 2] [[1, 2]] rfl rfl (by decide) (by decide) (by decide) (by decide)) (Seals.refl _ _) (by repeat (first | exact Sub.nil _ | refine Sub.cons (by repeat (first | exact List.Mem.head _ | apply List.Mem.tail)) ?_)) ?_
                rintro m1 _ _ ⟨rfl, rfl⟩
                refine index_fact (n := 1) (by repeat (first | exact List.Mem.head _ | apply List.Mem.tail)) 0 rfl (by decide) fun i1 => ?_
                refine load_fact (d := vd [1, 2]) (by repeat (first | exact List.Mem.head _ | apply List.Mem.tail)) (load_V _) fun p1 => ?_
                refine lit_IL [3, 0, 1] rfl rfl (by decide) fun s2 => ?_
                refine call_fn (ofW s2 1 3 [3, 0, 1] [[3, 0, 1]] rfl rfl (by decide) (by decide) (by decide) (by decide)) (Seals.refl _ _) (by repeat (first | exact Sub.nil _ | refine Sub.cons (by repeat (first | exact List.Mem.head _ | apply List.Mem.tail)) ?_)) ?_
                rintro m2 _ _ ⟨rfl, rfl⟩
                refine index_fact (n := 1) (by repeat (first | exact List.Mem.head _ | apply List.Mem.tail)) 0 rfl (by decide) fun i2 => ?_
                refine load_fact (d := vd [3, 0, 1]) (by repeat (first | exact List.Mem.head _ | apply List.Mem.tail)) (load_V _) fun p2 => ?_
                refine alloc_rule (d := I false []) fun r hr => ?_
                refine call_fn (resW p1 p2 [1, 2] [3, 0, 1] 1 13 (by decide) sz1 sz3 (by decide) (by decide) (by decide)) (Seals.refl _ _) (by repeat (first | exact Sub.nil _ | refine Sub.cons (by repeat (first | exact List.Mem.head _ | apply List.Mem.tail)) ?_)) ?_
                rintro rv _ _ ⟨rfl, rfl⟩
                refine store_box (d := zd 13) 0 rfl hr rfl (by kernel_rfl) ?_ ?_; exact Reads.fact (by repeat (first | exact List.Mem.head _ | apply List.Mem.tail))
                exact again r trivial trivial (by repeat (first | exact trivial | refine ⟨rfl, ?_⟩ | refine ⟨i64_eq (by first | omega | (simp only; omega)), ?_⟩ | refine ⟨u64_eq (by first | omega | (simp only; omega)), ?_⟩)) (Seals.trans (Seals.box (d := zd 13) 0 rfl hr rfl) (Seals.sub (by repeat (first | exact Sub.nil _ | refine Sub.cons (by repeat (first | exact List.Mem.head _ | apply List.Mem.tail)) ?_))))
          · refine ord_split 4 0 (by kernel_rfl) (by kernel_rfl) (by kernel_rfl) ?_ ?_
            · refine ord_go [4, 0, 1, 2, 3, 5, 6, 7, 8, 9, 10] (by kernel_rfl) (by kernel_rfl) ?_
              refine lit_IL [3, 0, 1] rfl rfl (by decide) fun s2 => ?_
              refine lit_IL [1, 2] rfl rfl (by decide) fun s1 => ?_
              refine call_fn (ofW s1 1 2 [1, 2] [[1, 2]] rfl rfl (by decide) (by decide) (by decide) (by decide)) (Seals.refl _ _) (by repeat (first | exact Sub.nil _ | refine Sub.cons (by repeat (first | exact List.Mem.head _ | apply List.Mem.tail)) ?_)) ?_
              rintro m1 _ _ ⟨rfl, rfl⟩
              refine index_fact (n := 1) (by repeat (first | exact List.Mem.head _ | apply List.Mem.tail)) 0 rfl (by decide) fun i1 => ?_
              refine load_fact (d := vd [1, 2]) (by repeat (first | exact List.Mem.head _ | apply List.Mem.tail)) (load_V _) fun p1 => ?_
              refine call_fn (ofW s2 1 3 [3, 0, 1] [[3, 0, 1]] rfl rfl (by decide) (by decide) (by decide) (by decide)) (Seals.refl _ _) (by repeat (first | exact Sub.nil _ | refine Sub.cons (by repeat (first | exact List.Mem.head _ | apply List.Mem.tail)) ?_)) ?_
              rintro m2 _ _ ⟨rfl, rfl⟩
              refine index_fact (n := 1) (by repeat (first | exact List.Mem.head _ | apply List.Mem.tail)) 0 rfl (by decide) fun i2 => ?_
              refine load_fact (d := vd [3, 0, 1]) (by repeat (first | exact List.Mem.head _ | apply List.Mem.tail)) (load_V _) fun p2 => ?_
              refine call_fn (resW p1 p2 [1, 2] [3, 0, 1] 1 13 (by decide) sz1 sz3 (by decide) (by decide) (by decide)) (Seals.refl _ _) (by repeat (first | exact Sub.nil _ | refine Sub.cons (by repeat (first | exact List.Mem.head _ | apply List.Mem.tail)) ?_)) ?_
              rintro rv _ _ ⟨rfl, rfl⟩
              refine alloc_rule (d := I false []) fun r hr => ?_
              refine store_box (d := zd 13) 0 rfl hr rfl (by kernel_rfl) ?_ ?_; exact Reads.fact (by repeat (first | exact List.Mem.head _ | apply List.Mem.tail))
              exact again r trivial trivial (by repeat (first | exact trivial | refine ⟨rfl, ?_⟩ | refine ⟨i64_eq (by first | omega | (simp only; omega)), ?_⟩ | refine ⟨u64_eq (by first | omega | (simp only; omega)), ?_⟩)) (Seals.trans (Seals.box (d := zd 13) 0 rfl hr rfl) (Seals.sub (by repeat (first | exact Sub.nil _ | refine Sub.cons (by repeat (first | exact List.Mem.head _ | apply List.Mem.tail)) ?_))))
            · refine ord_split 4 1 (by kernel_rfl) (by kernel_rfl) (by kernel_rfl) ?_ ?_
              · refine ord_go [0, 4, 1, 2, 3, 5, 6, 7, 8, 9, 10] (by kernel_rfl) (by kernel_rfl) ?_
                refine lit_IL [1, 2] rfl rfl (by decide) fun s1 => ?_
                refine lit_IL [3, 0, 1] rfl rfl (by decide) fun s2 => ?_
                refine call_fn (ofW s1 1 2 [1, 2] [[1, 2]] rfl rfl (by decide) (by decide) (by decide) (by decide)) (Seals.refl _ _) (by repeat (first | exact Sub.nil _ | refine Sub.cons (by repeat (first | exact List.Mem.head _ | apply List.Mem.tail)) ?_)) ?_
                rintro m1 _ _ ⟨rfl, rfl⟩
                refine index_fact (n := 1) (by repeat (first | exact List.Mem.head _ | apply List.Mem.tail)) 0 rfl (by decide) fun i1 => ?_
                refine load_fact (d := vd [1, 2]) (by repeat (first | exact List.Mem.head _ | apply List.Mem.tail)) (load_V _) fun p1 => ?_
                refine call_fn (ofW s2 1 3 [3, 0, 1] [[3, 0, 1]] rfl rfl (by decide) (by decide) (by decide) (by decide)) (Seals.refl _ _) (by repeat (first | exact Sub.nil _ | refine Sub.cons (by repeat (first | exact List.Mem.head _ | apply List.Mem.tail)) ?_)) ?_
                rintro m2 _ _ ⟨rfl, rfl⟩
                refine index_fact (n := 1) (by repeat (first | exact List.Mem.head _ | apply List.Mem.tail)) 0 rfl (by decide) fun i2 => ?_
                refine load_fact (d := vd [3, 0, 1]) (by repeat (first | exact List.Mem.head _ | apply List.Mem.tail)) (load_V _) fun p2 => ?_
                refine call_fn (resW p1 p2 [1, 2] [3, 0, 1] 1 13 (by decide) sz1 sz3 (by decide) (by decide) (by decide)) (Seals.refl _ _) (by repeat (first | exact Sub.nil _ | refine Sub.cons (by repeat (first | exact List.Mem.head _ | apply List.Mem.tail)) ?_)) ?_
                rintro rv _ _ ⟨rfl, rfl⟩
                refine alloc_rule (d := I false []) fun r hr => ?_
                refine store_box (d := zd 13) 0 rfl hr rfl (by kernel_rfl) ?_ ?_; exact Reads.fact (by repeat (first | exact List.Mem.head _ | apply List.Mem.tail))
                exact again r trivial trivial (by repeat (first | exact trivial | refine ⟨rfl, ?_⟩ | refine ⟨i64_eq (by first | omega | (simp only; omega)), ?_⟩ | refine ⟨u64_eq (by first | omega | (simp only; omega)), ?_⟩)) (Seals.trans (Seals.box (d := zd 13) 0 rfl hr rfl) (Seals.sub (by repeat (first | exact Sub.nil _ | refine Sub.cons (by repeat (first | exact List.Mem.head _ | apply List.Mem.tail)) ?_))))
              · refine ord_go [0, 1, 2, 3, 4, 5, 6, 7, 8, 9, 10] (by kernel_rfl) (by kernel_rfl) ?_
                refine lit_IL [1, 2] rfl rfl (by decide) fun s1 => ?_
                refine call_fn (ofW s1 1 2 [1, 2] [[1, 2]] rfl rfl (by decide) (by decide) (by decide) (by decide)) (Seals.refl _ _) (by repeat (first | exact Sub.nil _ | refine Sub.cons (by repeat (first | exact List.Mem.head _ | apply List.Mem.tail)) ?_)) ?_
                rintro m1 _ _ ⟨rfl, rfl⟩
                refine index_fact (n := 1) (by repeat (first | exact List.Mem.head _ | apply List.Mem.tail)) 0 rfl (by decide) fun i1 => ?_
                refine load_fact (d := vd [1, 2]) (by repeat (first | exact List.Mem.head _ | apply List.Mem.tail)) (load_V _) fun p1 => ?_
                refine lit_IL [3, 0, 1] rfl rfl (by decide) fun s2 => ?_
                refine call_fn (ofW s2 1 3 [3, 0, 1] [[3, 0, 1]] rfl rfl (by decide) (by decide) (by decide) (by decide)) (Seals.refl _ _) (by repeat (first | exact Sub.nil _ | refine Sub.cons (by repeat (first | exact List.Mem.head _ | apply List.Mem.tail)) ?_)) ?_
                rintro m2 _ _ ⟨rfl, rfl⟩
                refine index_fact (n := 1) (by repeat (first | exact List.Mem.head _ | apply List.Mem.tail)) 0 rfl (by decide) fun i2 => ?_
                refine load_fact (d := vd [3, 0, 1]) (by repeat (first | exact List.Mem.head _ | apply List.Mem.tail)) (load_V _) fun p2 => ?_
                refine call_fn (resW p1 p2 [1, 2] [3, 0, 1] 1 13 (by decide) sz1 sz3 (by decide) (by decide) (by decide)) (Seals.refl _ _) (by repeat (first | exact Sub.nil _ | refine Sub.cons (by repeat (first | exact List.Mem.head _ | apply List.Mem.tail)) ?_)) ?_
                rintro rv _ _ ⟨rfl, rfl⟩
                refine alloc_rule (d := I false []) fun r hr => ?_
                refine store_box (d := zd 13) 0 rfl hr rfl (by kernel_rfl) ?_ ?_; exact Reads.fact (by repeat (first | exact List.Mem.head _ | apply List.Mem.tail))
                exact again r trivial trivial (by repeat (first | exact trivial | refine ⟨rfl, ?_⟩ | refine ⟨i64_eq (by first | omega | (simp only; omega)), ?_⟩ | refine ⟨u64_eq (by first | omega | (simp only; omega)), ?_⟩)) (Seals.trans (Seals.box (d := zd 13) 0 rfl hr rfl) (Seals.sub (by repeat (first | exact Sub.nil _ | refine Sub.cons (by repeat (first | exact List.Mem.head _ | apply List.Mem.tail)) ?_))))
  rintro r -
  simp only
  refine draw_rule [0, 1, 2, 3, 4, 5, 6, 7, 8, 9, 10, 11, 12, 13, 14, 15, 16, 17, 18, 19, 20, 21, 22, 23, 24, 25, 26, 27, 28, 29] [0, 1, 2, 3, 4, 5, 6, 7, 8, 9, 10, 11, 12, 13, 14, 15, 16, 17, 18, 19, 20, 21, 22, 23, 24, 25, 26, 27, 28, 29] (by kernel_rfl) (by kernel_rfl) ?_
  refine load_box (d := zd (-2)) 1 rfl hd rfl (load_I _ _) fun y1 => ?_
  refine call_fn (rOf_meets (-2) (by decide) (by decide)) (Seals.refl _ _) (by repeat (first | exact Sub.nil _ | refine Sub.cons (by repeat (first | exact List.Mem.head _ | apply List.Mem.tail)) ?_)) ?_
  rintro y2 _ _ ⟨rfl, rfl⟩
  refine call_fn (exactW y1 y2 (-2) (-2)) (Seals.refl _ _) (by repeat (first | exact Sub.nil _ | refine Sub.cons (by repeat (first | exact List.Mem.head _ | apply List.Mem.tail)) ?_)) ?_
  rintro _ _ _ ⟨rfl, rfl, rfl⟩
  refine cmp_false rfl (by decide) ?_
  refine lit_IL [4, -2, -3, 1] rfl rfl (by decide) fun s3 => ?_
  refine call_fn (ofW s3 2 2 [4, -2, -3, 1] [[4, -2], [-3, 1]] rfl rfl (by decide) (by decide) (by decide) (by decide)) (Seals.refl _ _) (by repeat (first | exact Sub.nil _ | refine Sub.cons (by repeat (first | exact List.Mem.head _ | apply List.Mem.tail)) ?_)) ?_
  rintro m3 _ _ ⟨rfl, rfl⟩
  refine call_fn (sameW x m3 [[4, -2], [-3, 1]] [[4, -2], [-3, 1]]) (Seals.refl _ _) (by repeat (first | exact Sub.nil _ | refine Sub.cons (by repeat (first | exact List.Mem.head _ | apply List.Mem.tail)) ?_)) ?_
  rintro _ _ _ ⟨rfl, rfl, rfl⟩
  refine lit_IL [8, -9] rfl rfl (by decide) fun s4 => ?_
  refine call_fn (ofW s4 1 2 [8, -9] [[8, -9]] rfl rfl (by decide) (by decide) (by decide) (by decide)) (Seals.refl _ _) (by repeat (first | exact Sub.nil _ | refine Sub.cons (by repeat (first | exact List.Mem.head _ | apply List.Mem.tail)) ?_)) ?_
  rintro m4 _ _ ⟨rfl, rfl⟩
  refine index_fact (n := 1) (by repeat (first | exact List.Mem.head _ | apply List.Mem.tail)) 0 rfl (by decide) fun i4 => ?_
  refine load_fact (d := vd [8, -9]) (by repeat (first | exact List.Mem.head _ | apply List.Mem.tail)) (load_V _) fun p4 => ?_
  refine call_fn (exactAllW y p4 [8, -9] [8, -9]) (Seals.refl _ _) (by repeat (first | exact Sub.nil _ | refine Sub.cons (by repeat (first | exact List.Mem.head _ | apply List.Mem.tail)) ?_)) ?_
  rintro _ _ _ ⟨rfl, rfl, rfl⟩
  refine load_box (d := zd (-2)) 0 rfl hz' rfl (load_I _ _) fun y3 => ?_
  refine call_fn (rOf_meets (-2) (by decide) (by decide)) (Seals.refl _ _) (by repeat (first | exact Sub.nil _ | refine Sub.cons (by repeat (first | exact List.Mem.head _ | apply List.Mem.tail)) ?_)) ?_
  rintro y4 _ _ ⟨rfl, rfl⟩
  refine call_fn (exactW y3 y4 (-2) (-2)) (Seals.refl _ _) (by repeat (first | exact Sub.nil _ | refine Sub.cons (by repeat (first | exact List.Mem.head _ | apply List.Mem.tail)) ?_)) ?_
  rintro _ _ _ ⟨rfl, rfl, rfl⟩
  refine draw_rule [0, 1, 2, 3, 4, 5, 6, 7, 8, 9, 10, 11, 12, 13, 14, 15, 16, 17, 18, 19, 20, 21, 22, 23, 24, 25, 26, 27, 28, 29] [0, 1, 2, 3, 4, 5, 6, 7, 8, 9, 10, 11, 12, 13, 14, 15, 16, 17, 18, 19, 20, 21, 22, 23, 24, 25, 26, 27, 28, 29] (by kernel_rfl) (by kernel_rfl) ?_
  refine lit_IL [2, 1, 0, 0, 2, 1, 1, 0, 3] rfl rfl (by decide) fun s5 => ?_
  refine call_fn (ofW s5 3 3 [2, 1, 0, 0, 2, 1, 1, 0, 3] [[2, 1, 0], [0, 2, 1], [1, 0, 3]] rfl rfl (by decide) (by decide) (by decide) (by decide)) (Seals.refl _ _) (by repeat (first | exact Sub.nil _ | refine Sub.cons (by repeat (first | exact List.Mem.head _ | apply List.Mem.tail)) ?_)) ?_
  rintro m5 _ _ ⟨rfl, rfl⟩
  refine call_fn (sameW s m5 [[2, 1, 0], [0, 2, 1], [1, 0, 3]] [[2, 1, 0], [0, 2, 1], [1, 0, 3]]) (Seals.refl _ _) (by repeat (first | exact Sub.nil _ | refine Sub.cons (by repeat (first | exact List.Mem.head _ | apply List.Mem.tail)) ?_)) ?_
  rintro _ _ _ ⟨rfl, rfl, rfl⟩
  refine load_fact (d := zd 13) (by repeat (first | exact List.Mem.head _ | apply List.Mem.tail)) (load_I _ _) fun y5 => ?_
  refine call_fn (rOf_meets 13 (by decide) (by decide)) (Seals.refl _ _) (by repeat (first | exact Sub.nil _ | refine Sub.cons (by repeat (first | exact List.Mem.head _ | apply List.Mem.tail)) ?_)) ?_
  rintro y6 _ _ ⟨rfl, rfl⟩
  refine call_fn (exactW y5 y6 13 13) (Seals.refl _ _) (by repeat (first | exact Sub.nil _ | refine Sub.cons (by repeat (first | exact List.Mem.head _ | apply List.Mem.tail)) ?_)) ?_
  rintro _ _ _ ⟨rfl, rfl, rfl⟩
  refine cmp_true rfl rfl ?_
  refine cmp_true rfl rfl ?_
  refine cmp_true rfl rfl ?_
  refine cmp_true rfl rfl ?_
  refine cmp_true rfl rfl ?_
  exact fin ⟨rfl, rfl, rfl⟩ (Seals.trans (Seals.drop 0 _ _) (Seals.trans (Seals.drop 0 _ _) (Seals.nil _ _)))

end Go.Proofs.Ytajkjlgddmkkaaa

namespace Go.Proofs.Ytajkjlgddmkkaaa
open Go.RowKit

/-- Each limb of each number is one. -/
def limM (m : List Row) : Prop := ∀ r, r ∈ m → ∀ x, x ∈ r → Lim x.2

theorem small.fits {n k c : Nat} {m : List Row} (h : small n k c m) (hl : limM m) : Fits c m := fun r hr x hx => ⟨hl r hr x hx, (h.2 r hr).2 x hx⟩
theorem small.cols {n k c : Nat} {m : List Row} (h : small n k c m) : (m.getD 0 []).length ≤ k := by
  by_cases h0 : 0 < m.length
  · exact (h.2 _ (getD_mem [] h0)).1
  · simp [List.getD_eq_getElem?_getD, show m.length = 0 by omega, List.eq_nil_of_length_eq_zero (show m.length = 0 by omega)]

theorem tells_meets (v w : Value) (a b : List Row) (ha : limM a) (hb : limM b) :
    Meets Try.prog 9 [v, w] [(v, W a), (w, W b)] (fun r os fs => os = [] ∧ fs = [] ∧ r = .bool true) := by
  refine meets_of_vc Try.func9 (by kernel_rfl) rfl (by kernel_rfl) (Nat.le_of_ble_eq_true rfl) ?_
  refine call_fn shown_meets (Seals.refl _ _) (by repeat (first | exact Sub.nil _ | refine Sub.cons (by repeat (first | exact List.Mem.head _ | apply List.Mem.tail)) ?_)) ?_
  rintro _ _ _ ⟨rfl, rfl, rfl⟩
  refine call_fn (rowsFits_meets v a 7 7 2) (Seals.refl _ _) (by repeat (first | exact Sub.nil _ | refine Sub.cons (by repeat (first | exact List.Mem.head _ | apply List.Mem.tail)) ?_)) ?_
  rintro _ _ _ ⟨rfl, rfl, rfl⟩
  by_cases hsa : small 7 7 2 a
  case neg =>
    rw [decide_eq_false hsa]
    exact fin ⟨rfl, rfl, rfl⟩ (Seals.nil _ _)
  rw [decide_eq_true hsa]
  refine call_fn (rowsFits_meets w b 7 7 2) (Seals.refl _ _) (by repeat (first | exact Sub.nil _ | refine Sub.cons (by repeat (first | exact List.Mem.head _ | apply List.Mem.tail)) ?_)) ?_
  rintro _ _ _ ⟨rfl, rfl, rfl⟩
  by_cases hsb : small 7 7 2 b
  case neg =>
    rw [decide_eq_false hsb]
    exact fin ⟨rfl, rfl, rfl⟩ (Seals.nil _ _)
  rw [decide_eq_true hsb]
  have hfa := hsa.fits ha
  have hfb := hsb.fits hb
  have hca := hsa.cols
  have hcb := hsb.cols
  have hla := hsa.1
  have hlb := hsb.1
  refine call_fn (rowsOwn_meets v a (by have := hsa.1; omega) fun r hr => ⟨by have := (hsa.2 r hr).1; omega, fun x hx => by have := (hsa.2 r hr).2 x hx; omega⟩) (Seals.refl _ _) (by repeat (first | exact Sub.nil _ | refine Sub.cons (by repeat (first | exact List.Mem.head _ | apply List.Mem.tail)) ?_)) ?_
  rintro x _ _ ⟨rfl, rfl⟩
  refine call_fn (rowsOwn_meets w b (by have := hsb.1; omega) fun r hr => ⟨by have := (hsb.2 r hr).1; omega, fun x hx => by have := (hsb.2 r hr).2 x hx; omega⟩) (Seals.refl _ _) (by repeat (first | exact Sub.nil _ | refine Sub.cons (by repeat (first | exact List.Mem.head _ | apply List.Mem.tail)) ?_)) ?_
  rintro y _ _ ⟨rfl, rfl⟩
  refine call_fn (mMul_meets x y a b 2 hfa hfb (by decide) (by omega) (by omega) (by omega)) (Seals.refl _ _) (by repeat (first | exact Sub.nil _ | refine Sub.cons (by repeat (first | exact List.Mem.head _ | apply List.Mem.tail)) ?_)) ?_
  rintro _ _ _ ⟨rfl, m, rfl, rfl⟩
  refine call_fn (rMMul_meets v w a b 2 hfa hfb (by decide) (by omega) (by omega) (by omega)) (Seals.refl _ _) (by repeat (first | exact Sub.nil _ | refine Sub.cons (by repeat (first | exact List.Mem.head _ | apply List.Mem.tail)) ?_)) ?_
  rintro _ _ _ ⟨rfl, n, rfl, rfl⟩
  refine call_fn (mTurn_meets x a 2 hfa (by decide) (by omega) (by omega)) (Seals.refl _ _) (by repeat (first | exact Sub.nil _ | refine Sub.cons (by repeat (first | exact List.Mem.head _ | apply List.Mem.tail)) ?_)) ?_
  rintro _ _ _ ⟨rfl, t, rfl, rfl⟩
  refine call_fn (rTurn_meets v a 2 hfa (by decide) (by omega) (by omega)) (Seals.refl _ _) (by repeat (first | exact Sub.nil _ | refine Sub.cons (by repeat (first | exact List.Mem.head _ | apply List.Mem.tail)) ?_)) ?_
  rintro _ _ _ ⟨rfl, u, rfl, rfl⟩
  generalize (if fitsProd a b then prod (ww a) (ww b) else []) = M
  generalize (if fitsProd a b then (0 : Int) else 1) = E
  generalize (if right a then turn (ww a) else []) = T
  generalize (if right a then (0 : Int) else 1) = F
  refine call_fn (sameW m n M M) (Seals.refl _ _) (by repeat (first | exact Sub.nil _ | refine Sub.cons (by repeat (first | exact List.Mem.head _ | apply List.Mem.tail)) ?_)) ?_
  rintro _ _ _ ⟨rfl, rfl, rfl⟩
  rw [decide_eq_true rfl]
  refine cmp_true rfl rfl ?_
  refine call_fn (sameW t u T T) (Seals.refl _ _) (by repeat (first | exact Sub.nil _ | refine Sub.cons (by repeat (first | exact List.Mem.head _ | apply List.Mem.tail)) ?_)) ?_
  rintro _ _ _ ⟨rfl, rfl, rfl⟩
  rw [decide_eq_true rfl]
  refine cmp_true rfl rfl ?_
  refine call_fn (mRight_meets x a) (Seals.refl _ _) (by repeat (first | exact Sub.nil _ | refine Sub.cons (by repeat (first | exact List.Mem.head _ | apply List.Mem.tail)) ?_)) ?_
  rintro _ _ _ ⟨rfl, rfl, rfl⟩
  refine call_fn (rRight_meets v a) (Seals.refl _ _) (by repeat (first | exact Sub.nil _ | refine Sub.cons (by repeat (first | exact List.Mem.head _ | apply List.Mem.tail)) ?_)) ?_
  rintro _ _ _ ⟨rfl, rfl, rfl⟩
  refine beq_split (fun _ => ?_) (fun h => absurd rfl h)
  refine call_fn (same_meets x v a a) (Seals.refl _ _) (by repeat (first | exact Sub.nil _ | refine Sub.cons (by repeat (first | exact List.Mem.head _ | apply List.Mem.tail)) ?_)) ?_
  rintro _ _ _ ⟨rfl, rfl, rfl⟩
  rw [decide_eq_true rfl]
  refine call_fn (same_meets y w b b) (Seals.refl _ _) (by repeat (first | exact Sub.nil _ | refine Sub.cons (by repeat (first | exact List.Mem.head _ | apply List.Mem.tail)) ?_)) ?_
  rintro _ _ _ ⟨rfl, rfl, rfl⟩
  rw [decide_eq_true rfl]
  exact fin ⟨rfl, rfl, rfl⟩ (Seals.nil _ _)

end Go.Proofs.Ytajkjlgddmkkaaa

namespace Go.Proofs.Ytajkjlgddmkkaaa
open Go.RowKit

theorem mx_minor2 (m : List (List Int)) (i j x y : Nat) : mx (minor m i j) x y = cut (mx m) i j x y := by
  unfold mx cut minor
  have e : ((m.eraseIdx i).map fun r => r.eraseIdx j).getD x [] = (m.getD (sk i x) []).eraseIdx j := by
    simp only [List.getD_eq_getElem?_getD, List.getElem?_map, List.getElem?_eraseIdx, sk]
    by_cases h : x < i
    · rw [if_pos h, if_pos h]
      cases m[x]? <;> simp
    · rw [if_neg h, if_neg h]
      cases m[x + 1]? <;> simp
  rw [e, getD_erase]

theorem minor_len2 {α : Type} {m : List (List α)} {i j n : Nat} (h : m.length = n + 1) (hi : i < n + 1) : (minor m i j).length = n := by
  unfold minor
  rw [List.length_map, List.length_eraseIdx_of_lt (by omega), h]; rfl

theorem radj_madj (m : List (List Int)) : radj m = madj m := by
  unfold radj madj
  refine List.map_congr_left fun i hi => List.map_congr_left fun j hj => ?_
  have hi' := List.mem_range.1 hi
  have hj' := List.mem_range.1 hj
  unfold adj cof
  congr 1
  by_cases h : 1 < m.length
  · rw [if_pos h]
    obtain ⟨n, hn⟩ : ∃ n, m.length = n + 2 := ⟨m.length - 2, by omega⟩
    rw [hn, show n + 2 - 1 = n + 1 by omega, rdet_det n _ (minor_len2 hn (by omega))]
    exact det_congr fun x y _ _ => mx_minor2 m j i x y
  · rw [if_neg h, show m.length - 1 = 0 by omega]
    rfl

theorem mx_colPut {m : List Row} {b : Row} {c i j : Nat} (hi : i < m.length) (hc : c < (m.getD i []).length) (hj : j < (m.getD i []).length) (hb : i < b.length) :
    mx (ww (colPut m b c m.length)) i j = cw (mx (ww m)) c (fun i => (vv b).getD i 0) i j := by
  unfold mx cw
  rw [ww_get, colPut_get b c _ hi, if_pos hi, vv_get _ _ (by rw [List.length_set]; exact hj), getD_setL hc]
  by_cases e : j = c
  · rw [if_pos e, if_pos e]; exact (vv_get b i hb).symm
  · rw [if_neg e, if_neg e]
    show _ = ((ww m).getD i []).getD j 0
    rw [ww_get, vv_get _ _ hj]

theorem rsolve_msolve (m : List Row) (b : Row) : rsolve m b = msolve m b := by
  by_cases h : square m ∧ b.length = m.length
  · have hd : rdet m.length (ww m) = det m.length (mx (ww m)) := by
      have := rdet_square ((square_ww m).2 h.1)
      rwa [ww_len] at this
    have e1 : rsolve m b = if rdet m.length (ww m) = 0 then ([], 0, 8) else ((List.range m.length).map fun c => rdet m.length (ww (colPut m b c m.length)), rdet m.length (ww m), 0) := if_neg (fun e => e h)
    have e2 : msolve m b = if det m.length (mx (ww m)) = 0 then ([], 0, 8) else ((List.range m.length).map fun c => det m.length (cw (mx (ww m)) c fun i => (vv b).getD i 0), det m.length (mx (ww m)), 0) := if_neg (fun e => e h)
    rw [e1, e2, hd]
    have hc : ∀ i, i < m.length → (m.getD i []).length = m.length := fun i hi => by rw [(h.1.1.get hi).2, ← h.1.2]
    by_cases h0 : det m.length (mx (ww m)) = 0
    · rw [if_pos h0, if_pos h0]
    · rw [if_neg h0, if_neg h0]
      congr 1
      refine List.map_congr_left fun c hc' => ?_
      have hcl := List.mem_range.1 hc'
      obtain ⟨n, hn⟩ : ∃ n, m.length = n + 1 := ⟨m.length - 1, by omega⟩
      have e := rdet_det n (ww (colPut m b c m.length)) (by rw [ww_len, colPut_len, hn])
      rw [← hn] at e
      rw [e]
      exact det_congr fun i j hi hj => mx_colPut hi (by rw [hc i hi]; exact hcl) (by rw [hc i hi]; exact hj) (by rw [h.2]; exact hi)
  · have e1 : rsolve m b = ([], 0, 1) := if_pos h
    have e2 : msolve m b = ([], 0, 1) := if_pos h
    rw [e1, e2]

theorem rres_mres (p q : List Int) : rres p q = mres p q := by
  unfold rres mres
  by_cases h : deg p < 0 ∨ deg q < 0
  · rw [if_pos h, if_pos h]
  · rw [if_neg h, if_neg h]
    by_cases hb : bare p q
    · rw [if_pos hb, if_pos hb]
    · rw [if_neg hb, if_neg hb]
      have hpos : (syl p q).length ≠ 0 := by
        unfold syl sylRows
        simp
        have h3 : ¬ (deg p + deg q = 0) := fun e => hb (.inr (.inr e))
        omega
      obtain ⟨n, hn⟩ : ∃ n, (syl p q).length = n + 1 := ⟨(syl p q).length - 1, by omega⟩
      rw [hn]
      exact rdet_det n _ hn

theorem dets_meets (v : Value) (a : List Row) (ha : limM a) :
    Meets Try.prog 3 [v] [(v, W a)] (fun r os fs => os = [] ∧ fs = [] ∧ r = .bool true) := by
  refine meets_of_vc Try.func3 (by kernel_rfl) rfl (by kernel_rfl) (Nat.le_of_ble_eq_true rfl) ?_
  refine call_fn shown_meets (Seals.refl _ _) (by repeat (first | exact Sub.nil _ | refine Sub.cons (by repeat (first | exact List.Mem.head _ | apply List.Mem.tail)) ?_)) ?_
  rintro _ _ _ ⟨rfl, rfl, rfl⟩
  refine call_fn (rowsFits_meets v a 5 5 2) (Seals.refl _ _) (by repeat (first | exact Sub.nil _ | refine Sub.cons (by repeat (first | exact List.Mem.head _ | apply List.Mem.tail)) ?_)) ?_
  rintro _ _ _ ⟨rfl, rfl, rfl⟩
  by_cases hsa : small 5 5 2 a
  case neg =>
    rw [decide_eq_false hsa]
    exact fin ⟨rfl, rfl, rfl⟩ (Seals.nil _ _)
  rw [decide_eq_true hsa]
  have hfa := hsa.fits ha
  have hca := hsa.cols
  have hla := hsa.1
  refine call_fn (rowsOwn_meets v a (by have := hsa.1; omega) fun r hr => ⟨by have := (hsa.2 r hr).1; omega, fun x hx => by have := (hsa.2 r hr).2 x hx; omega⟩) (Seals.refl _ _) (by repeat (first | exact Sub.nil _ | refine Sub.cons (by repeat (first | exact List.Mem.head _ | apply List.Mem.tail)) ?_)) ?_
  rintro x _ _ ⟨rfl, rfl⟩
  have hE : Eb 2 a.length ≤ 17179869184 := Nat.le_trans (Eb_mono 2 hla) (by decide)
  have hE2 : Eb 2 (a.getD 0 []).length ≤ 17179869184 := Nat.le_trans (Eb_mono 2 hca) (by decide)
  have hS : Sz 2 a.length ≤ 68719476736 := Nat.le_trans (Sz_mono 2 hla) (by decide)
  have hdet : (if square a then rdet a.length (ww a) else 0) = if square a then det a.length (mx (ww a)) else 0 := by
    by_cases h : square a
    · rw [if_pos h, if_pos h]
      have := rdet_square ((square_ww a).2 h)
      rwa [ww_len] at this
    · rw [if_neg h, if_neg h]
  have hrank : (if right a then rrank (ww a) else 0) = if right a then (bar a.length (a.getD 0 []).length (mx (ww a))).step else 0 := by
    by_cases h : right a
    · rw [if_pos h, if_pos h]
      have := rank_same ((right_ww a).2 h)
      rwa [ww_len, ww_get, vv_len] at this
    · rw [if_neg h, if_neg h]
  refine loop_rule (X := Nat) (fun i => ([(0, v), (3, .bool true), (4, x), (5, .int .i64 (i : Nat))], [], [(x, W a), (v, W a)])) (fun i => i ≤ 2) (fun i => 2 - i) rfl ?_ ?_
  · exact again 0 (by omega) trivial (by repeat (first | exact trivial | refine ⟨rfl, ?_⟩ | refine ⟨i64_eq (by first | omega | (simp only; omega)), ?_⟩ | refine ⟨u64_eq (by first | omega | (simp only; omega)), ?_⟩)) (Seals.sub (by repeat (first | exact Sub.nil _ | refine Sub.cons (by repeat (first | exact List.Mem.head _ | apply List.Mem.tail)) ?_)))
  · rintro i hi
    refine cmp_split _ rfl (fun hc => ?_) (fun hc => ?_)
    · refine call_fn (mDet_meets x a 2 hfa (by omega) hE) (Seals.refl _ _) (by repeat (first | exact Sub.nil _ | refine Sub.cons (by repeat (first | exact List.Mem.head _ | apply List.Mem.tail)) ?_)) ?_
      rintro _ _ _ ⟨rfl, q1, rfl, rfl⟩
      generalize hD : (if square a then det a.length (mx (ww a)) else 0) = D at *
      refine alloc_rule (d := I false []) fun d hd => ?_
      refine store_box (d := zd D) 0 rfl hd rfl (by kernel_rfl) ?_ ?_; exact Reads.fact (by repeat (first | exact List.Mem.head _ | apply List.Mem.tail))
      refine call_fn (rDet_meets v a 2 hfa (by omega) (by omega)) (Seals.refl _ _) (by repeat (first | exact Sub.nil _ | refine Sub.cons (by repeat (first | exact List.Mem.head _ | apply List.Mem.tail)) ?_)) ?_
      rintro _ _ _ ⟨rfl, q2, rfl, rfl⟩
      rw [hdet]
      refine alloc_rule (d := I false []) fun w hw => ?_
      refine store_box (d := zd D) 0 rfl hw rfl (by kernel_rfl) ?_ ?_; exact Reads.fact (by repeat (first | exact List.Mem.head _ | apply List.Mem.tail))
      refine call_fn (mRank_meets x a 2 hfa (by omega) (by omega) hE2) (Seals.refl _ _) (by repeat (first | exact Sub.nil _ | refine Sub.cons (by repeat (first | exact List.Mem.head _ | apply List.Mem.tail)) ?_)) ?_
      rintro _ _ _ ⟨rfl, rfl, rfl⟩
      refine call_fn (rRank_meets v a 2 hfa hS (by omega) (by omega)) (Seals.refl _ _) (by repeat (first | exact Sub.nil _ | refine Sub.cons (by repeat (first | exact List.Mem.head _ | apply List.Mem.tail)) ?_)) ?_
      rintro _ _ _ ⟨rfl, rfl, rfl⟩
      rw [hrank]
      generalize (if right a then (bar a.length (a.getD 0 []).length (mx (ww a))).step else 0) = n
      generalize (if right a then (0 : Int) else 1) = E
      generalize (if square a then (0 : Int) else 1) = F
      refine load_box (d := zd D) 1 rfl hd rfl (load_I _ _) fun y1 => ?_
      refine load_box (d := zd D) 0 rfl hw rfl (load_I _ _) fun y2 => ?_
      refine call_fn (exactW y1 y2 D D) (Seals.refl _ _) (by repeat (first | exact Sub.nil _ | refine Sub.cons (by repeat (first | exact List.Mem.head _ | apply List.Mem.tail)) ?_)) ?_
      rintro _ _ _ ⟨rfl, rfl, rfl⟩
      rw [decide_eq_true rfl]
      refine cmp_false rfl (fun h => h rfl) ?_
      refine cmp_false rfl (fun h => h rfl) ?_
      refine cmp_false rfl (fun h => h rfl) ?_
      refine ar rfl (by first | exact ⟨by omega, by omega⟩ | (simp only [inK]; omega)) ?_
      exact again (i + 1) (by omega) (by simp only; omega) (by repeat (first | exact trivial | refine ⟨rfl, ?_⟩ | refine ⟨i64_eq (by first | omega | (simp only; omega)), ?_⟩ | refine ⟨u64_eq (by first | omega | (simp only; omega)), ?_⟩)) (Seals.trans (Seals.drop 0 _ _) (Seals.trans (Seals.drop 0 _ _) (Seals.sub (by repeat (first | exact Sub.nil _ | refine Sub.cons (by repeat (first | exact List.Mem.head _ | apply List.Mem.tail)) ?_)))))
    · refine call_fn (same_meets x v a a) (Seals.refl _ _) (by repeat (first | exact Sub.nil _ | refine Sub.cons (by repeat (first | exact List.Mem.head _ | apply List.Mem.tail)) ?_)) ?_
      rintro _ _ _ ⟨rfl, rfl, rfl⟩
      rw [decide_eq_true rfl]
      exact fin ⟨rfl, rfl, rfl⟩ (Seals.nil _ _)

/-- A list that fits. -/
def limR (r : Row) : Prop := ∀ x, x ∈ r → Lim x.2
def smallR (n c : Nat) (r : Row) : Prop := r.length ≤ n ∧ ∀ x, x ∈ r → x.2.length ≤ c
instance (n c : Nat) (r : Row) : Decidable (smallR n c r) := inferInstanceAs (Decidable (_ ∧ _))
theorem smallR.fit {n c : Nat} {r : Row} (h : smallR n c r) (hl : limR r) : Fit c r := fun x hx => ⟨hl x hx, h.2 x hx⟩

theorem cofactors_meets (v w : Value) (a : List Row) (b : Row) (ha : limM a) (hb : limR b) :
    Meets Try.prog 4 [v, w] [(v, W a), (w, V b)] (fun r os fs => os = [] ∧ fs = [] ∧ r = .bool true) := by
  refine meets_of_vc Try.func4 (by kernel_rfl) rfl (by kernel_rfl) (Nat.le_of_ble_eq_true rfl) ?_
  refine call_fn shown_meets (Seals.refl _ _) (by repeat (first | exact Sub.nil _ | refine Sub.cons (by repeat (first | exact List.Mem.head _ | apply List.Mem.tail)) ?_)) ?_
  rintro _ _ _ ⟨rfl, rfl, rfl⟩
  refine call_fn (rowsFits_meets v a 4 4 2) (Seals.refl _ _) (by repeat (first | exact Sub.nil _ | refine Sub.cons (by repeat (first | exact List.Mem.head _ | apply List.Mem.tail)) ?_)) ?_
  rintro _ _ _ ⟨rfl, rfl, rfl⟩
  by_cases hsa : small 4 4 2 a
  case neg =>
    rw [decide_eq_false hsa]
    exact fin ⟨rfl, rfl, rfl⟩ (Seals.nil _ _)
  rw [decide_eq_true hsa]
  refine call_fn (rFits_meets w b 5 2) (Seals.refl _ _) (by repeat (first | exact Sub.nil _ | refine Sub.cons (by repeat (first | exact List.Mem.head _ | apply List.Mem.tail)) ?_)) ?_
  rintro _ _ _ ⟨rfl, rfl, rfl⟩
  by_cases hsb : smallR 5 2 b
  case neg =>
    rw [decide_eq_false (show ¬ (b.length ≤ 5 ∧ ∀ x, x ∈ b → x.2.length ≤ 2) from hsb)]
    exact fin ⟨rfl, rfl, rfl⟩ (Seals.nil _ _)
  rw [decide_eq_true (show b.length ≤ 5 ∧ ∀ x, x ∈ b → x.2.length ≤ 2 from hsb)]
  have hfa := hsa.fits ha
  have hfb := hsb.fit hb
  have hca := hsa.cols
  have hla := hsa.1
  have hlb := hsb.1
  refine call_fn (rowsOwn_meets v a (by have := hsa.1; omega) fun r hr => ⟨by have := (hsa.2 r hr).1; omega, fun x hx => by have := (hsa.2 r hr).2 x hx; omega⟩) (Seals.refl _ _) (by repeat (first | exact Sub.nil _ | refine Sub.cons (by repeat (first | exact List.Mem.head _ | apply List.Mem.tail)) ?_)) ?_
  rintro x _ _ ⟨rfl, rfl⟩
  refine call_fn (rOwn_meets w b (by have := hsb.1; omega) fun x hx => by have := hsb.2 x hx; omega) (Seals.refl _ _) (by repeat (first | exact Sub.nil _ | refine Sub.cons (by repeat (first | exact List.Mem.head _ | apply List.Mem.tail)) ?_)) ?_
  rintro y _ _ ⟨rfl, hy, rfl⟩
  have hE : Eb 2 a.length ≤ 17179869184 := Nat.le_trans (Eb_mono 2 hla) (by decide)
  refine call_fn (mAdjugate_meets x a 2 hfa (by omega) hE) (Seals.L 0 rfl hy) (by repeat (first | exact Sub.nil _ | refine Sub.cons (by repeat (first | exact List.Mem.head _ | apply List.Mem.tail)) ?_)) ?_
  rintro _ _ _ ⟨rfl, m, rfl, rfl⟩
  refine call_fn (rAdjugate_meets v a 2 hfa (by omega) (by omega)) (Seals.refl _ _) (by repeat (first | exact Sub.nil _ | refine Sub.cons (by repeat (first | exact List.Mem.head _ | apply List.Mem.tail)) ?_)) ?_
  rintro _ _ _ ⟨rfl, n, rfl, rfl⟩
  rw [radj_madj]
  generalize (if square a then madj (ww a) else []) = M
  generalize (if square a then (0 : Int) else 1) = E
  refine call_fn (mSolve_meets x y a b 2 hfa hfb (by omega) hE) (Seals.refl _ _) (by repeat (first | exact Sub.nil _ | refine Sub.cons (by repeat (first | exact List.Mem.head _ | apply List.Mem.tail)) ?_)) ?_
  rintro _ _ _ ⟨rfl, s, d0, rfl, rfl⟩
  refine alloc_rule (d := I false []) fun d hd => ?_
  refine store_box (d := zd (msolve a b).2.1) 0 rfl hd rfl (by kernel_rfl) ?_ ?_; exact Reads.fact (by repeat (first | exact List.Mem.head _ | apply List.Mem.tail))
  refine call_fn (rSolve_meets v w a b 2 hfa hfb (by omega) (by omega)) (Seals.refl _ _) (by repeat (first | exact Sub.nil _ | refine Sub.cons (by repeat (first | exact List.Mem.head _ | apply List.Mem.tail)) ?_)) ?_
  rintro _ _ _ ⟨rfl, t, w0, rfl, rfl⟩
  rw [rsolve_msolve]
  refine alloc_rule (d := I false []) fun z hz => ?_
  refine store_box (d := zd (msolve a b).2.1) 0 rfl hz rfl (by kernel_rfl) ?_ ?_; exact Reads.fact (by repeat (first | exact List.Mem.head _ | apply List.Mem.tail))
  refine call_fn (sameW m n M M) (Seals.refl _ _) (by repeat (first | exact Sub.nil _ | refine Sub.cons (by repeat (first | exact List.Mem.head _ | apply List.Mem.tail)) ?_)) ?_
  rintro _ _ _ ⟨rfl, rfl, rfl⟩
  rw [decide_eq_true rfl]
  refine cmp_true rfl rfl ?_
  refine call_fn (exactAllW s t (msolve a b).1 (msolve a b).1) (Seals.refl _ _) (by repeat (first | exact Sub.nil _ | refine Sub.cons (by repeat (first | exact List.Mem.head _ | apply List.Mem.tail)) ?_)) ?_
  rintro _ _ _ ⟨rfl, rfl, rfl⟩
  rw [decide_eq_true rfl]
  refine load_box (d := zd (msolve a b).2.1) 1 rfl hd rfl (load_I _ _) fun y1 => ?_
  refine load_box (d := zd (msolve a b).2.1) 0 rfl hz rfl (load_I _ _) fun y2 => ?_
  refine call_fn (exactW y1 y2 (msolve a b).2.1 (msolve a b).2.1) (Seals.refl _ _) (by repeat (first | exact Sub.nil _ | refine Sub.cons (by repeat (first | exact List.Mem.head _ | apply List.Mem.tail)) ?_)) ?_
  rintro _ _ _ ⟨rfl, rfl, rfl⟩
  rw [decide_eq_true rfl]
  refine cmp_true rfl rfl ?_
  refine call_fn (same_meets x v a a) (Seals.refl _ _) (by repeat (first | exact Sub.nil _ | refine Sub.cons (by repeat (first | exact List.Mem.head _ | apply List.Mem.tail)) ?_)) ?_
  rintro _ _ _ ⟨rfl, rfl, rfl⟩
  rw [decide_eq_true rfl]
  refine call_fn (exactAll_meets y w b b) (Seals.refl _ _) (by repeat (first | exact Sub.nil _ | refine Sub.cons (by repeat (first | exact List.Mem.head _ | apply List.Mem.tail)) ?_)) ?_
  rintro _ _ _ ⟨rfl, rfl, rfl⟩
  rw [decide_eq_true rfl]
  exact fin ⟨rfl, rfl, rfl⟩ (Seals.trans (Seals.drop 0 _ _) (Seals.trans (Seals.drop 0 _ _) (Seals.nil _ _)))

theorem sylvesters_meets (v w : Value) (p q : Row) (hp : limR p) (hq : limR q) :
    Meets Try.prog 5 [v, w] [(v, V p), (w, V q)] (fun r os fs => os = [] ∧ fs = [] ∧ r = .bool true) := by
  refine meets_of_vc Try.func5 (by kernel_rfl) rfl (by kernel_rfl) (Nat.le_of_ble_eq_true rfl) ?_
  refine call_fn shown_meets (Seals.refl _ _) (by repeat (first | exact Sub.nil _ | refine Sub.cons (by repeat (first | exact List.Mem.head _ | apply List.Mem.tail)) ?_)) ?_
  rintro _ _ _ ⟨rfl, rfl, rfl⟩
  refine call_fn (rFits_meets v p 4 2) (Seals.refl _ _) (by repeat (first | exact Sub.nil _ | refine Sub.cons (by repeat (first | exact List.Mem.head _ | apply List.Mem.tail)) ?_)) ?_
  rintro _ _ _ ⟨rfl, rfl, rfl⟩
  by_cases hsp : smallR 4 2 p
  case neg =>
    rw [decide_eq_false (show ¬ (p.length ≤ 4 ∧ ∀ x, x ∈ p → x.2.length ≤ 2) from hsp)]
    exact fin ⟨rfl, rfl, rfl⟩ (Seals.nil _ _)
  rw [decide_eq_true (show p.length ≤ 4 ∧ ∀ x, x ∈ p → x.2.length ≤ 2 from hsp)]
  refine call_fn (rFits_meets w q 4 2) (Seals.refl _ _) (by repeat (first | exact Sub.nil _ | refine Sub.cons (by repeat (first | exact List.Mem.head _ | apply List.Mem.tail)) ?_)) ?_
  rintro _ _ _ ⟨rfl, rfl, rfl⟩
  by_cases hsq : smallR 4 2 q
  case neg =>
    rw [decide_eq_false (show ¬ (q.length ≤ 4 ∧ ∀ x, x ∈ q → x.2.length ≤ 2) from hsq)]
    exact fin ⟨rfl, rfl, rfl⟩ (Seals.nil _ _)
  rw [decide_eq_true (show q.length ≤ 4 ∧ ∀ x, x ∈ q → x.2.length ≤ 2 from hsq)]
  have hfp := hsp.fit hp
  have hfq := hsq.fit hq
  have hlp := hsp.1
  have hlq := hsq.1
  have hE : Eb 2 (p.length + q.length) ≤ 17179869184 := Nat.le_trans (Eb_mono 2 (show p.length + q.length ≤ 8 by omega)) (by decide)
  refine call_fn (rOwn_meets v p (by have := hsp.1; omega) fun x hx => by have := hsp.2 x hx; omega) (Seals.refl _ _) (by repeat (first | exact Sub.nil _ | refine Sub.cons (by repeat (first | exact List.Mem.head _ | apply List.Mem.tail)) ?_)) ?_
  rintro x _ _ ⟨rfl, hx, rfl⟩
  refine call_fn (rOwn_meets w q (by have := hsq.1; omega) fun x hx => by have := hsq.2 x hx; omega) (Seals.refl _ _) (by repeat (first | exact Sub.nil _ | refine Sub.cons (by repeat (first | exact List.Mem.head _ | apply List.Mem.tail)) ?_)) ?_
  rintro y _ _ ⟨rfl, hy, rfl⟩
  refine call_fn (mSylvester_meets x y p q 2 hfp hfq (by decide) (by omega) (by omega)) (Seals.trans (Seals.L 0 rfl hy) (Seals.L 0 rfl hx)) (by repeat (first | exact Sub.nil _ | refine Sub.cons (by repeat (first | exact List.Mem.head _ | apply List.Mem.tail)) ?_)) ?_
  rintro _ _ _ ⟨rfl, m, rfl, rfl⟩
  refine call_fn (rSylvester_meets v w p q 2 hfp hfq (by decide) (by omega) (by omega)) (Seals.refl _ _) (by repeat (first | exact Sub.nil _ | refine Sub.cons (by repeat (first | exact List.Mem.head _ | apply List.Mem.tail)) ?_)) ?_
  rintro _ _ _ ⟨rfl, n, rfl, rfl⟩
  generalize (if bare (vv p) (vv q) then [] else syl (vv p) (vv q)) = M
  generalize (if bare (vv p) (vv q) then (1 : Int) else 0) = E
  refine call_fn (sameW m n M M) (Seals.refl _ _) (by repeat (first | exact Sub.nil _ | refine Sub.cons (by repeat (first | exact List.Mem.head _ | apply List.Mem.tail)) ?_)) ?_
  rintro _ _ _ ⟨rfl, rfl, rfl⟩
  rw [decide_eq_true rfl]
  refine cmp_true rfl rfl ?_
  refine call_fn (mResultant_meets x y p q 2 hfp hfq (by omega) (by omega) hE) (Seals.refl _ _) (by repeat (first | exact Sub.nil _ | refine Sub.cons (by repeat (first | exact List.Mem.head _ | apply List.Mem.tail)) ?_)) ?_
  rintro y1 _ _ ⟨rfl, rfl⟩
  refine call_fn (rResultant_meets v w p q 2 hfp hfq (by omega) (by omega) (by omega)) (Seals.refl _ _) (by repeat (first | exact Sub.nil _ | refine Sub.cons (by repeat (first | exact List.Mem.head _ | apply List.Mem.tail)) ?_)) ?_
  rintro y2 _ _ ⟨rfl, rfl⟩
  rw [rres_mres]
  refine call_fn (exactW y1 y2 (mres (vv p) (vv q)) (mres (vv p) (vv q))) (Seals.refl _ _) (by repeat (first | exact Sub.nil _ | refine Sub.cons (by repeat (first | exact List.Mem.head _ | apply List.Mem.tail)) ?_)) ?_
  rintro _ _ _ ⟨rfl, rfl, rfl⟩
  rw [decide_eq_true rfl]
  refine call_fn (exactAll_meets x v p p) (Seals.refl _ _) (by repeat (first | exact Sub.nil _ | refine Sub.cons (by repeat (first | exact List.Mem.head _ | apply List.Mem.tail)) ?_)) ?_
  rintro _ _ _ ⟨rfl, rfl, rfl⟩
  rw [decide_eq_true rfl]
  refine call_fn (exactAll_meets y w q q) (Seals.refl _ _) (by repeat (first | exact Sub.nil _ | refine Sub.cons (by repeat (first | exact List.Mem.head _ | apply List.Mem.tail)) ?_)) ?_
  rintro _ _ _ ⟨rfl, rfl, rfl⟩
  rw [decide_eq_true rfl]
  exact fin ⟨rfl, rfl, rfl⟩ (Seals.nil _ _)

end Go.Proofs.Ytajkjlgddmkkaaa

namespace Go.Proofs.Ytajkjlgddmkkaaa
open Go.RowKit Go.ChangeShapes Go.WideShapes Go.ChangeAt Go.Deep

section
variable {H : Type} {enc : TypeId × Value → H} {w : World} {base : Nat} {spare : Nat → Bool} {held : Bool}

theorem rd_u64 {fuel : Nat} {cs : List Value} {x : DataW H × List MemPlace} (h : DataW.trod enc Try.prog w base spare held fuel 67 cs = some x) : ∃ n : Nat, n < 18446744073709551616 ∧ cs = [.int .u64 (n : Int)] := by
  obtain ⟨n, rfl, _, hw⟩ := DataW.trod_int Try.underlying67 h
  have : 0 ≤ n ∧ n < 18446744073709551616 := by
    simp [Lit.wf, IntKind.min, IntKind.max, IntKind.signed, IntKind.bits] at hw
    omega
  exact ⟨n.toNat, by omega, by rw [Int.toNat_of_nonneg this.1]⟩

/-- A slice, if each element reads. -/
theorem rd_slice {α : Type} (f : α → Dat) (z : α) (ok : α → Prop) {t e : TypeId} {size : Nat} (ht : Try.prog.underlying t = some (.slice e)) (hc : Try.prog.cellsOf e = size) (hs : 0 < size)
    (el : ∀ n cs x, cs.length = size → DataW.trod enc Try.prog w base spare held n e cs = some x → ∃ a, ok a ∧ RdC (fun b => b < w.heap.size) w (f a) cs)
    {fuel : Nat} {cs : List Value} {x : DataW H × List MemPlace} (h : DataW.trod enc Try.prog w base spare held fuel t cs = some x) :
    ∃ l : List α, (∀ a, a ∈ l → ok a) ∧ RdC (fun b => b < w.heap.size) w (LD size f z l) cs := by
  rcases open_slice ht h with ⟨rfl, _⟩ | ⟨a, len, cap, m, n, D, Pl, rfl, hb, hl, hm, hmm, _, hx⟩
  · exact ⟨[], (fun _ h => by simp at h), rd_nil _ _ _ _⟩
  · have hle : len ≤ m := by rw [hmm]; split <;> omega
    rw [hc] at hx
    have hspot : 0 < len → a.spot = none := fun h0 => by
      obtain ⟨cs', h1, h2⟩ := hx 0 (by omega)
      obtain ⟨_, hlen, hcell⟩ := World.cells?_some h1
      have h0 := hcell 0 hs
      rw [List.getElem?_eq_getElem (by omega)] at h0
      have := World.cell?_spot h0
      simpa [Addr.add] using this
    have hel : ∀ i, ∃ y : α, i < len → ok y ∧ ∃ cs', RdC (fun b => b < w.heap.size) w (f y) cs' ∧ cs'.length = size ∧ a.spot = none ∧ CellsAt (fun b => b < w.heap.size) w a.block (a.off + i * size) cs' := by
      intro i
      by_cases hi : i < len
      · obtain ⟨cs', h1, h2⟩ := hx i (by omega)
        obtain ⟨_, hlen, hcell⟩ := World.cells?_some h1
        obtain ⟨y, hy1, hy2⟩ := el n cs' _ hlen h2
        have hsp := hspot (by omega)
        refine ⟨y, fun _ => ⟨hy1, cs', hy2, hlen, hsp, fun j hj => ?_⟩⟩
        have h0 := hcell j (by omega)
        have ha : (a.add (i * size)).add j = ⟨a.block, a.off + i * size + j, none⟩ := by
          obtain ⟨b, o, s⟩ := a
          simp only at hsp
          subst hsp
          rw [add_none, add_none]
        rw [ha] at h0
        refine ⟨?_, h0⟩
        rw [List.getElem?_eq_getElem hj] at h0
        unfold World.cell? at h0
        simp only at h0
        split at h0
        · rename_i heq
          exact (Array.getElem?_eq_some_iff.1 heq).1
        · simp at h0
      · exact ⟨z, fun h => absurd h hi⟩
    have hch := fun i => Classical.choose_spec (hel i)
    let g : Nat → α := fun i => Classical.choose (hel i)
    have hg : ∀ i, i < len → ((List.range len).map g).getD i z = g i := fun i hi => by simp [List.getD_eq_getElem?_getD, hi]
    refine ⟨(List.range len).map g, fun y hy => ?_, ?_⟩
    · obtain ⟨i, hi, rfl⟩ := List.mem_map.1 hy
      exact (hch i (List.mem_range.1 hi)).1
    · unfold LD
      rw [List.length_map, List.length_range]
      refine ⟨some a, cap, rfl, hl, hm, fun h => by simp at h, fun b hb' hpos => ?_, fun i hi => ?_⟩
      · simp only [Option.some.injEq] at hb'
        subst hb'
        obtain ⟨_, _, _, _, hsp, _⟩ := hch 0 hpos
        exact hsp
      · obtain ⟨_, cs', q1, q2, _, q3⟩ := hch i hi
        refine ⟨a, cs', rfl, ?_, q2, q3⟩
        show RdC _ _ (f (((List.range len).map g).getD i z)) cs'
        rw [hg i hi]; exact q1

theorem U_LD (l : List Nat) : U l = LD 1 (fun n : Nat => .one (.int .u64 (n : Int))) 0 l := rfl

theorem rd_limbs {fuel : Nat} {cs : List Value} {x : DataW H × List MemPlace} (h : DataW.trod enc Try.prog w base spare held fuel 26 cs = some x) : ∃ l : List Nat, Lim l ∧ RdC (fun b => b < w.heap.size) w (U l) cs := by
  obtain ⟨l, h1, h2⟩ := rd_slice (size := 1) (fun n : Nat => .one (.int .u64 (n : Int))) 0 (fun n => n < 18446744073709551616) Try.underlying26 (by kernel_rfl) (by decide) (fun n cs x _ h => by
    obtain ⟨n, hn, rfl⟩ := rd_u64 h
    exact ⟨n, hn, rfl, rfl⟩) h
  exact ⟨l, h1, h2⟩

theorem rd_int2 {P : Program} {t tb tl : TypeId} {f0 f1 : Field} (ht : P.underlying t = some (.struct #[f0, f1])) (h0t : f0.type = tb) (h0o : f0.offset = 0) (h1t : f1.type = tl) (h1o : f1.offset = 1)
    (cb : P.cellsOf tb = 1) (cl : P.cellsOf tl = 1) (hb : P.underlying tb = some .bool) (el : ∀ (n : Nat) (cs : List Value) (x : DataW H × List MemPlace), DataW.trod enc P w base spare held n tl cs = some x → ∃ l : List Nat, Lim l ∧ RdC (fun b => b < w.heap.size) w (U l) cs)
    {fuel : Nat} {cs : List Value} {x : DataW H × List MemPlace} (hl : cs.length = 2) (h : DataW.trod enc P w base spare held fuel t cs = some x) : ∃ y : Bool × List Nat, Lim y.2 ∧ RdC (fun b => b < w.heap.size) w (J y) cs := by
  obtain ⟨y0, y1, n, _, hlen, h0, h1⟩ := trod_struct2 ht h
  rw [h0t, h0o, cb] at h0
  rw [h1t, h1o, cl] at h1
  match cs, hl with
  | [c0, c1], _ =>
    obtain ⟨s, hs, _⟩ := DataW.trod_bool hb h0
    obtain ⟨l, hl1, hl2⟩ := el _ _ _ h1
    have hc0 : c0 = .bool s := by simpa using hs
    subst hc0
    exact ⟨(s, l), hl1, [.bool s], [c1], rfl, ⟨rfl, rfl⟩, hl2⟩

theorem rd_int {fuel : Nat} {cs : List Value} {x : DataW H × List MemPlace} (hl : cs.length = 2) (h : DataW.trod enc Try.prog w base spare held fuel 28 cs = some x) : ∃ y : Bool × List Nat, Lim y.2 ∧ RdC (fun b => b < w.heap.size) w (J y) cs :=
  rd_int2 Try.underlying28 rfl rfl rfl rfl (tb := 4) (tl := 26) (by kernel_rfl) (by kernel_rfl) Try.underlying4 (fun _ _ _ h => rd_limbs h) hl h

theorem rd_row {fuel : Nat} {cs : List Value} {x : DataW H × List MemPlace} (h : DataW.trod enc Try.prog w base spare held fuel 37 cs = some x) : ∃ r : Row, (∀ y, y ∈ r → Lim y.2) ∧ RdC (fun b => b < w.heap.size) w (V r) cs := by
  obtain ⟨l, h1, h2⟩ := rd_slice (size := 2) J z0 (fun y => Lim y.2) Try.underlying37 (by kernel_rfl) (by decide) (fun n cs x hl h => rd_int hl h) h
  exact ⟨l, h1, h2⟩

theorem rd_poly {fuel : Nat} {cs : List Value} {x : DataW H × List MemPlace} (h : DataW.trod enc Try.prog w base spare held fuel 46 cs = some x) : ∃ r : Row, (∀ y, y ∈ r → Lim y.2) ∧ RdC (fun b => b < w.heap.size) w (V r) cs := by
  obtain ⟨l, h1, h2⟩ := rd_slice (size := 2) J z0 (fun y => Lim y.2) Try.underlying46 (by kernel_rfl) (by decide) (fun n cs x hl h => rd_int hl h) h
  exact ⟨l, h1, h2⟩

theorem rd_rows {fuel : Nat} {cs : List Value} {x : DataW H × List MemPlace} (h : DataW.trod enc Try.prog w base spare held fuel 22 cs = some x) : ∃ m : List Row, limM m ∧ RdC (fun b => b < w.heap.size) w (W m) cs := by
  obtain ⟨l, h1, h2⟩ := rd_slice (size := 1) V [] (fun r => ∀ y, y ∈ r → Lim y.2) Try.underlying22 (by kernel_rfl) (by decide) (fun n cs x _ h => rd_row h) h
  exact ⟨l, h1, h2⟩

end

theorem rd_val {S : Nat → Prop} {w : World} {a : Option Addr} {n c : Nat} {d : Dat} (hd : d.flat = true) (h : RdC S w d (Value.slice a n c).cells.toList) : Rd S w (.slice a n c) d := by
  refine ⟨_, h, ?_⟩
  obtain ⟨v, h1, _, h3⟩ := RdC.single hd h
  rw [h3]
  simpa [Value.cells] using h1

theorem rd_arg2 {P : Program} {t : TypeId} {fs : Array Field} {H : Type} {enc : TypeId × Value → H} {w : World} {r : Reach} {base base' : Nat} {spare : Nat → Bool} {held : Bool} {v : Value} {d : DataW H} {p : List MemPlace} (ht : P.underlying t = some (.struct fs)) (hc : P.cellsOf t = 2)
    (el : ∀ (n : Nat) (cs : List Value) (x : DataW H × List MemPlace), cs.length = 2 → DataW.trod enc P w base spare held n t cs = some x → ∃ y : Bool × List Nat, Lim y.2 ∧ RdC (fun b => b < w.heap.size) w (J y) cs)
    (hv : Value.okWide P w r base' t v) (h : DataW.Trod enc P w base spare held t v d p) : ∃ m : Bool × List Nat, Lim m.2 ∧ Rd (fun b => b < w.heap.size) w v (J m) := by
  obtain ⟨cs, rfl, hsz⟩ := okWide_struct ht hv
  obtain ⟨fuel, hf⟩ := h
  have hcs : (Value.agg cs).cells.toList = cs.toList := by simp [Value.cells]
  rw [hcs] at hf
  obtain ⟨y, h1, h2⟩ := el _ _ _ (by simpa using hsz.trans hc) hf
  exact ⟨y, h1, cs.toList, h2, by unfold J I pack; simp⟩

set_option maxRecDepth 100000 in
/-- A whole number that is handed in. -/
theorem rd_arg {H : Type} {enc : TypeId × Value → H} {w : World} {r : Reach} {base base' : Nat} {spare : Nat → Bool} {held : Bool} {v : Value} {d : DataW H} {p : List MemPlace} (hv : Value.okWide Try.prog w r base' 28 v)
    (h : DataW.Trod enc Try.prog w base spare held 28 v d p) : ∃ m : Bool × List Nat, Lim m.2 ∧ Rd (fun b => b < w.heap.size) w v (J m) :=
  have hc : Try.prog.cellsOf 28 = 2 := by kernel_rfl
  have el : ∀ (n : Nat) (cs : List Value) (x : DataW H × List MemPlace), cs.length = 2 → DataW.trod enc Try.prog w base spare held n 28 cs = some x → ∃ y : Bool × List Nat, Lim y.2 ∧ RdC (fun b => b < w.heap.size) w (J y) cs := fun _ _ _ hl h => rd_int hl h
  rd_arg2 (P := Try.prog) (t := 28) (v := v) (r := r) (base := base) (base' := base') Try.underlying28 hc el hv h

theorem u8_of {n : Int} (h : (Lit.int .u8 n).wf = true) : 0 ≤ n ∧ n < 256 := by
  simp [Lit.wf, IntKind.min, IntKind.max, IntKind.signed, IntKind.bits] at h
  omega

theorem i64_of {n : Int} (h : (Lit.int .i64 n).wf = true) : -9223372036854775808 ≤ n ∧ n < 9223372036854775808 := by
  simp [Lit.wf, IntKind.min, IntKind.max, IntKind.signed, IntKind.bits] at h
  omega

theorem calls_of_meets {g : FuncId} {args : List Value} {fs : List Fact} {w : World} (h : Meets Try.prog g args fs (fun r os fs' => os = [] ∧ fs' = [] ∧ r = .bool true)) (hf : HF (fun b => b < w.heap.size) w fs) :
    Calls Try.prog g args.toArray w fun e w' => e = .returned (.bool true) ∧ Below w.heap.size w w' := by
  refine (h.calls (fun _ => False) w (fun _ h => h.elim) (hf.mono (fun _ _ => rfl) fun b hb => ⟨hb, id⟩)).mono ?_
  rintro e w' ⟨v, os', fs', rfl, ⟨rfl, rfl, rfl⟩, hh⟩
  exact ⟨rfl, hh.below⟩

theorem own0 : ownKnob Try.prog.godebug = none := by kernel_rfl
theorem laid0 : laidOutB Try.prog = true := by kernel_rfl

end Go.Proofs.Ytajkjlgddmkkaaa

namespace Go.Proofs.Ytajkjlgddmkkaaa
open Go.RowKit

theorem index_wd {P : Program} {t e : TypeId} {v : Value} {m : List (List Int)} {k : IntKind} {i : Int} {os : List Own} {fs : List Fact} {K : Cont} [ht : TSl P t e 1] (hm : (v, wd m) ∈ fs) (j : Nat) (hj : i = (j : Int)) (hlt : j < m.length)
    (k' : ∀ p, K p os ((p, .ptr (vd (m.getD j []))) :: fs)) : IndexAddrK P t v (.int k i) os fs K :=
  index_fact hm j hj (by rw [List.length_map]; exact hlt) fun p => by
    have := k' p
    unfold vd at this
    rwa [← get_cn] at this

theorem index_vd {P : Program} {t e : TypeId} {v : Value} {l : List Int} {k : IntKind} {i : Int} {os : List Own} {fs : List Fact} {K : Cont} [ht : TSl P t e 2] (hm : (v, vd l) ∈ fs) (j : Nat) (hj : i = (j : Int)) (hlt : j < l.length)
    (k' : ∀ p, K p os ((p, .ptr (zd (l.getD j 0))) :: fs)) : IndexAddrK P t v (.int k i) os fs K :=
  index_fact hm j hj (by rw [List.length_map]; exact hlt) fun p => by
    have := k' p
    rw [map_cn_get hlt]; exact this

theorem len_wd {P : Program} {t e ty : TypeId} {v : Value} {m : List (List Int)} {os : List Own} {fs : List Fact} {K : Cont} [ht : TSl P t e 1] (hm : (v, wd m) ∈ fs) (k : K (.int .i64 m.length) os fs) : LenK P [t] ty v os fs K :=
  len_fact hm fun _ => by rw [List.length_map]; exact k

theorem len_vd {P : Program} {t e ty : TypeId} {v : Value} {l : List Int} {os : List Own} {fs : List Fact} {K : Cont} [ht : TSl P t e 2] (hm : (v, vd l) ∈ fs) (k : K (.int .i64 l.length) os fs) : LenK P [t] ty v os fs K :=
  len_fact hm fun _ => by rw [List.length_map]; exact k

theorem madj_sz {a : List Row} {k n : Nat} (hf : Fits k a) (hn : a.length = n + 1) (h : n < 1048576) : szM ((k + 1) * n + 1) (madj (ww a)) := fun r hr x hx => by
  obtain ⟨i, _, rfl⟩ := List.mem_map.1 hr
  obtain ⟨j, _, rfl⟩ := List.mem_map.1 hx
  unfold adj
  rw [ww_len, hn, show n + 1 - 1 = n by omega]
  exact sg_sz _ (det_sz n h fun _ _ _ _ => mx_at hf _ _)

theorem mx_matL {R C i j : Nat} (x : Mx) (hi : i < R) (hj : j < C) : mx (matL R C x) i j = x i j := matL_at x hi hj

theorem prod_matL (a b : List (List Int)) : prod a b = matL a.length (b.getD 0 []).length (mm b.length (mx a) (mx b)) := rfl

theorem prod_madj {m : List (List Int)} (h : square m) : prod m (madj m) = matL m.length m.length (fun i j => if i = j then det m.length (mx m) else 0) := by
  obtain ⟨n, hn⟩ : ∃ n, m.length = n + 1 := ⟨m.length - 1, by have := h.1.1; omega⟩
  have h0 : ((madj m).getD 0 []).length = n + 1 := by unfold madj; rw [matL_row _ (by omega)]; simp [hn]
  have hl : (madj m).length = n + 1 := by unfold madj; rw [matL_len, hn]
  rw [prod_matL, h0, hl, hn]
  refine matL_congr fun i j hi hj => ?_
  rw [← mul_adj (mx m) hi hj]
  refine mul_congr (fun _ _ => rfl) fun k hk => ?_
  unfold madj
  rw [mx_matL _ (by omega) (by omega), hn]; rfl

theorem madj_prod {m : List (List Int)} (h : square m) : prod (madj m) m = matL m.length m.length (fun i j => if i = j then det m.length (mx m) else 0) := by
  obtain ⟨n, hn⟩ : ∃ n, m.length = n + 1 := ⟨m.length - 1, by have := h.1.1; omega⟩
  have hl : (madj m).length = n + 1 := by unfold madj; rw [matL_len, hn]
  rw [prod_matL, hl, ← h.2, hn]
  refine matL_congr fun i j hi hj => ?_
  rw [← adj_mul (mx m) hi hj]
  refine mul_congr (fun k hk => ?_) fun _ _ => rfl
  unfold madj
  rw [mx_matL _ (by omega) (by omega), hn]; rfl

theorem madj_square {m : List (List Int)} (h : square m) : square ((madj m).map (·.map cn)) := matL_square _ h.1.1

theorem adjugates_meets (v : Value) (a : List Row) (ha : limM a) :
    Meets Try.prog 8 [v] [(v, W a)] (fun r os fs => os = [] ∧ fs = [] ∧ r = .bool true) := by
  refine meets_of_vc Try.func8 (by kernel_rfl) rfl (by kernel_rfl) (Nat.le_of_ble_eq_true rfl) ?_
  refine call_fn shown_meets (Seals.refl _ _) (by repeat (first | exact Sub.nil _ | refine Sub.cons (by repeat (first | exact List.Mem.head _ | apply List.Mem.tail)) ?_)) ?_
  rintro _ _ _ ⟨rfl, rfl, rfl⟩
  refine call_fn (rowsFits_meets v a 6 6 1) (Seals.refl _ _) (by repeat (first | exact Sub.nil _ | refine Sub.cons (by repeat (first | exact List.Mem.head _ | apply List.Mem.tail)) ?_)) ?_
  rintro _ _ _ ⟨rfl, rfl, rfl⟩
  by_cases hsa : small 6 6 1 a
  case neg =>
    rw [decide_eq_false hsa]
    exact fin ⟨rfl, rfl, rfl⟩ (Seals.nil _ _)
  rw [decide_eq_true hsa]
  have hfa := hsa.fits ha
  have hca := hsa.cols
  have hla := hsa.1
  have hE : Eb 1 a.length ≤ 17179869184 := Nat.le_trans (Eb_mono 1 hla) (by decide)
  refine call_fn (mDet_meets v a 1 hfa (by omega) hE) (Seals.refl _ _) (by repeat (first | exact Sub.nil _ | refine Sub.cons (by repeat (first | exact List.Mem.head _ | apply List.Mem.tail)) ?_)) ?_
  rintro _ _ _ ⟨rfl, q1, rfl, rfl⟩
  refine alloc_rule (d := I false []) fun d hd => ?_
  refine store_box (d := zd (if square a then det a.length (mx (ww a)) else 0)) 0 rfl hd rfl (by kernel_rfl) ?_ ?_; exact Reads.fact (by repeat (first | exact List.Mem.head _ | apply List.Mem.tail))
  refine call_fn (mAdjugate_meets v a 1 hfa (by omega) hE) (Seals.refl _ _) (by repeat (first | exact Sub.nil _ | refine Sub.cons (by repeat (first | exact List.Mem.head _ | apply List.Mem.tail)) ?_)) ?_
  rintro _ _ _ ⟨rfl, x, rfl, rfl⟩
  by_cases hs : square a
  case neg =>
    rw [if_neg hs, if_neg hs, if_neg hs]
    refine cmp_true rfl (by decide) ?_
    refine cmp_true rfl rfl ?_
    refine len_wd (m := []) (by repeat (first | exact List.Mem.head _ | apply List.Mem.tail)) ?_
    refine cmp_true rfl rfl ?_
    exact fin ⟨rfl, rfl, rfl⟩ (Seals.trans (Seals.drop 0 _ _) (Seals.nil _ _))
  rw [if_pos hs, if_pos hs, if_pos hs]
  refine cmp_false rfl (by decide) ?_
  obtain ⟨n, hn⟩ : ∃ n, a.length = n + 1 := ⟨a.length - 1, by have := hs.1.1; omega⟩
  have hsw := (square_ww a).2 hs
  have hsx := madj_square hsw
  have hlx : ((madj (ww a)).map (·.map cn)).length = a.length := by rw [List.length_map]; unfold madj; rw [matL_len, ww_len]
  have hrx : (((madj (ww a)).map (·.map cn)).getD 0 []).length = a.length := by rw [← hsx.2, hlx]
  have hfx : Fits 13 ((madj (ww a)).map (·.map cn)) := Fits.mono (madj_sz hfa hn (by omega)).fits (by omega)
  have hfp1 : fitsProd a ((madj (ww a)).map (·.map cn)) := ⟨hs.1, hsx.1, by rw [hlx]; exact hs.2⟩
  have hfp2 : fitsProd ((madj (ww a)).map (·.map cn)) a := ⟨hsx.1, hs.1, by rw [hrx]⟩
  refine call_fn (mMul_meets v x a ((madj (ww a)).map (·.map cn)) 13 (hfa.mono (by decide)) hfx (by decide) (by omega) (by omega) (by omega)) (Seals.refl _ _) (by repeat (first | exact Sub.nil _ | refine Sub.cons (by repeat (first | exact List.Mem.head _ | apply List.Mem.tail)) ?_)) ?_
  rintro _ _ _ ⟨rfl, m, rfl, rfl⟩
  refine call_fn (mMul_meets x v ((madj (ww a)).map (·.map cn)) a 13 hfx (hfa.mono (by decide)) (by decide) (by omega) (by omega) (by omega)) (Seals.refl _ _) (by repeat (first | exact Sub.nil _ | refine Sub.cons (by repeat (first | exact List.Mem.head _ | apply List.Mem.tail)) ?_)) ?_
  rintro _ _ _ ⟨rfl, m', rfl, rfl⟩
  rw [if_pos hfp1, if_pos hfp1, if_pos hfp2, if_pos hfp2, ww_cn, prod_madj hsw, madj_prod hsw, ww_len]
  generalize hD : det a.length (mx (ww a)) = D at *
  refine cmp_false rfl (fun h => h rfl) ?_
  refine cmp_false rfl (fun h => h rfl) ?_
  refine cmp_false rfl (fun h => h rfl) ?_
  refine call_fn (sameW m m' _ _) (Seals.refl _ _) (by repeat (first | exact Sub.nil _ | refine Sub.cons (by repeat (first | exact List.Mem.head _ | apply List.Mem.tail)) ?_)) ?_
  rintro _ _ _ ⟨rfl, rfl, rfl⟩
  rw [decide_eq_true rfl]
  refine len_wd (m := matL a.length a.length fun i j => if i = j then D else 0) (by repeat (first | exact List.Mem.head _ | apply List.Mem.tail)) ?_
  refine len_fact (by repeat (first | exact List.Mem.head _ | apply List.Mem.tail)) fun _ => ?_
  refine cmp_false rfl (fun h => h (by rw [matL_len])) ?_
  refine loop_rule (X := Nat) (fun i => ([(0, v), (3, .bool true), (4, d), (8, m), (12, .int .i64 (i : Nat))], [own1 d 2 1 (fun _ => zd D)], [(m, wd (matL a.length a.length fun i j => if i = j then D else 0)), (v, W a)])) (fun i => i ≤ a.length) (fun i => a.length - i) rfl ?_ ?_
  · exact again 0 (Nat.zero_le _) trivial (by repeat (first | exact trivial | refine ⟨rfl, ?_⟩ | refine ⟨i64_eq (by first | omega | (simp only; omega)), ?_⟩ | refine ⟨u64_eq (by first | omega | (simp only; omega)), ?_⟩)) (Seals.trans (Seals.box0 rfl) (Seals.sub (by repeat (first | exact Sub.nil _ | refine Sub.cons (by repeat (first | exact List.Mem.head _ | apply List.Mem.tail)) ?_))))
  · rintro i hi1
    refine len_fact (by repeat (first | exact List.Mem.head _ | apply List.Mem.tail)) fun _ => ?_
    refine cmp_split _ rfl (fun hi => ?_) (fun hi => ?_)
    · have hil : i < a.length := by omega
      have hrow := matL_row (C := a.length) (fun i j => if i = j then D else 0) hil
      refine index_wd (by repeat (first | exact List.Mem.head _ | apply List.Mem.tail)) i rfl (by rw [matL_len]; exact hil) fun p1 => ?_
      refine load_fact (d := vd ((matL a.length a.length fun i j => if i = j then D else 0).getD i [])) (by repeat (first | exact List.Mem.head _ | apply List.Mem.tail)) (load_V _) fun r1 => ?_
      refine len_vd (l := (matL a.length a.length fun i j => if i = j then D else 0).getD i []) (by repeat (first | exact List.Mem.head _ | apply List.Mem.tail)) ?_
      refine len_fact (by repeat (first | exact List.Mem.head _ | apply List.Mem.tail)) fun _ => ?_
      refine cmp_false rfl (fun h => h (by rw [hrow]; simp)) ?_
      refine loop_rule (X := Nat) (fun k => ([(0, v), (3, .bool true), (4, d), (8, m), (12, .int .i64 (i : Nat)), (13, .int .i64 (k : Nat))], [own1 d 2 1 (fun _ => zd D)], [(m, wd (matL a.length a.length fun i j => if i = j then D else 0)), (v, W a)])) (fun k => k ≤ a.length) (fun k => a.length - k) rfl ?_ ?_
      · exact again 0 (Nat.zero_le _) trivial (by repeat (first | exact trivial | refine ⟨rfl, ?_⟩ | refine ⟨i64_eq (by first | omega | (simp only; omega)), ?_⟩ | refine ⟨u64_eq (by first | omega | (simp only; omega)), ?_⟩)) (Seals.sub (by repeat (first | exact Sub.nil _ | refine Sub.cons (by repeat (first | exact List.Mem.head _ | apply List.Mem.tail)) ?_)))
      · rintro k hk1
        refine len_fact (by repeat (first | exact List.Mem.head _ | apply List.Mem.tail)) fun _ => ?_
        refine cmp_split _ rfl (fun hk => ?_) (fun hk => ?_)
        · have hkl : k < a.length := by omega
          have hat : ((matL a.length a.length fun i j => if i = j then D else 0).getD i []).getD k 0 = if i = k then D else 0 := matL_at (fun i j => if i = j then D else 0) hil hkl
          refine build0 (da := .one (.bool false)) (db := U (lims 0)) (fun S w => ⟨[.bool false], [.slice none 0 0], rfl, rd_false S w, by rw [lims_zero]; exact rd_nil S w 1 _⟩) fun z => ?_
          refine alloc_rule (d := I false []) fun wt hwt => ?_
          refine store_box (d := zd 0) 0 rfl hwt rfl (by kernel_rfl) ?_ ?_; exact Reads.fact (by repeat (first | exact List.Mem.head _ | apply List.Mem.tail))
          refine cmp_split _ rfl (fun he => ?_) (fun he => ?_)
          · rw [if_pos (show i = k by omega)] at hat
            refine load_box (d := zd D) 1 rfl hd rfl (load_I _ _) fun y1 => ?_
            refine store_box (d := zd D) 0 rfl hwt rfl (by kernel_rfl) ?_ ?_; exact Reads.fact (by repeat (first | exact List.Mem.head _ | apply List.Mem.tail))
            refine draw_rule [0, 1, 2, 3, 4, 5, 6, 7, 8, 9] [0, 1, 2, 3, 4, 5, 6, 7, 8, 9] (by kernel_rfl) (by kernel_rfl) ?_
            refine index_wd (m := matL a.length a.length fun i j => if i = j then D else 0) (by repeat (first | exact List.Mem.head _ | apply List.Mem.tail)) i rfl (by rw [matL_len]; exact hil) fun p2 => ?_
            refine load_fact (d := vd ((matL a.length a.length fun i j => if i = j then D else 0).getD i [])) (by repeat (first | exact List.Mem.head _ | apply List.Mem.tail)) (load_V _) fun r2 => ?_
            refine index_vd (l := (matL a.length a.length fun i j => if i = j then D else 0).getD i []) (by repeat (first | exact List.Mem.head _ | apply List.Mem.tail)) k rfl (by rw [hrow]; simpa using hkl) fun p3 => ?_
            rw [hat]
            refine load_fact (d := zd D) (by repeat (first | exact List.Mem.head _ | apply List.Mem.tail)) (load_I _ _) fun y2 => ?_
            refine load_box (d := zd D) 0 rfl hwt rfl (load_I _ _) fun y3 => ?_
            refine call_fn (exactW y2 y3 D D) (Seals.refl _ _) (by repeat (first | exact Sub.nil _ | refine Sub.cons (by repeat (first | exact List.Mem.head _ | apply List.Mem.tail)) ?_)) ?_
            rintro _ _ _ ⟨rfl, rfl, rfl⟩
            rw [decide_eq_true rfl]
            refine ar rfl (by first | exact ⟨by omega, by omega⟩ | (simp only [inK]; omega)) ?_
            exact again (k + 1) (by omega) (by simp only; omega) (by repeat (first | exact trivial | refine ⟨rfl, ?_⟩ | refine ⟨i64_eq (by first | omega | (simp only; omega)), ?_⟩ | refine ⟨u64_eq (by first | omega | (simp only; omega)), ?_⟩)) (Seals.trans (Seals.drop 0 _ _) (Seals.sub (by repeat (first | exact Sub.nil _ | refine Sub.cons (by repeat (first | exact List.Mem.head _ | apply List.Mem.tail)) ?_))))
          · rw [if_neg (show ¬ i = k by omega)] at hat
            refine draw_rule [0, 1, 2, 3, 4, 5, 6, 7, 8, 9] [0, 1, 2, 3, 4, 5, 6, 7, 8, 9] (by kernel_rfl) (by kernel_rfl) ?_
            refine index_wd (m := matL a.length a.length fun i j => if i = j then D else 0) (by repeat (first | exact List.Mem.head _ | apply List.Mem.tail)) i rfl (by rw [matL_len]; exact hil) fun p2 => ?_
            refine load_fact (d := vd ((matL a.length a.length fun i j => if i = j then D else 0).getD i [])) (by repeat (first | exact List.Mem.head _ | apply List.Mem.tail)) (load_V _) fun r2 => ?_
            refine index_vd (l := (matL a.length a.length fun i j => if i = j then D else 0).getD i []) (by repeat (first | exact List.Mem.head _ | apply List.Mem.tail)) k rfl (by rw [hrow]; simpa using hkl) fun p3 => ?_
            rw [hat]
            refine load_fact (d := zd 0) (by repeat (first | exact List.Mem.head _ | apply List.Mem.tail)) (load_I _ _) fun y2 => ?_
            refine load_box (d := zd 0) 0 rfl hwt rfl (load_I _ _) fun y3 => ?_
            refine call_fn (exactW y2 y3 0 0) (Seals.refl _ _) (by repeat (first | exact Sub.nil _ | refine Sub.cons (by repeat (first | exact List.Mem.head _ | apply List.Mem.tail)) ?_)) ?_
            rintro _ _ _ ⟨rfl, rfl, rfl⟩
            rw [decide_eq_true rfl]
            refine ar rfl (by first | exact ⟨by omega, by omega⟩ | (simp only [inK]; omega)) ?_
            exact again (k + 1) (by omega) (by simp only; omega) (by repeat (first | exact trivial | refine ⟨rfl, ?_⟩ | refine ⟨i64_eq (by first | omega | (simp only; omega)), ?_⟩ | refine ⟨u64_eq (by first | omega | (simp only; omega)), ?_⟩)) (Seals.trans (Seals.drop 0 _ _) (Seals.sub (by repeat (first | exact Sub.nil _ | refine Sub.cons (by repeat (first | exact List.Mem.head _ | apply List.Mem.tail)) ?_))))
        · refine ar rfl (by first | exact ⟨by omega, by omega⟩ | (simp only [inK]; omega)) ?_
          exact again (i + 1) (by omega) (by simp only; omega) (by repeat (first | exact trivial | refine ⟨rfl, ?_⟩ | refine ⟨i64_eq (by first | omega | (simp only; omega)), ?_⟩ | refine ⟨u64_eq (by first | omega | (simp only; omega)), ?_⟩)) (Seals.sub (by repeat (first | exact Sub.nil _ | refine Sub.cons (by repeat (first | exact List.Mem.head _ | apply List.Mem.tail)) ?_)))
    · exact fin ⟨rfl, rfl, rfl⟩ (Seals.trans (Seals.drop 0 _ _) (Seals.nil _ _))

theorem rMulZJ (v w : Value) (x : Int) (y : Bool × List Nat) (e : Nat) (hx : sz x e) (he : e ≤ 137438953472) (hy : Lim y.2) (ly : y.2.length ≤ 137438953472) :
    Meets Try.prog 33 [v, w] [(v, zd x), (w, J y)] (fun r os fs => os = [] ∧ fs = [(r, zd (x * jv y))]) := by
  have h := rZMul_meets v w (decide (x < 0)) y.1 (lims x.natAbs) y.2 (Lim_lims _) hy (Nat.le_trans hx.len he) ly
  rw [iv_zd] at h
  exact h

theorem rSignZ (v : Value) (x : Int) (e : Nat) (hx : sz x e) (he : e ≤ 1099511627776) :
    Meets Try.prog 36 [v] [(v, zd x)] (fun r os fs => os = [] ∧ fs = [] ∧ r = .int .i64 x.sign) := by
  have h := rSign_meets v (decide (x < 0)) (lims x.natAbs) (Lim_lims _) (Nat.le_trans hx.len he)
  rw [iv_zd] at h
  exact h

theorem cramers_meets (v w : Value) (a : List Row) (b : Row) (ha : limM a) (hb : limR b) :
    Meets Try.prog 7 [v, w] [(v, W a), (w, V b)] (fun r os fs => os = [] ∧ fs = [] ∧ r = .bool true) := by
  refine meets_of_vc Try.func7 (by kernel_rfl) rfl (by kernel_rfl) (Nat.le_of_ble_eq_true rfl) ?_
  refine call_fn shown_meets (Seals.refl _ _) (by repeat (first | exact Sub.nil _ | refine Sub.cons (by repeat (first | exact List.Mem.head _ | apply List.Mem.tail)) ?_)) ?_
  rintro _ _ _ ⟨rfl, rfl, rfl⟩
  refine call_fn (rowsFits_meets v a 6 6 1) (Seals.refl _ _) (by repeat (first | exact Sub.nil _ | refine Sub.cons (by repeat (first | exact List.Mem.head _ | apply List.Mem.tail)) ?_)) ?_
  rintro _ _ _ ⟨rfl, rfl, rfl⟩
  by_cases hsa : small 6 6 1 a
  case neg =>
    rw [decide_eq_false hsa]
    exact fin ⟨rfl, rfl, rfl⟩ (Seals.nil _ _)
  rw [decide_eq_true hsa]
  refine call_fn (rFits_meets w b 6 1) (Seals.refl _ _) (by repeat (first | exact Sub.nil _ | refine Sub.cons (by repeat (first | exact List.Mem.head _ | apply List.Mem.tail)) ?_)) ?_
  rintro _ _ _ ⟨rfl, rfl, rfl⟩
  by_cases hsb : smallR 6 1 b
  case neg =>
    rw [decide_eq_false (show ¬ (b.length ≤ 6 ∧ ∀ x, x ∈ b → x.2.length ≤ 1) from hsb)]
    exact fin ⟨rfl, rfl, rfl⟩ (Seals.nil _ _)
  rw [decide_eq_true (show b.length ≤ 6 ∧ ∀ x, x ∈ b → x.2.length ≤ 1 from hsb)]
  have hfa := hsa.fits ha
  have hfb := hsb.fit hb
  have hca := hsa.cols
  have hla := hsa.1
  have hlb := hsb.1
  have hE : Eb 1 a.length ≤ 17179869184 := Nat.le_trans (Eb_mono 1 hla) (by decide)
  refine call_fn (mSolve_meets v w a b 1 hfa hfb (by omega) hE) (Seals.refl _ _) (by repeat (first | exact Sub.nil _ | refine Sub.cons (by repeat (first | exact List.Mem.head _ | apply List.Mem.tail)) ?_)) ?_
  rintro _ _ _ ⟨rfl, x, d0, rfl, rfl⟩
  refine alloc_rule (d := I false []) fun d hd => ?_
  refine store_box (d := zd (msolve a b).2.1) 0 rfl hd rfl (by kernel_rfl) ?_ ?_; exact Reads.fact (by repeat (first | exact List.Mem.head _ | apply List.Mem.tail))
  refine call_fn (mDet_meets v a 1 hfa (by omega) hE) (Seals.refl _ _) (by repeat (first | exact Sub.nil _ | refine Sub.cons (by repeat (first | exact List.Mem.head _ | apply List.Mem.tail)) ?_)) ?_
  rintro _ _ _ ⟨rfl, q1, rfl, rfl⟩
  refine alloc_rule (d := I false []) fun dw hdw => ?_
  refine store_box (d := zd (if square a then det a.length (mx (ww a)) else 0)) 0 rfl hdw rfl (by kernel_rfl) ?_ ?_; exact Reads.fact (by repeat (first | exact List.Mem.head _ | apply List.Mem.tail))
  by_cases hs : square a
  case neg =>
    have e : msolve a b = ([], 0, 1) := if_pos (fun h => hs h.1)
    rw [if_neg hs, if_neg hs, e]
    refine cmp_true rfl (by decide) ?_
    refine cmp_true rfl rfl ?_
    exact fin ⟨rfl, rfl, rfl⟩ (Seals.trans (Seals.drop 0 _ _) (Seals.trans (Seals.drop 0 _ _) (Seals.nil _ _)))
  rw [if_pos hs, if_pos hs]
  refine cmp_false rfl (by decide) ?_
  refine len_fact (by repeat (first | exact List.Mem.head _ | apply List.Mem.tail)) fun _ => ?_
  refine len_fact (by repeat (first | exact List.Mem.head _ | apply List.Mem.tail)) fun _ => ?_
  refine cmp_split _ rfl (fun hl => ?_) (fun hl => ?_)
  · have e : msolve a b = ([], 0, 1) := if_pos (fun h => hl (by rw [h.2]))
    rw [e]
    refine cmp_true rfl rfl ?_
    exact fin ⟨rfl, rfl, rfl⟩ (Seals.trans (Seals.drop 0 _ _) (Seals.trans (Seals.drop 0 _ _) (Seals.nil _ _)))
  have hbl : b.length = a.length := by omega
  have e0 : msolve a b = if det a.length (mx (ww a)) = 0 then ([], 0, 8)
    else ((List.range a.length).map fun c => det a.length (cw (mx (ww a)) c fun i => (vv b).getD i 0), det a.length (mx (ww a)), 0) := if_neg (fun h => h ⟨hs, hbl⟩)
  obtain ⟨n, hn⟩ : ∃ n, a.length = n + 1 := ⟨a.length - 1, by have := hs.1.1; omega⟩
  have hDs : sz (det a.length (mx (ww a))) 13 := (det_sz a.length (by omega) fun i j _ _ => mx_at hfa i j).mono (by omega)
  have hcr : ∀ i, i < a.length → isum (fun k => mx (ww a) i k * det a.length (cw (mx (ww a)) k fun i => (vv b).getD i 0)) a.length = det a.length (mx (ww a)) * (vv b).getD i 0 := fun i hi => by
    rw [hn] at hi ⊢
    exact cramer (mx (ww a)) (fun i => (vv b).getD i 0) hi
  have hgs : ∀ k, sz (det a.length (cw (mx (ww a)) k fun i => (vv b).getD i 0)) 13 := fun k => (det_sz a.length (by omega) fun i j _ _ => by
    unfold cw
    split
    · exact vv_sz hfb i
    · exact mx_at hfa i j).mono (show (1 + 1) * a.length + 1 ≤ 13 by omega)
  generalize hD : det a.length (mx (ww a)) = D at *
  generalize hg : (fun k => det a.length (cw (mx (ww a)) k fun i => (vv b).getD i 0)) = g at *
  have hgk : ∀ k, det a.length (cw (mx (ww a)) k fun i => (vv b).getD i 0) = g k := fun k => by rw [← hg]
  simp only [hgk] at hcr hgs
  refine load_box (d := zd D) 0 rfl hdw rfl (load_I _ _) fun y1 => ?_
  refine call_fn (rSignZ y1 D 13 hDs (by decide)) (Seals.refl _ _) (by repeat (first | exact Sub.nil _ | refine Sub.cons (by repeat (first | exact List.Mem.head _ | apply List.Mem.tail)) ?_)) ?_
  rintro _ _ _ ⟨rfl, rfl, rfl⟩
  refine cmp_split _ rfl (fun h0 => ?_) (fun h0 => ?_)
  · rw [if_pos (Int.sign_eq_zero_iff_zero.1 h0)] at e0
    rw [e0]
    refine cmp_true rfl rfl ?_
    refine len_vd (by repeat (first | exact List.Mem.head _ | apply List.Mem.tail)) ?_
    refine cmp_true rfl rfl ?_
    exact fin ⟨rfl, rfl, rfl⟩ (Seals.trans (Seals.drop 0 _ _) (Seals.trans (Seals.drop 0 _ _) (Seals.nil _ _)))
  rw [if_neg (fun e => h0 (Int.sign_eq_zero_iff_zero.2 e))] at e0
  rw [e0]
  have hxl : ((List.range a.length).map g).length = a.length := by simp
  refine cmp_false rfl (fun h => h rfl) ?_
  refine load_box (d := zd D) 1 rfl hd rfl (load_I _ _) fun y2 => ?_
  refine load_box (d := zd D) 0 rfl hdw rfl (load_I _ _) fun y3 => ?_
  refine call_fn (exactW y2 y3 D D) (Seals.refl _ _) (by repeat (first | exact Sub.nil _ | refine Sub.cons (by repeat (first | exact List.Mem.head _ | apply List.Mem.tail)) ?_)) ?_
  rintro _ _ _ ⟨rfl, rfl, rfl⟩
  rw [decide_eq_true rfl]
  refine len_vd (l := (List.range a.length).map g) (by repeat (first | exact List.Mem.head _ | apply List.Mem.tail)) ?_
  refine len_fact (by repeat (first | exact List.Mem.head _ | apply List.Mem.tail)) fun _ => ?_
  refine cmp_false rfl (fun h => h (by rw [hxl])) ?_
  refine loop_rule (X := Nat) (fun i => ([(0, v), (1, w), (5, .bool true), (6, x), (7, d), (11, .int .i64 (i : Nat))], [own1 d 2 1 (fun _ => zd D)], [(x, vd ((List.range a.length).map g)), (v, W a), (w, V b)])) (fun i => i ≤ a.length) (fun i => a.length - i) rfl ?_ ?_
  · exact again 0 (Nat.zero_le _) trivial (by repeat (first | exact trivial | refine ⟨rfl, ?_⟩ | refine ⟨i64_eq (by first | omega | (simp only; omega)), ?_⟩ | refine ⟨u64_eq (by first | omega | (simp only; omega)), ?_⟩)) (Seals.trans (Seals.drop 0 _ _) (Seals.trans (Seals.box0 rfl) (Seals.sub (by repeat (first | exact Sub.nil _ | refine Sub.cons (by repeat (first | exact List.Mem.head _ | apply List.Mem.tail)) ?_)))))
  · rintro i hi1
    refine len_fact (by repeat (first | exact List.Mem.head _ | apply List.Mem.tail)) fun _ => ?_
    refine cmp_split _ rfl (fun hi => ?_) (fun hi => ?_)
    · have hil : i < a.length := by omega
      have hrl : (a.getD i []).length = a.length := by rw [(hs.1.get hil).2, ← hs.2]
      have hat : ∀ k, k < a.length → mx (ww a) i k = jv ((a.getD i []).getD k z0) := fun k hk => by unfold mx; rw [ww_get, vv_get _ _ (by rw [hrl]; exact hk)]
      have hts : ∀ k, sz (mx (ww a) i k * g k) (1 + 13) := fun k => sz.mul (mx_at hfa i k) (hgs k)
      have hS : ∀ m, m ≤ a.length → sz (isum (fun k => mx (ww a) i k * g k) m) 15 := fun m hm => isum_sz (fun k _ => hts k) (by omega)
      refine build0 (da := .one (.bool false)) (db := U (lims 0)) (fun S w => ⟨[.bool false], [.slice none 0 0], rfl, rd_false S w, by rw [lims_zero]; exact rd_nil S w 1 _⟩) fun z => ?_
      refine alloc_rule (d := I false []) fun s hs' => ?_
      refine store_box (d := zd 0) 0 rfl hs' rfl (by kernel_rfl) ?_ ?_; exact Reads.fact (by repeat (first | exact List.Mem.head _ | apply List.Mem.tail))
      refine loop_rule (X := Nat) (fun k => ([(0, v), (1, w), (5, .bool true), (6, x), (7, d), (11, .int .i64 (i : Nat)), (12, s), (13, .int .i64 (k : Nat))], [own1 s 2 1 (fun _ => zd (isum (fun k => mx (ww a) i k * g k) k)), own1 d 2 1 (fun _ => zd D)], [(x, vd ((List.range a.length).map g)), (v, W a), (w, V b)])) (fun k => k ≤ a.length) (fun k => a.length - k) rfl ?_ ?_
      · exact again 0 (Nat.zero_le _) trivial (by repeat (first | exact trivial | refine ⟨rfl, ?_⟩ | refine ⟨i64_eq (by first | omega | (simp only; omega)), ?_⟩ | refine ⟨u64_eq (by first | omega | (simp only; omega)), ?_⟩)) (Seals.trans (Seals.box0 rfl) (Seals.sub (by repeat (first | exact Sub.nil _ | refine Sub.cons (by repeat (first | exact List.Mem.head _ | apply List.Mem.tail)) ?_))))
      · rintro k hk1
        refine len_fact (by repeat (first | exact List.Mem.head _ | apply List.Mem.tail)) fun _ => ?_
        refine cmp_split _ rfl (fun hk => ?_) (fun hk => ?_)
        · have hkl : k < a.length := by omega
          have hxa := (hfa.get i).get k
          have hgk : ((List.range a.length).map g).getD k 0 = g k := by simp [List.getD_eq_getElem?_getD, hkl]
          refine draw_rule [0, 1, 2, 3, 4, 5, 6, 7, 8, 9, 10, 11, 12, 13, 14] [0, 1, 2, 3, 4, 5, 6, 7, 8, 9, 10, 11, 12, 13, 14] (by kernel_rfl) (by kernel_rfl) ?_
          refine load_box (d := zd (isum (fun k => mx (ww a) i k * g k) k)) 0 rfl hs' rfl (load_I _ _) fun y4 => ?_
          refine index_fact (n := a.length) (by repeat (first | exact List.Mem.head _ | apply List.Mem.tail)) i rfl hil fun p1 => ?_
          refine load_fact (d := V (a.getD i [])) (by repeat (first | exact List.Mem.head _ | apply List.Mem.tail)) (load_V _) fun r1 => ?_
          refine index_fact (n := (a.getD i []).length) (by repeat (first | exact List.Mem.head _ | apply List.Mem.tail)) k rfl (by rw [hrl]; exact hkl) fun p2 => ?_
          refine load_fact (d := J ((a.getD i []).getD k z0)) (by repeat (first | exact List.Mem.head _ | apply List.Mem.tail)) (load_J _) fun y5 => ?_
          refine index_vd (l := (List.range a.length).map g) (by repeat (first | exact List.Mem.head _ | apply List.Mem.tail)) k rfl (by rw [hxl]; exact hkl) fun p3 => ?_
          rw [hgk]
          refine load_fact (d := zd (g k)) (by repeat (first | exact List.Mem.head _ | apply List.Mem.tail)) (load_I _ _) fun y6 => ?_
          refine call_fn (rMulZ y5 y6 ((a.getD i []).getD k z0) (g k) 13 hxa.1 (by omega) (hgs k) (by decide)) (Seals.refl _ _) (by repeat (first | exact Sub.nil _ | refine Sub.cons (by repeat (first | exact List.Mem.head _ | apply List.Mem.tail)) ?_)) ?_
          rintro y7 _ _ ⟨rfl, rfl⟩
          rw [← hat k hkl]
          refine call_fn (rAddZ y4 y7 (isum (fun k => mx (ww a) i k * g k) k) (mx (ww a) i k * g k) 15 (hS k hk1) ((hts k).mono (by decide)) (by decide)) (Seals.refl _ _) (by repeat (first | exact Sub.nil _ | refine Sub.cons (by repeat (first | exact List.Mem.head _ | apply List.Mem.tail)) ?_)) ?_
          rintro y8 _ _ ⟨rfl, rfl⟩
          refine store_box (d := zd (isum (fun k => mx (ww a) i k * g k) (k + 1))) 0 rfl hs' rfl (by kernel_rfl) ?_ ?_; exact Reads.fact (by repeat (first | exact List.Mem.head _ | apply List.Mem.tail))
          refine ar rfl (by first | exact ⟨by omega, by omega⟩ | (simp only [inK]; omega)) ?_
          exact again (k + 1) (by omega) (by simp only; omega) (by repeat (first | exact trivial | refine ⟨rfl, ?_⟩ | refine ⟨i64_eq (by first | omega | (simp only; omega)), ?_⟩ | refine ⟨u64_eq (by first | omega | (simp only; omega)), ?_⟩)) (Seals.trans (Seals.box0 rfl) (Seals.sub (by repeat (first | exact Sub.nil _ | refine Sub.cons (by repeat (first | exact List.Mem.head _ | apply List.Mem.tail)) ?_))))
        · have hkl : k = a.length := by omega
          subst hkl
          have hbi := hfb.get i
          have hc := hcr i hil
          rw [vv_get b i (by omega)] at hc
          refine draw_rule [0, 1, 2, 3, 4, 5, 6, 7, 8] [0, 1, 2, 3, 4, 5, 6, 7, 8] (by kernel_rfl) (by kernel_rfl) ?_
          refine load_box (d := zd (isum (fun k => mx (ww a) i k * g k) a.length)) 0 rfl hs' rfl (load_I _ _) fun y4 => ?_
          refine load_box (d := zd D) 1 rfl hd rfl (load_I _ _) fun y5 => ?_
          refine index_fact (n := b.length) (by repeat (first | exact List.Mem.head _ | apply List.Mem.tail)) i rfl (by omega) fun p1 => ?_
          refine load_fact (d := J (b.getD i z0)) (by repeat (first | exact List.Mem.head _ | apply List.Mem.tail)) (load_J _) fun y6 => ?_
          refine call_fn (rMulZJ y5 y6 D (b.getD i z0) 13 hDs (by decide) hbi.1 (by omega)) (Seals.refl _ _) (by repeat (first | exact Sub.nil _ | refine Sub.cons (by repeat (first | exact List.Mem.head _ | apply List.Mem.tail)) ?_)) ?_
          rintro y7 _ _ ⟨rfl, rfl⟩
          rw [hc]
          refine call_fn (exactW y4 y7 (D * jv (b.getD i z0)) (D * jv (b.getD i z0))) (Seals.refl _ _) (by repeat (first | exact Sub.nil _ | refine Sub.cons (by repeat (first | exact List.Mem.head _ | apply List.Mem.tail)) ?_)) ?_
          rintro _ _ _ ⟨rfl, rfl, rfl⟩
          rw [decide_eq_true rfl]
          refine ar rfl (by first | exact ⟨by omega, by omega⟩ | (simp only [inK]; omega)) ?_
          exact again (i + 1) (by omega) (by simp only; omega) (by repeat (first | exact trivial | refine ⟨rfl, ?_⟩ | refine ⟨i64_eq (by first | omega | (simp only; omega)), ?_⟩ | refine ⟨u64_eq (by first | omega | (simp only; omega)), ?_⟩)) (Seals.trans (Seals.drop 0 _ _) (Seals.sub (by repeat (first | exact Sub.nil _ | refine Sub.cons (by repeat (first | exact List.Mem.head _ | apply List.Mem.tail)) ?_))))
    · exact fin ⟨rfl, rfl, rfl⟩ (Seals.trans (Seals.drop 0 _ _) (Seals.nil _ _))

end Go.Proofs.Ytajkjlgddmkkaaa

namespace Go.Proofs.Ytajkjlgddmkkaaa
open Go.RowKit

/-- Another row in row x. -/
def rowSet (a : List Row) (x : Nat) (r : Row) : List Row := a.set x r

theorem rowSet_len (a : List Row) (x : Nat) (r : Row) : (rowSet a x r).length = a.length := by unfold rowSet; simp
theorem rowSet_get {a : List Row} {x : Nat} (r : Row) (h : x < a.length) (i : Nat) : (rowSet a x r).getD i [] = if i = x then r else a.getD i [] := getD_set2 h

theorem rowSet_sq {n k : Nat} {a : List Row} (h : Sq n k a) {x : Nat} {r : Row} (hr : r.length = n) (hf : Fit k r) : Sq n k (rowSet a x r) := by
  refine ⟨by rw [rowSet_len, h.rows], fun s hs => ?_, fun s hs => ?_⟩
  · rcases List.mem_or_eq_of_mem_set hs with hs | rfl
    · exact h.cols s hs
    · exact hr
  · rcases List.mem_or_eq_of_mem_set hs with hs | rfl
    · exact h.fits s hs
    · exact hf

theorem sq_square {n k : Nat} {a : List Row} (h : Sq n k a) (h0 : 0 < n) : square a := by
  have e := h.cols _ (getD_mem (i := 0) [] (by rw [h.rows]; exact h0))
  exact ⟨⟨by rw [h.rows]; exact h0, fun r hr => by rw [h.cols r hr, e]; exact ⟨h0, rfl⟩⟩, by rw [h.rows, e]⟩

theorem mx_rowSet {a : List Row} {x : Nat} {r : Row} (h : x < a.length) (i j : Nat) : mx (ww (rowSet a x r)) i j = rw' (mx (ww a)) x (fun j => (vv r).getD j 0) i j := by
  unfold mx rw'
  rw [ww_get, rowSet_get r h]
  split
  · rfl
  · show _ = ((ww a).getD i []).getD j 0
    rw [ww_get]

/-- A row of products. -/
def rowMul (c : Bool × List Nat) (r : Row) : List Int := r.map fun x => jv c * jv x
def rowAdd (c : Bool × List Nat) (r s : Row) : List Int := (List.range r.length).map fun j => jv (r.getD j z0) + jv c * jv (s.getD j z0)

theorem rowMul_get {c : Bool × List Nat} {r : Row} {j : Nat} (h : j < r.length) : (rowMul c r).getD j 0 = jv c * jv (r.getD j z0) := by
  unfold rowMul; simp [List.getD_eq_getElem?_getD, h]
theorem rowAdd_get {c : Bool × List Nat} {r s : Row} {j : Nat} (h : j < r.length) : (rowAdd c r s).getD j 0 = jv (r.getD j z0) + jv c * jv (s.getD j z0) := by
  unfold rowAdd; simp [List.getD_eq_getElem?_getD, h]
theorem rowMul_len (c : Bool × List Nat) (r : Row) : (rowMul c r).length = r.length := by unfold rowMul; simp
theorem rowAdd_len (c : Bool × List Nat) (r s : Row) : (rowAdd c r s).length = r.length := by unfold rowAdd; simp

theorem det_scaled {a : List Row} {x : Nat} {c : Bool × List Nat} {n : Nat} (hx : x < n) (hn : a.length = n) (hl : (a.getD x []).length = n) :
    det n (mx (ww (rowSet a x ((rowMul c (a.getD x [])).map cn)))) = jv c * det n (mx (ww a)) := by
  have h := (det_form n).smul (mx (ww a)) hx (jv c) (mx (ww a) x)
  rw [rw_self] at h
  rw [← h]
  refine det_congr fun i j hi hj => ?_
  rw [mx_rowSet (by omega)]
  unfold rw'
  split
  · show (vv ((rowMul c (a.getD x [])).map cn)).getD j 0 = jv c * ((ww a).getD x []).getD j 0
    rw [vv_cn, rowMul_get (by omega), ww_get, vv_get _ _ (by omega)]
  · rfl

theorem det_added {a : List Row} {x y : Nat} {c : Bool × List Nat} {n : Nat} (hx : x < n) (hy : y < n) (hxy : x ≠ y) (hn : a.length = n) (hl : (a.getD x []).length = n) (hl' : (a.getD y []).length = n) :
    det n (mx (ww (rowSet a x ((rowAdd c (a.getD x []) (a.getD y [])).map cn)))) = det n (mx (ww a)) := by
  have h := (det_form n).addRow (A := mx (ww a)) hx hy hxy (jv c) (mx (ww a) y) (fun _ _ => rfl) (mx (ww a) x)
  rw [rw_self] at h
  rw [← h]
  refine det_congr fun i j hi hj => ?_
  rw [mx_rowSet (by omega)]
  unfold rw'
  split
  · show (vv ((rowAdd c (a.getD x []) (a.getD y [])).map cn)).getD j 0 = ((ww a).getD x []).getD j 0 + jv c * ((ww a).getD y []).getD j 0
    rw [vv_cn, rowAdd_get (by omega), ww_get, vv_get _ _ (by omega), ww_get, vv_get _ _ (by omega)]
  · rfl

theorem det_twice {a : List Row} {x y n : Nat} (hx : x < n) (hy : y < n) (hxy : x ≠ y) (hn : a.length = n) : det n (mx (ww (rowSet a x (a.getD y [])))) = 0 := by
  refine (det_form n).eqRows hx hy hxy fun j hj => ?_
  rw [mx_rowSet (by omega), mx_rowSet (by omega)]
  unfold rw'
  rw [if_pos rfl, if_neg (Ne.symm hxy)]
  show _ = ((ww a).getD y []).getD j 0
  rw [ww_get]

/-- Two rows changed about. -/
def rowSwap (a : List Row) (x y : Nat) : List Row := (List.range a.length).map fun i => a.getD (ex x y i) []
theorem rowSwap_len (a : List Row) (x y : Nat) : (rowSwap a x y).length = a.length := by unfold rowSwap; simp
theorem rowSwap_get {a : List Row} {x y i : Nat} (h : i < a.length) : (rowSwap a x y).getD i [] = a.getD (ex x y i) [] := by
  unfold rowSwap; simp [List.getD_eq_getElem?_getD, h]

theorem rowSwap_sq {n k : Nat} {a : List Row} (h : Sq n k a) {x y : Nat} (hx : x < n) (hy : y < n) : Sq n k (rowSwap a x y) := by
  have key : ∀ s, s ∈ rowSwap a x y → s ∈ a := fun s hs => by
    obtain ⟨i, hi, e⟩ := mem_getD [] hs
    rw [rowSwap_len] at hi
    rw [rowSwap_get hi] at e
    rw [← e]
    exact getD_mem [] (by rw [h.rows] at hi ⊢; exact ex_lt hx hy hi)
  exact ⟨by rw [rowSwap_len, h.rows], fun s hs => h.cols s (key s hs), fun s hs => h.fits s (key s hs)⟩

theorem det_swapped {a : List Row} {x y n : Nat} (hx : x < n) (hy : y < n) (hxy : x ≠ y) (hn : a.length = n) : det n (mx (ww (rowSwap a x y))) = - det n (mx (ww a)) := by
  rw [← (det_form n).swap (A := mx (ww a)) hx hy hxy]
  refine det_congr fun i j hi hj => ?_
  have e : ∀ i, mx (ww a) i j = (vv (a.getD i [])).getD j 0 := fun i => by unfold mx; rw [ww_get]
  have e1 : mx (ww (rowSwap a x y)) i j = (vv (a.getD (ex x y i) [])).getD j 0 := by unfold mx; rw [ww_get, rowSwap_get (by omega)]
  rw [e1]
  unfold rw' ex
  by_cases h1 : i = y
  · subst h1
    by_cases h2 : i = x
    · exact absurd h2.symm hxy
    · simp [h2, e]
  · by_cases h2 : i = x
    · subst h2; simp [h1, e]
    · simp [h1, h2, e]

theorem Sq.getl {n k : Nat} {a : List Row} (h : Sq n k a) {i : Nat} (hi : i < n) : (a.getD i []).length = n := h.cols _ (getD_mem [] (by rw [h.rows]; exact hi))

theorem mDetSq (v : Value) (m : List Row) (n k : Nat) (h : Sq n k m) (h0 : 0 < n) (ln : n ≤ 1048576) (hk : Eb k n ≤ 17179869184) (d : Int) (hd : det n (mx (ww m)) = d) :
    Meets Try.prog 16 [v] [(v, W m)] (fun r os fs => os = [] ∧ ∃ q, r = .tuple #[q, .int .i64 0] ∧ fs = [(q, zd d)]) := by
  have hs := sq_square h h0
  have h1 := mDet_meets v m k h.fits (by rw [h.rows]; exact ln) (by rw [h.rows]; exact hk)
  rw [if_pos hs, if_pos hs, h.rows, hd] at h1
  exact h1

theorem mix_getD {A B : Row} {k : Nat} (h : A.length = B.length) (hk : k < B.length) : (mix A B k).getD k z0 = B.getD k z0 := mix_get z0 h (Nat.le_refl _) (Nat.le_of_lt hk)

/-- Row x of a copy as it is filled. -/
def part (a : List Row) (x : Nat) (r : Row) (j : Nat) : List Row := rowSet a x (mix r (a.getD x []) j)

theorem part_zero {a : List Row} {x : Nat} (r : Row) (h : x < a.length) : part a x r 0 = a := by
  unfold part rowSet
  rw [mix_zero]
  refine row_eq_of_getD [] (by simp) fun i hi => ?_
  rw [getD_set2 h]
  split
  · rename_i e; rw [e]
  · rfl

theorem part_step {a : List Row} {x : Nat} {r : Row} {j : Nat} (h : x < a.length) (hl : r.length = (a.getD x []).length) (hj : j < (a.getD x []).length) :
    (part a x r j).set x (((part a x r j).getD x []).set j (r.getD j z0)) = part a x r (j + 1) := by
  unfold part
  rw [rowSet_get _ h, if_pos rfl, mix_set z0 hl hj]
  unfold rowSet
  rw [List.set_set]

theorem part_len (a : List Row) (x : Nat) (r : Row) (j : Nat) : (part a x r j).length = a.length := rowSet_len _ _ _
theorem part_row {a : List Row} {x : Nat} {r : Row} {j : Nat} (h : x < a.length) (hl : r.length = (a.getD x []).length) : ((part a x r j).getD x []).length = (a.getD x []).length := by
  unfold part
  rw [rowSet_get _ h, if_pos rfl, mix_len hl]
theorem part_all {a : List Row} {x : Nat} {r : Row} {j : Nat} (hl : r.length = (a.getD x []).length) (hj : (a.getD x []).length ≤ j) : part a x r j = rowSet a x r := by
  unfold part; rw [mix_all hl hj]

theorem conv_u8 {s t : TypeId} {n : Int} {os : List Own} {fs : List Fact} {K : Cont} (hs : ∃ d, Try.prog.underlying s = some d) (ht : Try.prog.underlying t = some (.int .i64)) (h : 0 ≤ n ∧ n < 256) (h1 : K (.int .i64 n) os fs) : ConvK Try.prog s t (.int .u8 n) os fs K :=
  conv_int hs ht n (wrap_in (k := .i64) (by simp only [inK]; omega)) h1

theorem outer_get {v : Value} {R : Nat} {vs : Nat → Value} : outer v R vs = own1 v 1 R fun i => .one (vs i) := rfl

theorem Seals.swapR {a : List Row} {vs vs' : Nat → Value} {x y n : Nat} {os : List Own} {fs : List Fact} (pos : Nat) (h : nthOwn os pos = some (famR vs a)) (hn : a.length = n) (hx : x < n) (hy : y < n) (hv : ∀ i, vs' i = vs (ex x y i)) :
    Seals os fs (setOwn os pos (famR vs' (rowSwap a x y))) fs :=
  Seals.re (o' := famR vs' (rowSwap a x y)) pos h (ex x y) rfl (fun i hi => by
    have hi' : i < (rowSwap a x y).length := hi
    rw [rowSwap_len] at hi'
    refine ⟨?_, hv i, ?_, fun j hj => ?_⟩
    · show ex x y i < a.length
      rw [hn] at hi' ⊢; exact ex_lt hx hy hi'
    · show ((rowSwap a x y).getD i []).length = (a.getD (ex x y i) []).length
      rw [rowSwap_get hi']
    · show J (((rowSwap a x y).getD i []).getD j z0) = J ((a.getD (ex x y i) []).getD j z0)
      rw [rowSwap_get hi']) (fun _ _ _ _ e => ex_inj e)

theorem Seals.madeR' {v : Value} {vs : Nat → Value} {m : List Row} {n : Nat} {os : List Own} {fs : List Fact} (hn : m.length = n) (hv : isSl v) (hs : ∀ i, i < n → isSl (vs i)) :
    Seals (famR vs m :: outer v n vs :: os) fs os ((v, W m) :: fs) := by subst hn; exact Seals.madeR hv hs

end Go.Proofs.Ytajkjlgddmkkaaa

namespace Go.Proofs.Ytajkjlgddmkkaaa
open Go.RowKit

theorem rAddJZ (v w : Value) (x : Bool × List Nat) (y : Int) (e : Nat) (hx : Lim x.2) (lx : x.2.length ≤ 137438953472) (hy : sz y e) (he : e ≤ 137438953472) :
    Meets Try.prog 34 [v, w] [(v, J x), (w, zd y)] (fun r os fs => os = [] ∧ fs = [(r, zd (jv x + y))]) := by
  have h := rZAdd_meets v w x.1 (decide (y < 0)) x.2 (lims y.natAbs) hx (Lim_lims _) lx (Nat.le_trans hy.len he)
  rw [iv_zd] at h
  exact h

theorem load_famR {vs : Nat → Value} {m : List Row} {os : List Own} {fs : List Fact} {K : Cont} (pos i j : Nat) (h : nthOwn os pos = some (famR vs m)) (hi : i < m.length) (hj : j < (m.getD i []).length) (x : Bool × List Nat) (hx : (m.getD i []).getD j z0 = x)
    (k : ∀ u, K u os ((u, J x) :: fs)) : LoadK Try.prog 28 (eptr (vs i) (j * 2)) os fs K := by
  subst hx
  exact load_own (o := famR vs m) pos i h hi j 0 rfl hj (Part.refl _) (load_J _) k

theorem matrixRows_meets (v : Value) (xi xk : Int) (w : Value) (a : List Row) (c : Bool × List Nat) (ha : limM a) (hi0 : 0 ≤ xi ∧ xi < 256) (hk0 : 0 ≤ xk ∧ xk < 256) (hc : Lim c.2) :
    Meets Try.prog 6 [v, .int .u8 xi, .int .u8 xk, w] [(v, W a), (w, J c)] (fun r os fs => os = [] ∧ fs = [] ∧ r = .bool true) := by
  refine meets_cut (Y := Value × Value × Int × Nat × Nat) 8 (fun z => ([(0, v), (7, z.1), (9, .bool true), (10, z.2.1), (12, .int .i64 (z.2.2.2.1 : Nat)), (13, .int .i64 (z.2.2.2.2 : Nat))], [own1 z.2.1 2 1 (fun _ => zd z.2.2.1)], [(z.1, .ptr (J c)), (v, W a)]))
    (fun z => small 7 7 1 a ∧ c.2.length ≤ 1 ∧ square a ∧ isBox z.2.1 ∧ z.2.2.1 = det a.length (mx (ww a)) ∧ z.2.2.2.1 < a.length ∧ z.2.2.2.2 < a.length ∧ z.2.2.2.1 ≠ z.2.2.2.2)
    Try.func6 (by kernel_rfl) rfl (by kernel_rfl) (Nat.le_of_ble_eq_true rfl) ?_ ?_
  · refine box_fact (Reads.fact (d := J c) (by repeat (first | exact List.Mem.head _ | apply List.Mem.tail))) fun pc => ?_
    refine call_fn shown_meets (Seals.refl _ _) (by repeat (first | exact Sub.nil _ | refine Sub.cons (by repeat (first | exact List.Mem.head _ | apply List.Mem.tail)) ?_)) ?_
    rintro _ _ _ ⟨rfl, rfl, rfl⟩
    refine call_fn (rowsFits_meets v a 7 7 1) (Seals.refl _ _) (by repeat (first | exact Sub.nil _ | refine Sub.cons (by repeat (first | exact List.Mem.head _ | apply List.Mem.tail)) ?_)) ?_
    rintro _ _ _ ⟨rfl, rfl, rfl⟩
    by_cases hsa : small 7 7 1 a
    case neg =>
      rw [decide_eq_false hsa]
      exact fin ⟨rfl, rfl, rfl⟩ (Seals.nil _ _)
    rw [decide_eq_true hsa]
    refine field_fact (off := 1) (d := J c) (d' := U c.2) (by repeat (first | exact List.Mem.head _ | apply List.Mem.tail)) (Part.right (Part.refl _)) fun p1 => ?_
    refine load_fact (d := U c.2) (by repeat (first | exact List.Mem.head _ | apply List.Mem.tail)) (load_L _) fun l1 => ?_
    refine len_fact (by repeat (first | exact List.Mem.head _ | apply List.Mem.tail)) fun _ => ?_
    refine cmp_split _ rfl (fun hcl => ?_) (fun hcl => ?_)
    · exact fin ⟨rfl, rfl, rfl⟩ (Seals.nil _ _)
    have hfa := hsa.fits ha
    have hca := hsa.cols
    have hla := hsa.1
    have hE : Eb 1 a.length ≤ 17179869184 := Nat.le_trans (Eb_mono 1 hla) (by decide)
    refine call_fn (mDet_meets v a 1 hfa (by omega) hE) (Seals.refl _ _) (by repeat (first | exact Sub.nil _ | refine Sub.cons (by repeat (first | exact List.Mem.head _ | apply List.Mem.tail)) ?_)) ?_
    rintro _ _ _ ⟨rfl, q1, rfl, rfl⟩
    refine alloc_rule (d := I false []) fun d hd => ?_
    refine store_box (d := zd (if square a then det a.length (mx (ww a)) else 0)) 0 rfl hd rfl (by kernel_rfl) ?_ ?_; exact Reads.fact (by repeat (first | exact List.Mem.head _ | apply List.Mem.tail))
    by_cases hs : square a
    case neg =>
      rw [if_neg hs, if_neg hs]
      refine cmp_true rfl (by decide) ?_
      refine cmp_false rfl (by decide) ?_
      refine cmp_true rfl rfl ?_
      exact fin ⟨rfl, rfl, rfl⟩ (Seals.trans (Seals.drop 0 _ _) (Seals.nil _ _))
    rw [if_pos hs, if_pos hs]
    refine cmp_false rfl (by decide) ?_
    refine len_fact (by repeat (first | exact List.Mem.head _ | apply List.Mem.tail)) fun _ => ?_
    refine cmp_split _ rfl (fun h2 => ?_) (fun h2 => ?_)
    · refine cmp_true rfl rfl ?_
      exact fin ⟨rfl, rfl, rfl⟩ (Seals.trans (Seals.drop 0 _ _) (Seals.nil _ _))
    refine conv_u8 ⟨_, Try.underlying5⟩ Try.underlying3 hi0 ?_
    refine len_fact (by repeat (first | exact List.Mem.head _ | apply List.Mem.tail)) fun _ => ?_
    refine rem_rule hi0.1 (by omega) ?_
    refine conv_u8 ⟨_, Try.underlying5⟩ Try.underlying3 hk0 ?_
    refine len_fact (by repeat (first | exact List.Mem.head _ | apply List.Mem.tail)) fun _ => ?_
    refine rem_rule hk0.1 (by omega) ?_
    have hx0 := Int.emod_nonneg xi (b := (a.length : Int)) (by omega)
    have hx1 := Int.emod_lt_of_pos xi (b := (a.length : Int)) (by omega)
    have hy0 := Int.emod_nonneg xk (b := (a.length : Int)) (by omega)
    have hy1 := Int.emod_lt_of_pos xk (b := (a.length : Int)) (by omega)
    obtain ⟨x, hx⟩ : ∃ x : Nat, xi % (a.length : Int) = x := ⟨(xi % (a.length : Int)).toNat, by omega⟩
    obtain ⟨y, hy⟩ : ∃ y : Nat, xk % (a.length : Int) = y := ⟨(xk % (a.length : Int)).toNat, by omega⟩
    rw [hx] at hx0 hx1 ⊢
    rw [hy] at hy0 hy1 ⊢
    refine cmp_split _ rfl (fun he => ?_) (fun he => ?_)
    · refine ar rfl (by first | exact ⟨by omega, by omega⟩ | (simp only [inK]; omega)) ?_
      refine len_fact (by repeat (first | exact List.Mem.head _ | apply List.Mem.tail)) fun _ => ?_
      refine rem_rule (by omega) (by omega) ?_
      have hz0 := Int.emod_nonneg ((x : Int) + 1) (b := (a.length : Int)) (by omega)
      have hz1 := Int.emod_lt_of_pos ((x : Int) + 1) (b := (a.length : Int)) (by omega)
      obtain ⟨z, hz⟩ : ∃ z : Nat, ((x : Int) + 1) % (a.length : Int) = z := ⟨(((x : Int) + 1) % (a.length : Int)).toNat, by omega⟩
      have hne : x ≠ z := by
        intro e
        by_cases h3 : x + 1 = a.length
        · rw [show (x : Int) + 1 = (a.length : Int) by omega, Int.emod_self] at hz
          omega
        · rw [Int.emod_eq_of_lt (by omega) (by omega)] at hz
          omega
      rw [hz] at hz0 hz1 ⊢
      exact again (pc, d, det a.length (mx (ww a)), x, z) ⟨hsa, by omega, hs, hd, rfl, by simp only; omega, by simp only; omega, hne⟩ trivial (by repeat (first | exact trivial | refine ⟨rfl, ?_⟩ | refine ⟨i64_eq (by first | omega | (simp only; omega)), ?_⟩ | refine ⟨u64_eq (by first | omega | (simp only; omega)), ?_⟩)) (Seals.trans (Seals.box0 rfl) (Seals.sub (by repeat (first | exact Sub.nil _ | refine Sub.cons (by repeat (first | exact List.Mem.head _ | apply List.Mem.tail)) ?_))))
    · exact again (pc, d, det a.length (mx (ww a)), x, y) ⟨hsa, by omega, hs, hd, rfl, by simp only; omega, by simp only; omega, by simp only; omega⟩ trivial (by repeat (first | exact trivial | refine ⟨rfl, ?_⟩ | refine ⟨i64_eq (by first | omega | (simp only; omega)), ?_⟩ | refine ⟨u64_eq (by first | omega | (simp only; omega)), ?_⟩)) (Seals.trans (Seals.box0 rfl) (Seals.sub (by repeat (first | exact Sub.nil _ | refine Sub.cons (by repeat (first | exact List.Mem.head _ | apply List.Mem.tail)) ?_))))
  · rintro ⟨pc, d, D, x, y⟩ ⟨hsa, hcl, hs, hd, hD, hx, hy, hxy⟩
    simp only at hd hD hx hy hxy ⊢
    have hfa := hsa.fits ha
    have hla := hsa.1
    have hsq := sq_of hs hfa
    have hsq3 : Sq a.length 3 a := ⟨rfl, hsq.cols, hfa.mono (by decide)⟩
    have hxl := hsq.getl hx
    have hyl := hsq.getl hy
    have hmem : ∀ r, r ∈ a → r.length ≤ 274877906944 ∧ ∀ x, x ∈ r → x.2.length ≤ 1099511627776 := fun r hr => ⟨by rw [hsq.cols r hr]; omega, fun x hx => by have := (hfa r hr x hx).2; omega⟩
    have hE : Eb 3 a.length ≤ 17179869184 := Nat.le_trans (Eb_mono 3 hla) (by decide)
    have hDs : sz D 15 := by rw [hD]; exact (det_sz a.length (by omega) fun i j _ _ => mx_at hfa i j).mono (show (1 + 1) * a.length + 1 ≤ 15 by omega)
    have hmulR : Fit 3 ((rowMul c (a.getD x [])).map cn) := Fit_cn fun z hz => by
      obtain ⟨t, ht, rfl⟩ := List.mem_map.1 hz
      exact (sz.mul (sz_jv hc hcl) (sz_jv (hfa.get x t ht).1 (hfa.get x t ht).2)).mono (by decide)
    have haddR : Fit 3 ((rowAdd c (a.getD x []) (a.getD y [])).map cn) := Fit_cn fun z hz => by
      obtain ⟨t, ht, rfl⟩ := List.mem_map.1 hz
      have h1 := sz_jv ((hfa.get x).get t).1 ((hfa.get x).get t).2
      have h2 := sz.mul (sz_jv hc hcl) (sz_jv ((hfa.get y).get t).1 ((hfa.get y).get t).2)
      have := sz_sub (h1.mono (show 1 ≤ 2 by decide)) h2.neg
      rw [Int.sub_neg] at this
      exact this
    have hlm : ((rowMul c (a.getD x [])).map cn).length = (a.getD x []).length := by rw [List.length_map, rowMul_len]
    have hlad : ((rowAdd c (a.getD x []) (a.getD y [])).map cn).length = (a.getD x []).length := by rw [List.length_map, rowAdd_len]
    have hlt : (a.getD y []).length = (a.getD x []).length := by rw [hxl, hyl]
    have hmg : ∀ j, j < a.length → ((rowMul c (a.getD x [])).map cn).getD j z0 = cn (jv c * jv ((a.getD x []).getD j z0)) := fun j hj => by
      rw [map_cn_get (by rw [rowMul_len]; omega), rowMul_get (by omega)]
    have hag : ∀ j, j < a.length → ((rowAdd c (a.getD x []) (a.getD y [])).map cn).getD j z0 = cn (jv ((a.getD x []).getD j z0) + jv c * jv ((a.getD y []).getD j z0)) := fun j hj => by
      rw [map_cn_get (by rw [rowAdd_len]; omega), rowAdd_get (by omega)]
    generalize hRm : (rowMul c (a.getD x [])).map cn = Rm at *
    generalize hRa : (rowAdd c (a.getD x []) (a.getD y [])).map cn = Ra at *
    refine call_fn (rowsOwnO_meets v a (by omega) hmem) (Seals.refl _ _) (by repeat (first | exact Sub.nil _ | refine Sub.cons (by repeat (first | exact List.Mem.head _ | apply List.Mem.tail)) ?_)) ?_
    rintro u1 _ _ ⟨hu1, vs1, hvs1, rfl, rfl⟩
    refine call_fn (rowsOwnO_meets v a (by omega) hmem) (Seals.refl _ _) (by repeat (first | exact Sub.nil _ | refine Sub.cons (by repeat (first | exact List.Mem.head _ | apply List.Mem.tail)) ?_)) ?_
    rintro u2 _ _ ⟨hu2, vs2, hvs2, rfl, rfl⟩
    refine call_fn (rowsOwnO_meets v a (by omega) hmem) (Seals.refl _ _) (by repeat (first | exact Sub.nil _ | refine Sub.cons (by repeat (first | exact List.Mem.head _ | apply List.Mem.tail)) ?_)) ?_
    rintro u3 _ _ ⟨hu3, vs3, hvs3, rfl, rfl⟩
    refine call_fn (rowsOwnO_meets v a (by omega) hmem) (Seals.refl _ _) (by repeat (first | exact Sub.nil _ | refine Sub.cons (by repeat (first | exact List.Mem.head _ | apply List.Mem.tail)) ?_)) ?_
    rintro u4 _ _ ⟨hu4, vs4, hvs4, rfl, rfl⟩
    refine index_elem 7 rfl hu1 x rfl hx ?_
    refine load_one_elem 7 rfl x hx (u := vs1 x) rfl ?_
    refine index_elem 7 rfl hu1 y rfl hy ?_
    refine load_one_elem 7 rfl y hy (u := vs1 y) rfl ?_
    refine index_elem 7 rfl hu1 x rfl hx ?_
    refine store_elem (d := .one (vs1 y)) 7 rfl x hx rfl (by kernel_rfl) (Reads.one (hvs1 y hy).one) ?_
    refine index_elem 7 rfl hu1 y rfl hy ?_
    refine store_elem (d := .one (vs1 x)) 7 rfl y hy rfl (by kernel_rfl) (Reads.one (hvs1 x hx).one) ?_
    obtain ⟨vs5, hv5⟩ : ∃ vs5 : Nat → Value, ∀ i, vs5 i = vs1 (ex y x i) := ⟨_, fun _ => rfl⟩
    have hvs5 : ∀ i, i < a.length → isSl (vs5 i) := fun i hi => by rw [hv5]; exact hvs1 _ (ex_lt hy hx hi)
    refine loop_rule (X := Nat) (fun j => ([(0, v), (7, pc), (9, .bool true), (10, d), (12, .int .i64 (x : Nat)), (13, .int .i64 (y : Nat)), (14, u1), (15, u2), (16, u3), (17, u4), (19, .int .i64 (j : Nat))],
      [famR vs4 (part a x (a.getD y []) j), outer u4 a.length vs4, famR vs3 (part a x Ra j), outer u3 a.length vs3, famR vs2 (part a x Rm j), outer u2 a.length vs2, famR vs5 (rowSwap a y x), outer u1 a.length vs5, own1 d 2 1 (fun _ => zd D)],
      [(pc, .ptr (J c)), (v, W a)])) (fun j => j ≤ a.length) (fun j => a.length - j) rfl ?_ ?_
    · refine again 0 (Nat.zero_le _) trivial (by repeat (first | exact trivial | refine ⟨rfl, ?_⟩ | refine ⟨i64_eq (by first | omega | (simp only; omega)), ?_⟩ | refine ⟨u64_eq (by first | omega | (simp only; omega)), ?_⟩)) ?_
      simp only [part_zero _ hx]
      exact Seals.trans (Seals.own_cong (os := [_, _, _, _, _, _, _, _, _]) 7 (fun i => .one (vs5 i)) rfl rfl fun i _ => by rw [outer_ex hxy, hv5]) (Seals.trans (Seals.swapR (os := [_, _, _, _, _, _, _, _, _]) (vs' := vs5) (x := y) (y := x) 6 rfl rfl hy hx hv5) (Seals.sub (by repeat (first | exact Sub.nil _ | refine Sub.cons (by repeat (first | exact List.Mem.head _ | apply List.Mem.tail)) ?_))))
    · rintro j hj1
      refine len_fact (by repeat (first | exact List.Mem.head _ | apply List.Mem.tail)) fun _ => ?_
      refine cmp_split _ rfl (fun hj => ?_) (fun hj => ?_)
      · have hjl : j < a.length := by omega
        have hxj := (hfa.get x).get j
        have hyj := (hfa.get y).get j
        have hm := hmg j hjl
        have hm2 := hag j hjl
        refine draw_rule [0, 1, 2, 3, 4, 5, 6, 7, 8, 9, 10, 11, 12, 13, 14, 15] [0, 1, 2, 3, 4, 5, 6, 7, 8, 9, 10, 11, 12, 13, 14, 15] (by kernel_rfl) (by kernel_rfl) ?_
        refine index_elem 5 rfl hu2 x rfl hx ?_
        refine load_one_elem 5 rfl x hx (u := vs2 x) rfl ?_
        refine load_fact (d := J c) (by repeat (first | exact List.Mem.head _ | apply List.Mem.tail)) (load_J _) fun y1 => ?_
        refine index_fact (n := a.length) (by repeat (first | exact List.Mem.head _ | apply List.Mem.tail)) x rfl hx fun p1 => ?_
        refine load_fact (d := V (a.getD x [])) (by repeat (first | exact List.Mem.head _ | apply List.Mem.tail)) (load_V _) fun r1 => ?_
        refine index_fact (n := (a.getD x []).length) (by repeat (first | exact List.Mem.head _ | apply List.Mem.tail)) j rfl (by omega) fun p2 => ?_
        refine load_fact (d := J ((a.getD x []).getD j z0)) (by repeat (first | exact List.Mem.head _ | apply List.Mem.tail)) (load_J _) fun y2 => ?_
        refine call_fn (rMulJ y1 y2 c ((a.getD x []).getD j z0) hc (by omega) hxj.1 (by omega)) (Seals.refl _ _) (by repeat (first | exact Sub.nil _ | refine Sub.cons (by repeat (first | exact List.Mem.head _ | apply List.Mem.tail)) ?_)) ?_
        rintro y3 _ _ ⟨rfl, rfl⟩
        refine index_famR 4 x rfl (by rw [part_len]; exact hx) (hvs2 x hx) j rfl (by rw [part_row hx hlm]; omega) ?_
        refine store_R 4 x j rfl (by rw [part_len]; exact hx) (by rw [part_row hx hlm]; omega) (Rm.getD j z0) (by rw [hm]; exact Reads.fact (by repeat (first | exact List.Mem.head _ | apply List.Mem.tail))) ?_
        rw [part_step hx hlm (by omega)]
        refine draw_rule [0, 1, 2, 3, 4, 5, 6, 7, 8, 9, 10, 11, 12, 13, 14, 15, 16, 17, 18, 19, 20, 21, 22, 23] [0, 1, 2, 3, 4, 5, 6, 7, 8, 9, 10, 11, 12, 13, 14, 15, 16, 17, 18, 19, 20, 21, 22, 23] (by kernel_rfl) (by kernel_rfl) ?_
        refine index_elem 3 rfl hu3 x rfl hx ?_
        refine load_one_elem 3 rfl x hx (u := vs3 x) rfl ?_
        refine index_fact (n := a.length) (by repeat (first | exact List.Mem.head _ | apply List.Mem.tail)) x rfl hx fun p3 => ?_
        refine load_fact (d := V (a.getD x [])) (by repeat (first | exact List.Mem.head _ | apply List.Mem.tail)) (load_V _) fun r2 => ?_
        refine index_fact (n := (a.getD x []).length) (by repeat (first | exact List.Mem.head _ | apply List.Mem.tail)) j rfl (by omega) fun p4 => ?_
        refine load_fact (d := J ((a.getD x []).getD j z0)) (by repeat (first | exact List.Mem.head _ | apply List.Mem.tail)) (load_J _) fun y4 => ?_
        refine load_fact (d := J c) (by repeat (first | exact List.Mem.head _ | apply List.Mem.tail)) (load_J _) fun y5 => ?_
        refine index_fact (n := a.length) (by repeat (first | exact List.Mem.head _ | apply List.Mem.tail)) y rfl hy fun p5 => ?_
        refine load_fact (d := V (a.getD y [])) (by repeat (first | exact List.Mem.head _ | apply List.Mem.tail)) (load_V _) fun r3 => ?_
        refine index_fact (n := (a.getD y []).length) (by repeat (first | exact List.Mem.head _ | apply List.Mem.tail)) j rfl (by omega) fun p6 => ?_
        refine load_fact (d := J ((a.getD y []).getD j z0)) (by repeat (first | exact List.Mem.head _ | apply List.Mem.tail)) (load_J _) fun y6 => ?_
        refine call_fn (rMulJ y5 y6 c ((a.getD y []).getD j z0) hc (by omega) hyj.1 (by omega)) (Seals.refl _ _) (by repeat (first | exact Sub.nil _ | refine Sub.cons (by repeat (first | exact List.Mem.head _ | apply List.Mem.tail)) ?_)) ?_
        rintro y7 _ _ ⟨rfl, rfl⟩
        refine call_fn (rAddJZ y4 y7 ((a.getD x []).getD j z0) (jv c * jv ((a.getD y []).getD j z0)) 2 hxj.1 (by omega) (sz.mul (sz_jv hc hcl) (sz_jv hyj.1 hyj.2)) (by decide)) (Seals.refl _ _) (by repeat (first | exact Sub.nil _ | refine Sub.cons (by repeat (first | exact List.Mem.head _ | apply List.Mem.tail)) ?_)) ?_
        rintro y8 _ _ ⟨rfl, rfl⟩
        refine index_famR 2 x rfl (by rw [part_len]; exact hx) (hvs3 x hx) j rfl (by rw [part_row hx hlad]; omega) ?_
        refine store_R 2 x j rfl (by rw [part_len]; exact hx) (by rw [part_row hx hlad]; omega) (Ra.getD j z0) (by rw [hm2]; exact Reads.fact (by repeat (first | exact List.Mem.head _ | apply List.Mem.tail))) ?_
        rw [part_step hx hlad (by omega)]
        have hyget : (part a x (a.getD y []) j).getD y [] = a.getD y [] := by unfold part; rw [rowSet_get _ hx, if_neg (Ne.symm hxy)]
        refine draw_rule [0, 1, 2, 3, 4, 5, 6, 7, 8, 9, 10, 11, 12, 13] [0, 1, 2, 3, 4, 5, 6, 7, 8, 9, 10, 11, 12, 13] (by kernel_rfl) (by kernel_rfl) ?_
        refine index_elem 1 rfl hu4 x rfl hx ?_
        refine load_one_elem 1 rfl x hx (u := vs4 x) rfl ?_
        refine index_elem 1 rfl hu4 y rfl hy ?_
        refine load_one_elem 1 rfl y hy (u := vs4 y) rfl ?_
        refine index_famR 0 y rfl (by rw [part_len]; exact hy) (hvs4 y hy) j rfl (by rw [hyget]; omega) ?_
        refine load_famR 0 y j rfl (by rw [part_len]; exact hy) (by rw [hyget]; omega) ((a.getD y []).getD j z0) (by rw [hyget]) fun y9 => ?_
        refine index_famR 0 x rfl (by rw [part_len]; exact hx) (hvs4 x hx) j rfl (by rw [part_row hx hlt]; omega) ?_
        refine store_R 0 x j rfl (by rw [part_len]; exact hx) (by rw [part_row hx hlt]; omega) ((a.getD y []).getD j z0) (Reads.fact (by repeat (first | exact List.Mem.head _ | apply List.Mem.tail))) ?_
        rw [part_step hx hlt (by omega)]
        refine ar rfl (by first | exact ⟨by omega, by omega⟩ | (simp only [inK]; omega)) ?_
        exact again (j + 1) (by omega) (by simp only; omega) (by repeat (first | exact trivial | refine ⟨rfl, ?_⟩ | refine ⟨i64_eq (by first | omega | (simp only; omega)), ?_⟩ | refine ⟨u64_eq (by first | omega | (simp only; omega)), ?_⟩)) (Seals.sub (by repeat (first | exact Sub.nil _ | refine Sub.cons (by repeat (first | exact List.Mem.head _ | apply List.Mem.tail)) ?_)))
      · have hjl : j = a.length := by omega
        have e1 : part a x (a.getD y []) j = rowSet a x (a.getD y []) := part_all hlt (by omega)
        have e2 : part a x Ra j = rowSet a x Ra := part_all hlad (by omega)
        have e3 : part a x Rm j = rowSet a x Rm := part_all hlm (by omega)
        rw [e1, e2, e3]
        have q1 : Sq a.length 3 (rowSwap a y x) := rowSwap_sq hsq3 hy hx
        have q2 : Sq a.length 3 (rowSet a x Rm) := rowSet_sq hsq3 (by rw [hlm, hxl]) hmulR
        have q3 : Sq a.length 3 (rowSet a x Ra) := rowSet_sq hsq3 (by rw [hlad, hxl]) haddR
        have q4 : Sq a.length 3 (rowSet a x (a.getD y [])) := rowSet_sq hsq3 hyl (hsq3.fits.get y)
        have d1 : det a.length (mx (ww (rowSwap a y x))) = -D := by rw [hD]; exact det_swapped hy hx (Ne.symm hxy) rfl
        have d2 : det a.length (mx (ww (rowSet a x Rm))) = jv c * D := by rw [hD, ← hRm]; exact det_scaled hx rfl hxl
        have d3 : det a.length (mx (ww (rowSet a x Ra))) = D := by rw [hD, ← hRa]; exact det_added hx hy hxy rfl hxl hyl
        have d4 : det a.length (mx (ww (rowSet a x (a.getD y [])))) = 0 := det_twice hx hy hxy rfl
        refine call_fn (mDetSq u1 (rowSwap a y x) a.length 3 q1 (by omega) (by omega) hE (-D) d1)
          (Seals.trans (Seals.madeR' (m := rowSet a x (a.getD y [])) (rowSet_len _ _ _) hu4 hvs4) (Seals.trans (Seals.madeR' (m := rowSet a x Ra) (rowSet_len _ _ _) hu3 hvs3) (Seals.trans (Seals.madeR' (m := rowSet a x Rm) (rowSet_len _ _ _) hu2 hvs2) (Seals.madeR' (m := rowSwap a y x) (rowSwap_len _ _ _) hu1 hvs5)))) (by repeat (first | exact Sub.nil _ | refine Sub.cons (by repeat (first | exact List.Mem.head _ | apply List.Mem.tail)) ?_)) ?_
        rintro _ _ _ ⟨rfl, z1, rfl, rfl⟩
        refine alloc_rule (d := I false []) fun b1 hb1 => ?_
        refine store_box (d := zd (-D)) 0 rfl hb1 rfl (by kernel_rfl) ?_ ?_; exact Reads.fact (by repeat (first | exact List.Mem.head _ | apply List.Mem.tail))
        refine call_fn (mDetSq u2 (rowSet a x Rm) a.length 3 q2 (by omega) (by omega) hE (jv c * D) d2) (Seals.refl _ _) (by repeat (first | exact Sub.nil _ | refine Sub.cons (by repeat (first | exact List.Mem.head _ | apply List.Mem.tail)) ?_)) ?_
        rintro _ _ _ ⟨rfl, z2, rfl, rfl⟩
        refine alloc_rule (d := I false []) fun b2 hb2 => ?_
        refine store_box (d := zd (jv c * D)) 0 rfl hb2 rfl (by kernel_rfl) ?_ ?_; exact Reads.fact (by repeat (first | exact List.Mem.head _ | apply List.Mem.tail))
        refine call_fn (mDetSq u3 (rowSet a x Ra) a.length 3 q3 (by omega) (by omega) hE D d3) (Seals.refl _ _) (by repeat (first | exact Sub.nil _ | refine Sub.cons (by repeat (first | exact List.Mem.head _ | apply List.Mem.tail)) ?_)) ?_
        rintro _ _ _ ⟨rfl, z3, rfl, rfl⟩
        refine alloc_rule (d := I false []) fun b3 hb3 => ?_
        refine store_box (d := zd D) 0 rfl hb3 rfl (by kernel_rfl) ?_ ?_; exact Reads.fact (by repeat (first | exact List.Mem.head _ | apply List.Mem.tail))
        refine call_fn (mDetSq u4 (rowSet a x (a.getD y [])) a.length 3 q4 (by omega) (by omega) hE 0 d4) (Seals.refl _ _) (by repeat (first | exact Sub.nil _ | refine Sub.cons (by repeat (first | exact List.Mem.head _ | apply List.Mem.tail)) ?_)) ?_
        rintro _ _ _ ⟨rfl, z4, rfl, rfl⟩
        refine alloc_rule (d := I false []) fun b4 hb4 => ?_
        refine store_box (d := zd 0) 0 rfl hb4 rfl (by kernel_rfl) ?_ ?_; exact Reads.fact (by repeat (first | exact List.Mem.head _ | apply List.Mem.tail))
        refine draw_rule [0, 1, 2, 3, 4, 5, 6, 7, 8, 9, 10, 11, 12, 13, 14, 15, 16, 17, 18, 19, 20, 21, 22, 23, 24] [0, 1, 2, 3, 4, 5, 6, 7, 8, 9, 10, 11, 12, 13, 14, 15, 16, 17, 18, 19, 20, 21, 22, 23, 24] (by kernel_rfl) (by kernel_rfl) ?_
        refine load_box (d := zd (-D)) 3 rfl hb1 rfl (load_I _ _) fun y1 => ?_
        refine load_box (d := zd D) 4 rfl hd rfl (load_I _ _) fun y2 => ?_
        refine call_fn (rNegZ y2 D 15 hDs (by decide)) (Seals.refl _ _) (by repeat (first | exact Sub.nil _ | refine Sub.cons (by repeat (first | exact List.Mem.head _ | apply List.Mem.tail)) ?_)) ?_
        rintro y3 _ _ ⟨rfl, rfl⟩
        refine call_fn (exactW y1 y3 (-D) (-D)) (Seals.refl _ _) (by repeat (first | exact Sub.nil _ | refine Sub.cons (by repeat (first | exact List.Mem.head _ | apply List.Mem.tail)) ?_)) ?_
        rintro _ _ _ ⟨rfl, rfl, rfl⟩
        rw [decide_eq_true rfl]
        refine load_box (d := zd (jv c * D)) 2 rfl hb2 rfl (load_I _ _) fun y4 => ?_
        refine load_fact (d := J c) (by repeat (first | exact List.Mem.head _ | apply List.Mem.tail)) (load_J _) fun y5 => ?_
        refine load_box (d := zd D) 4 rfl hd rfl (load_I _ _) fun y6 => ?_
        refine call_fn (rMulZ y5 y6 c D 15 hc (by omega) hDs (by decide)) (Seals.refl _ _) (by repeat (first | exact Sub.nil _ | refine Sub.cons (by repeat (first | exact List.Mem.head _ | apply List.Mem.tail)) ?_)) ?_
        rintro y7 _ _ ⟨rfl, rfl⟩
        refine call_fn (exactW y4 y7 (jv c * D) (jv c * D)) (Seals.refl _ _) (by repeat (first | exact Sub.nil _ | refine Sub.cons (by repeat (first | exact List.Mem.head _ | apply List.Mem.tail)) ?_)) ?_
        rintro _ _ _ ⟨rfl, rfl, rfl⟩
        rw [decide_eq_true rfl]
        refine load_box (d := zd D) 1 rfl hb3 rfl (load_I _ _) fun y8 => ?_
        refine load_box (d := zd D) 4 rfl hd rfl (load_I _ _) fun y9 => ?_
        refine call_fn (exactW y8 y9 D D) (Seals.refl _ _) (by repeat (first | exact Sub.nil _ | refine Sub.cons (by repeat (first | exact List.Mem.head _ | apply List.Mem.tail)) ?_)) ?_
        rintro _ _ _ ⟨rfl, rfl, rfl⟩
        rw [decide_eq_true rfl]
        refine load_box (d := zd 0) 0 rfl hb4 rfl (load_I _ _) fun y10 => ?_
        refine call_fn (rSignZ y10 0 0 (sz_zero _) (by decide)) (Seals.refl _ _) (by repeat (first | exact Sub.nil _ | refine Sub.cons (by repeat (first | exact List.Mem.head _ | apply List.Mem.tail)) ?_)) ?_
        rintro _ _ _ ⟨rfl, rfl, rfl⟩
        refine cmp_true rfl rfl ?_
        exact fin ⟨rfl, rfl, rfl⟩ (Seals.trans (Seals.drop 0 _ _) (Seals.trans (Seals.drop 0 _ _) (Seals.trans (Seals.drop 0 _ _) (Seals.trans (Seals.drop 0 _ _) (Seals.trans (Seals.drop 0 _ _) (Seals.nil _ _))))))

end Go.Proofs.Ytajkjlgddmkkaaa

namespace Go.Proofs.Ytajkjlgddmkkaaa
open Go.RowKit

/-- A matrix that is told, as rows. -/
abbrev toR (m : List (List Int)) : List Row := m.map (·.map cn)

theorem ext_getD {α : Type} {l m : List α} (z : α) (hl : l.length = m.length) (h : ∀ i, i < l.length → l.getD i z = m.getD i z) : l = m := row_eq_of_getD z hl h

theorem range_get {C j : Nat} (g : Nat → Int) (h : j < C) : ((List.range C).map fun k => g k).getD j 0 = g j := by
  simp [List.getD_eq_getElem?_getD, h]

theorem ww_matL {a : List Row} (h : right a) : ww a = matL a.length (a.getD 0 []).length (mx (ww a)) := by
  refine ext_getD [] (by rw [ww_len, matL_len]) fun i hi => ?_
  rw [ww_len] at hi
  rw [matL_row _ hi, ww_get]
  refine ext_getD 0 (by rw [vv_len, (h.get hi).2]; simp) fun j hj => ?_
  rw [vv_len, (h.get hi).2] at hj
  rw [range_get _ hj]
  unfold mx
  rw [ww_get]

theorem matL_right {R C : Nat} (x : Mx) (hR : 0 < R) (hC : 0 < C) : right (toR (matL R C x)) := by
  have hl : (toR (matL R C x)).length = R := by rw [List.length_map, matL_len]
  have hr : ∀ r, r ∈ toR (matL R C x) → r.length = C := fun r hr => by
    obtain ⟨r', h1, rfl⟩ := List.mem_map.1 hr
    obtain ⟨i, _, rfl⟩ := List.mem_map.1 h1
    simp
  have h0 := hr _ (getD_mem (i := 0) [] (by omega))
  exact ⟨by omega, fun r h => by rw [hr r h, h0]; exact ⟨hC, rfl⟩⟩

theorem matL_cols {R C : Nat} (x : Mx) (hR : 0 < R) : ((toR (matL R C x)).getD 0 []).length = C := by
  rw [get_cn, List.length_map, matL_row x hR]; simp
theorem toR_len (R C : Nat) (x : Mx) : (toR (matL R C x)).length = R := by rw [List.length_map, matL_len]

theorem prod_mats {p q r : Nat} (X Y : Mx) (hq : 0 < q) : prod (matL p q X) (matL q r Y) = matL p r (mm q X Y) := by
  rw [prod_matL, matL_len, matL_len]
  have : ((matL q r Y).getD 0 []).length = r := by rw [matL_row Y hq]; simp
  rw [this]
  exact matL_congr fun i j hi hj => mul_congr (fun k hk => mx_matL X hi hk) (fun k hk => mx_matL Y hk hj)

theorem turn_mat {p q : Nat} (X : Mx) (hp : 0 < p) : turn (matL p q X) = matL q p (tp X) := by
  unfold turn
  have : ((matL p q X).getD 0 []).length = q := by rw [matL_row X hp]; simp
  rw [this, matL_len]
  exact matL_congr (x := fun j i => ((matL p q X).getD i []).getD j 0) fun i j hi hj => matL_at X hj hi

theorem mm_sz {q e f : Nat} {X Y : Mx} {i j : Nat} (hx : ∀ k, k < q → sz (X i k) e) (hy : ∀ k, k < q → sz (Y k j) f) (hq : q < 1048576) : sz (mm q X Y i j) (e + f + 1) :=
  isum_sz (fun k hk => (hx k hk).mul (hy k hk)) (by omega)

theorem mat_fits {R C e : Nat} {x : Mx} (h : ∀ i j, i < R → j < C → sz (x i j) e) : Fits e (toR (matL R C x)) := matL_fits h

/-- The product, where it is one. -/
theorem mulT (v w : Value) (a b : List Row) (p q r e : Nat) (X Y : Mx) (ha : ww a = matL p q X) (hb : ww b = matL q r Y) (hra : right a) (hrb : right b) (fa : Fits e a) (fb : Fits e b) (he : e ≤ 1000) (hp : 0 < p) (hq : 0 < q) (hr : 0 < r) (lp : p ≤ 1000) (lq : q ≤ 1000) (lr : r ≤ 1000) :
    Meets Try.prog 37 [v, w] [(v, W a), (w, W b)] (fun z os fs => os = [] ∧ ∃ u, z = .tuple #[u, .int .i64 0] ∧ fs = [(u, wd (matL p r (mm q X Y)))]) := by
  have la : a.length = p := by rw [← ww_len, ha, matL_len]
  have lb : b.length = q := by rw [← ww_len, hb, matL_len]
  have ca : (a.getD 0 []).length = q := by rw [← vv_len, ← ww_get, ha, matL_row X hp]; simp
  have cb : (b.getD 0 []).length = r := by rw [← vv_len, ← ww_get, hb, matL_row Y hq]; simp
  have hf : fitsProd a b := ⟨hra, hrb, by omega⟩
  have h := mMul_meets v w a b e fa fb (by omega) (by omega) (by omega) (by omega)
  rw [if_pos hf, if_pos hf, ha, hb, prod_mats X Y hq] at h
  exact h

theorem turnT (v : Value) (a : List Row) (p q e : Nat) (X : Mx) (ha : ww a = matL p q X) (hra : right a) (fa : Fits e a) (he : e ≤ 1000) (hp : 0 < p) (lp : p ≤ 1000) (lq : q ≤ 1000) :
    Meets Try.prog 39 [v] [(v, W a)] (fun z os fs => os = [] ∧ ∃ u, z = .tuple #[u, .int .i64 0] ∧ fs = [(u, wd (matL q p (tp X)))]) := by
  have la : a.length = p := by rw [← ww_len, ha, matL_len]
  have ca : (a.getD 0 []).length = q := by rw [← vv_len, ← ww_get, ha, matL_row X hp]; simp
  have h := mTurn_meets v a e fa (by omega) (by omega) (by omega)
  rw [if_pos hra, if_pos hra, ha, turn_mat X hp] at h
  exact h

theorem detT (v : Value) (a : List Row) (p q e : Nat) (X : Mx) (ha : ww a = matL p q X) (hra : right a) (fa : Fits e a) (hp : 0 < p) (lp : p ≤ 1000) (hE : Eb e p ≤ 17179869184) :
    Meets Try.prog 16 [v] [(v, W a)] (fun z os fs => os = [] ∧ ∃ u, z = .tuple #[u, .int .i64 (if p = q then 0 else 1)] ∧ fs = [(u, zd (if p = q then det p X else 0))]) := by
  have la : a.length = p := by rw [← ww_len, ha, matL_len]
  have ca : (a.getD 0 []).length = q := by rw [← vv_len, ← ww_get, ha, matL_row X hp]; simp
  have h := mDet_meets v a e fa (by omega) (by rw [la]; exact hE)
  by_cases hpq : p = q
  · have hs : square a := ⟨hra, by omega⟩
    rw [if_pos hs, if_pos hs, la] at h
    rw [if_pos hpq, if_pos hpq]
    have e1 : det p (mx (ww a)) = det p X := det_congr fun i j hi hj => by rw [ha]; exact mx_matL X hi (by omega)
    rw [e1] at h
    exact h
  · have hs : ¬ square a := fun h => hpq (by have := h.2; omega)
    rw [if_neg hs, if_neg hs] at h
    rw [if_neg hpq, if_neg hpq]
    exact h

theorem rMulZZ (v w : Value) (x y : Int) (e : Nat) (hx : sz x e) (hy : sz y e) (he : e ≤ 137438953472) :
    Meets Try.prog 33 [v, w] [(v, zd x), (w, zd y)] (fun r os fs => os = [] ∧ fs = [(r, zd (x * y))]) := by
  have h := rZMul_meets v w (decide (x < 0)) (decide (y < 0)) (lims x.natAbs) (lims y.natAbs) (Lim_lims _) (Lim_lims _) (Nat.le_trans hx.len he) (Nat.le_trans hy.len he)
  rw [iv_zd, iv_zd] at h
  exact h

theorem products_meets (v w z : Value) (a b c : List Row) (ha : limM a) (hb : limM b) (hc : limM c) :
    Meets Try.prog 10 [v, w, z] [(v, W a), (w, W b), (z, W c)] (fun r os fs => os = [] ∧ fs = [] ∧ r = .bool true) := by
  refine meets_of_vc Try.func10 (by kernel_rfl) rfl (by kernel_rfl) (Nat.le_of_ble_eq_true rfl) ?_
  refine call_fn shown_meets (Seals.refl _ _) (by repeat (first | exact Sub.nil _ | refine Sub.cons (by repeat (first | exact List.Mem.head _ | apply List.Mem.tail)) ?_)) ?_
  rintro _ _ _ ⟨rfl, rfl, rfl⟩
  refine call_fn (rowsFits_meets v a 6 6 1) (Seals.refl _ _) (by repeat (first | exact Sub.nil _ | refine Sub.cons (by repeat (first | exact List.Mem.head _ | apply List.Mem.tail)) ?_)) ?_
  rintro _ _ _ ⟨rfl, rfl, rfl⟩
  by_cases hsa : small 6 6 1 a
  case neg =>
    rw [decide_eq_false hsa]
    exact fin ⟨rfl, rfl, rfl⟩ (Seals.nil _ _)
  rw [decide_eq_true hsa]
  refine call_fn (rowsFits_meets w b 6 6 1) (Seals.refl _ _) (by repeat (first | exact Sub.nil _ | refine Sub.cons (by repeat (first | exact List.Mem.head _ | apply List.Mem.tail)) ?_)) ?_
  rintro _ _ _ ⟨rfl, rfl, rfl⟩
  by_cases hsb : small 6 6 1 b
  case neg =>
    rw [decide_eq_false hsb]
    exact fin ⟨rfl, rfl, rfl⟩ (Seals.nil _ _)
  rw [decide_eq_true hsb]
  refine call_fn (rowsFits_meets z c 6 6 1) (Seals.refl _ _) (by repeat (first | exact Sub.nil _ | refine Sub.cons (by repeat (first | exact List.Mem.head _ | apply List.Mem.tail)) ?_)) ?_
  rintro _ _ _ ⟨rfl, rfl, rfl⟩
  by_cases hsc : small 6 6 1 c
  case neg =>
    rw [decide_eq_false hsc]
    exact fin ⟨rfl, rfl, rfl⟩ (Seals.nil _ _)
  rw [decide_eq_true hsc]
  have hfa := hsa.fits ha
  have hfb := hsb.fits hb
  have hfc := hsc.fits hc
  have hca := hsa.cols
  have hcb := hsb.cols
  have hcc := hsc.cols
  have hla := hsa.1
  have hlb := hsb.1
  have hlc := hsc.1
  by_cases hfp : fitsProd a b
  case neg =>
    refine call_fn (mMul_meets v w a b 1 hfa hfb (by decide) (by omega) (by omega) (by omega)) (Seals.refl _ _) (by repeat (first | exact Sub.nil _ | refine Sub.cons (by repeat (first | exact List.Mem.head _ | apply List.Mem.tail)) ?_)) ?_
    rintro _ _ _ ⟨rfl, m, rfl, rfl⟩
    rw [if_neg hfp, if_neg hfp]
    refine cmp_true rfl (by decide) ?_
    refine cmp_true rfl rfl ?_
    refine len_wd (m := []) (by repeat (first | exact List.Mem.head _ | apply List.Mem.tail)) ?_
    refine cmp_true rfl rfl ?_
    exact fin ⟨rfl, rfl, rfl⟩ (Seals.nil _ _)
  obtain ⟨hra, hrb, hab⟩ := hfp
  have hA := ww_matL hra
  have hB := ww_matL hrb
  have hp : 0 < a.length := hra.1
  have hq : 0 < b.length := hrb.1
  have hr : 0 < (b.getD 0 []).length := (hrb.get hrb.1).1
  rw [← hab] at hA
  have hXs : ∀ i j, i < a.length → j < b.length → sz (mx (ww a) i j) 1 := fun i j _ _ => mx_at hfa i j
  have hYs : ∀ i j, i < b.length → j < (b.getD 0 []).length → sz (mx (ww b) i j) 1 := fun i j _ _ => mx_at hfb i j
  generalize mx (ww a) = X at *
  generalize mx (ww b) = Y at *
  generalize a.length = p at *
  generalize b.length = q at *
  generalize (b.getD 0 []).length = r at *
  have hMs : ∀ i j, i < p → j < r → sz (mm q X Y i j) 3 := fun i j hi hj => mm_sz (e := 1) (f := 1) (fun k hk => hXs i k hi hk) (fun k hk => hYs k j hk hj) (by omega)
  have hTs : ∀ i j, i < q → j < p → sz (tp X i j) 1 := fun i j hi hj => hXs j i hj hi
  have hUs : ∀ i j, i < r → j < q → sz (tp Y i j) 1 := fun i j hi hj => hYs j i hj hi
  refine call_fn (mulT v w a b p q r 1 X Y hA hB hra hrb hfa hfb (by omega) hp hq hr (by omega) (by omega) (by omega)) (Seals.refl _ _) (by repeat (first | exact Sub.nil _ | refine Sub.cons (by repeat (first | exact List.Mem.head _ | apply List.Mem.tail)) ?_)) ?_
  rintro _ _ _ ⟨rfl, m, rfl, rfl⟩
  refine cmp_false rfl (fun h => h rfl) ?_
  refine call_fn (turnT m (toR (matL p r (mm q X Y))) p r 3 (mm q X Y) (ww_cn _) (matL_right _ hp hr) (mat_fits hMs) (by omega) hp (by omega) (by omega)) (Seals.refl _ _) (by repeat (first | exact Sub.nil _ | refine Sub.cons (by repeat (first | exact List.Mem.head _ | apply List.Mem.tail)) ?_)) ?_
  rintro _ _ _ ⟨rfl, x, rfl, rfl⟩
  refine call_fn (turnT v a p q 1 X hA hra hfa (by omega) hp (by omega) (by omega)) (Seals.refl _ _) (by repeat (first | exact Sub.nil _ | refine Sub.cons (by repeat (first | exact List.Mem.head _ | apply List.Mem.tail)) ?_)) ?_
  rintro _ _ _ ⟨rfl, t, rfl, rfl⟩
  refine call_fn (turnT w b q r 1 Y hB hrb hfb (by omega) hq (by omega) (by omega)) (Seals.refl _ _) (by repeat (first | exact Sub.nil _ | refine Sub.cons (by repeat (first | exact List.Mem.head _ | apply List.Mem.tail)) ?_)) ?_
  rintro _ _ _ ⟨rfl, u, rfl, rfl⟩
  refine call_fn (mulT u t (toR (matL r q (tp Y))) (toR (matL q p (tp X))) r q p 1 (tp Y) (tp X) (ww_cn _) (ww_cn _) (matL_right _ hr hq) (matL_right _ hq hp) (mat_fits hUs) (mat_fits hTs) (by omega) hr hq hp (by omega) (by omega) (by omega)) (Seals.refl _ _) (by repeat (first | exact Sub.nil _ | refine Sub.cons (by repeat (first | exact List.Mem.head _ | apply List.Mem.tail)) ?_)) ?_
  rintro _ _ _ ⟨rfl, y, rfl, rfl⟩
  refine cmp_false rfl (fun h => h rfl) ?_
  refine cmp_false rfl (fun h => h rfl) ?_
  refine cmp_false rfl (fun h => h rfl) ?_
  refine cmp_false rfl (fun h => h rfl) ?_
  rw [← mul_tr q X Y]
  refine call_fn (sameW x y (matL r p (tp (mm q X Y))) (matL r p (tp (mm q X Y)))) (Seals.refl _ _) (by repeat (first | exact Sub.nil _ | refine Sub.cons (by repeat (first | exact List.Mem.head _ | apply List.Mem.tail)) ?_)) ?_
  rintro _ _ _ ⟨rfl, rfl, rfl⟩
  rw [decide_eq_true rfl]
  by_cases hfc2 : fitsProd (toR (matL p r (mm q X Y))) c
  · obtain ⟨_, hrc, hmc⟩ := hfc2
    rw [matL_cols _ hp] at hmc
    have hC := ww_matL hrc
    have hs0 : 0 < (c.getD 0 []).length := (hrc.get hrc.1).1
    rw [hmc] at hC
    have hZs : ∀ i j, i < r → j < (c.getD 0 []).length → sz (mx (ww c) i j) 1 := fun i j _ _ => mx_at hfc i j
    generalize mx (ww c) = Z at *
    generalize (c.getD 0 []).length = s at *
    have hNs : ∀ i j, i < q → j < s → sz (mm r Y Z i j) 3 := fun i j hi hj => mm_sz (e := 1) (f := 1) (fun k hk => hYs i k hi hk) (fun k hk => hZs k j hk hj) (by omega)
    refine call_fn (mulT m z (toR (matL p r (mm q X Y))) c p r s 3 (mm q X Y) Z (ww_cn _) hC (matL_right _ hp hr) hrc (mat_fits hMs) (hfc.mono (by decide)) (by omega) hp hr hs0 (by omega) (by omega) (by omega)) (Seals.refl _ _) (by repeat (first | exact Sub.nil _ | refine Sub.cons (by repeat (first | exact List.Mem.head _ | apply List.Mem.tail)) ?_)) ?_
    rintro _ _ _ ⟨rfl, n, rfl, rfl⟩
    refine cmp_true rfl rfl ?_
    refine call_fn (mulT w z b c q r s 1 Y Z hB hC hrb hrc hfb hfc (by omega) hq hr hs0 (by omega) (by omega) (by omega)) (Seals.refl _ _) (by repeat (first | exact Sub.nil _ | refine Sub.cons (by repeat (first | exact List.Mem.head _ | apply List.Mem.tail)) ?_)) ?_
    rintro _ _ _ ⟨rfl, o, rfl, rfl⟩
    refine call_fn (mulT v o a (toR (matL q s (mm r Y Z))) p q s 3 X (mm r Y Z) hA (ww_cn _) hra (matL_right _ hq hs0) (hfa.mono (by decide)) (mat_fits hNs) (by omega) hp hq hs0 (by omega) (by omega) (by omega)) (Seals.refl _ _) (by repeat (first | exact Sub.nil _ | refine Sub.cons (by repeat (first | exact List.Mem.head _ | apply List.Mem.tail)) ?_)) ?_
    rintro _ _ _ ⟨rfl, ow, rfl, rfl⟩
    refine cmp_false rfl (fun h => h rfl) ?_
    have e : matL p s (mm q X (mm r Y Z)) = matL p s (mm r (mm q X Y) Z) := matL_congr fun i j _ _ => (mul_assoc q r X Y Z i j).symm
    rw [e]
    refine call_fn (sameW n ow (matL p s (mm r (mm q X Y) Z)) (matL p s (mm r (mm q X Y) Z))) (Seals.refl _ _) (by repeat (first | exact Sub.nil _ | refine Sub.cons (by repeat (first | exact List.Mem.head _ | apply List.Mem.tail)) ?_)) ?_
    rintro _ _ _ ⟨rfl, rfl, rfl⟩
    rw [decide_eq_true rfl]
    refine call_fn (detT m (toR (matL p r (mm q X Y))) p r 3 (mm q X Y) (ww_cn _) (matL_right _ hp hr) (mat_fits hMs) hp (by omega) (Nat.le_trans (Eb_mono 3 (show p ≤ 6 by omega)) (by decide))) (Seals.refl _ _) (by repeat (first | exact Sub.nil _ | refine Sub.cons (by repeat (first | exact List.Mem.head _ | apply List.Mem.tail)) ?_)) ?_
    rintro _ _ _ ⟨rfl, q1, rfl, rfl⟩
    refine alloc_rule (d := I false []) fun bd hbd => ?_
    refine store_box (d := zd (if p = r then det p (mm q X Y) else 0)) 0 rfl hbd rfl (by kernel_rfl) ?_ ?_; exact Reads.fact (by repeat (first | exact List.Mem.head _ | apply List.Mem.tail))
    refine call_fn (detT v a p q 1 X hA hra hfa hp (by omega) (Nat.le_trans (Eb_mono 1 (show p ≤ 6 by omega)) (by decide))) (Seals.refl _ _) (by repeat (first | exact Sub.nil _ | refine Sub.cons (by repeat (first | exact List.Mem.head _ | apply List.Mem.tail)) ?_)) ?_
    rintro _ _ _ ⟨rfl, q2, rfl, rfl⟩
    refine alloc_rule (d := I false []) fun bv hbv => ?_
    refine store_box (d := zd (if p = q then det p X else 0)) 0 rfl hbv rfl (by kernel_rfl) ?_ ?_; exact Reads.fact (by repeat (first | exact List.Mem.head _ | apply List.Mem.tail))
    refine call_fn (detT w b q r 1 Y hB hrb hfb hq (by omega) (Nat.le_trans (Eb_mono 1 (show q ≤ 6 by omega)) (by decide))) (Seals.refl _ _) (by repeat (first | exact Sub.nil _ | refine Sub.cons (by repeat (first | exact List.Mem.head _ | apply List.Mem.tail)) ?_)) ?_
    rintro _ _ _ ⟨rfl, q3, rfl, rfl⟩
    refine alloc_rule (d := I false []) fun bw hbw => ?_
    refine store_box (d := zd (if q = r then det q Y else 0)) 0 rfl hbw rfl (by kernel_rfl) ?_ ?_; exact Reads.fact (by repeat (first | exact List.Mem.head _ | apply List.Mem.tail))
    by_cases hpq : p = q
    case neg =>
      rw [if_neg hpq, if_neg hpq]
      refine cmp_true rfl (by decide) ?_
      by_cases hpr : p = r
      · rw [if_pos hpr, if_pos hpr]
        refine cmp_true rfl rfl ?_
        refine len_wd (m := matL p r (mm q X Y)) (by repeat (first | exact List.Mem.head _ | apply List.Mem.tail)) ?_
        refine index_wd (m := matL p r (mm q X Y)) (by repeat (first | exact List.Mem.head _ | apply List.Mem.tail)) 0 rfl (by rw [matL_len]; exact hp) fun i1 => ?_
        refine load_fact (d := vd ((matL p r (mm q X Y)).getD 0 [])) (by repeat (first | exact List.Mem.head _ | apply List.Mem.tail)) (load_V _) fun i2 => ?_
        refine len_vd (l := (matL p r (mm q X Y)).getD 0 []) (by repeat (first | exact List.Mem.head _ | apply List.Mem.tail)) ?_
        refine cmp_true rfl (by rw [matL_len, matL_row _ hp]; simp [hpr]) ?_
        refine beq_split (fun _ => ?_) (fun h => absurd rfl h)
        exact fin ⟨rfl, rfl, rfl⟩ (Seals.trans (Seals.drop 0 _ _) (Seals.trans (Seals.drop 0 _ _) (Seals.trans (Seals.drop 0 _ _) (Seals.nil _ _))))
      · rw [if_neg hpr, if_neg hpr]
        refine cmp_false rfl (by decide) ?_
        refine len_wd (m := matL p r (mm q X Y)) (by repeat (first | exact List.Mem.head _ | apply List.Mem.tail)) ?_
        refine index_wd (m := matL p r (mm q X Y)) (by repeat (first | exact List.Mem.head _ | apply List.Mem.tail)) 0 rfl (by rw [matL_len]; exact hp) fun i1 => ?_
        refine load_fact (d := vd ((matL p r (mm q X Y)).getD 0 [])) (by repeat (first | exact List.Mem.head _ | apply List.Mem.tail)) (load_V _) fun i2 => ?_
        refine len_vd (l := (matL p r (mm q X Y)).getD 0 []) (by repeat (first | exact List.Mem.head _ | apply List.Mem.tail)) ?_
        refine cmp_false rfl (by rw [matL_len, matL_row _ hp]; simp; omega) ?_
        refine beq_split (fun _ => ?_) (fun h => absurd rfl h)
        exact fin ⟨rfl, rfl, rfl⟩ (Seals.trans (Seals.drop 0 _ _) (Seals.trans (Seals.drop 0 _ _) (Seals.trans (Seals.drop 0 _ _) (Seals.nil _ _))))
    rw [if_pos hpq, if_pos hpq]
    refine cmp_false rfl (by decide) ?_
    by_cases hqr : q = r
    case neg =>
      rw [if_neg hqr, if_neg hqr]
      refine cmp_true rfl (by decide) ?_
      by_cases hpr : p = r
      · rw [if_pos hpr, if_pos hpr]
        refine cmp_true rfl rfl ?_
        refine len_wd (m := matL p r (mm q X Y)) (by repeat (first | exact List.Mem.head _ | apply List.Mem.tail)) ?_
        refine index_wd (m := matL p r (mm q X Y)) (by repeat (first | exact List.Mem.head _ | apply List.Mem.tail)) 0 rfl (by rw [matL_len]; exact hp) fun i1 => ?_
        refine load_fact (d := vd ((matL p r (mm q X Y)).getD 0 [])) (by repeat (first | exact List.Mem.head _ | apply List.Mem.tail)) (load_V _) fun i2 => ?_
        refine len_vd (l := (matL p r (mm q X Y)).getD 0 []) (by repeat (first | exact List.Mem.head _ | apply List.Mem.tail)) ?_
        refine cmp_true rfl (by rw [matL_len, matL_row _ hp]; simp [hpr]) ?_
        refine beq_split (fun _ => ?_) (fun h => absurd rfl h)
        exact fin ⟨rfl, rfl, rfl⟩ (Seals.trans (Seals.drop 0 _ _) (Seals.trans (Seals.drop 0 _ _) (Seals.trans (Seals.drop 0 _ _) (Seals.nil _ _))))
      · rw [if_neg hpr, if_neg hpr]
        refine cmp_false rfl (by decide) ?_
        refine len_wd (m := matL p r (mm q X Y)) (by repeat (first | exact List.Mem.head _ | apply List.Mem.tail)) ?_
        refine index_wd (m := matL p r (mm q X Y)) (by repeat (first | exact List.Mem.head _ | apply List.Mem.tail)) 0 rfl (by rw [matL_len]; exact hp) fun i1 => ?_
        refine load_fact (d := vd ((matL p r (mm q X Y)).getD 0 [])) (by repeat (first | exact List.Mem.head _ | apply List.Mem.tail)) (load_V _) fun i2 => ?_
        refine len_vd (l := (matL p r (mm q X Y)).getD 0 []) (by repeat (first | exact List.Mem.head _ | apply List.Mem.tail)) ?_
        refine cmp_false rfl (by rw [matL_len, matL_row _ hp]; simp; omega) ?_
        refine beq_split (fun _ => ?_) (fun h => absurd rfl h)
        exact fin ⟨rfl, rfl, rfl⟩ (Seals.trans (Seals.drop 0 _ _) (Seals.trans (Seals.drop 0 _ _) (Seals.trans (Seals.drop 0 _ _) (Seals.nil _ _))))
    rw [if_pos hqr, if_pos hqr, if_pos (show p = r by omega), if_pos (show p = r by omega)]
    refine cmp_false rfl (by decide) ?_
    refine call_fn (detT t (toR (matL q p (tp X))) q p 1 (tp X) (ww_cn _) (matL_right _ hq hp) (mat_fits hTs) hq (by omega) (Nat.le_trans (Eb_mono 1 (show q ≤ 6 by omega)) (by decide))) (Seals.refl _ _) (by repeat (first | exact Sub.nil _ | refine Sub.cons (by repeat (first | exact List.Mem.head _ | apply List.Mem.tail)) ?_)) ?_
    rintro _ _ _ ⟨rfl, q4, rfl, rfl⟩
    rw [if_pos hpq.symm, if_pos hpq.symm]
    refine alloc_rule (d := I false []) fun bz hbz => ?_
    refine store_box (d := zd (det q (tp X))) 0 rfl hbz rfl (by kernel_rfl) ?_ ?_; exact Reads.fact (by repeat (first | exact List.Mem.head _ | apply List.Mem.tail))
    have e1 : det p (mm q X Y) = det p X * det q Y := by rw [← hpq, det_mul]
    have e2 : det q (tp X) = det p X := by rw [← hpq, det_tr]
    have s1 : sz (det p X) 13 := (det_sz p (by omega) fun i j hi hj => hXs i j hi (by omega)).mono (by omega)
    have s2 : sz (det q Y) 13 := (det_sz q (by omega) fun i j hi hj => hYs i j hi (by omega)).mono (by omega)
    rw [e1, e2]
    generalize det p X = D1 at *
    generalize det q Y = D2 at *
    refine draw_rule [0, 1, 2, 3, 4, 5, 6, 7, 8, 9, 10, 11, 12, 13, 14, 15, 16, 17, 18, 19, 20, 21] [0, 1, 2, 3, 4, 5, 6, 7, 8, 9, 10, 11, 12, 13, 14, 15, 16, 17, 18, 19, 20, 21] (by kernel_rfl) (by kernel_rfl) ?_
    refine cmp_true rfl rfl ?_
    refine cmp_true rfl rfl ?_
    refine load_box (d := zd (D1 * D2)) 3 rfl hbd rfl (load_I _ _) fun y1 => ?_
    refine load_box (d := zd D1) 2 rfl hbv rfl (load_I _ _) fun y2 => ?_
    refine load_box (d := zd D2) 1 rfl hbw rfl (load_I _ _) fun y3 => ?_
    refine call_fn (rMulZZ y2 y3 D1 D2 13 s1 s2 (by decide)) (Seals.refl _ _) (by repeat (first | exact Sub.nil _ | refine Sub.cons (by repeat (first | exact List.Mem.head _ | apply List.Mem.tail)) ?_)) ?_
    rintro y4 _ _ ⟨rfl, rfl⟩
    refine call_fn (exactW y1 y4 (D1 * D2) (D1 * D2)) (Seals.refl _ _) (by repeat (first | exact Sub.nil _ | refine Sub.cons (by repeat (first | exact List.Mem.head _ | apply List.Mem.tail)) ?_)) ?_
    rintro _ _ _ ⟨rfl, rfl, rfl⟩
    rw [decide_eq_true rfl]
    refine load_box (d := zd D1) 0 rfl hbz rfl (load_I _ _) fun y5 => ?_
    refine load_box (d := zd D1) 2 rfl hbv rfl (load_I _ _) fun y6 => ?_
    refine call_fn (exactW y5 y6 D1 D1) (Seals.refl _ _) (by repeat (first | exact Sub.nil _ | refine Sub.cons (by repeat (first | exact List.Mem.head _ | apply List.Mem.tail)) ?_)) ?_
    rintro _ _ _ ⟨rfl, rfl, rfl⟩
    rw [decide_eq_true rfl]
    exact fin ⟨rfl, rfl, rfl⟩ (Seals.trans (Seals.drop 0 _ _) (Seals.trans (Seals.drop 0 _ _) (Seals.trans (Seals.drop 0 _ _) (Seals.trans (Seals.drop 0 _ _) (Seals.nil _ _)))))
  · refine call_fn (mMul_meets m z (toR (matL p r (mm q X Y))) c 3 (mat_fits hMs) (hfc.mono (by decide)) (by decide) (by rw [toR_len]; omega) (by omega) (by omega)) (Seals.refl _ _) (by repeat (first | exact Sub.nil _ | refine Sub.cons (by repeat (first | exact List.Mem.head _ | apply List.Mem.tail)) ?_)) ?_
    rintro _ _ _ ⟨rfl, n, rfl, rfl⟩
    rw [if_neg hfc2]
    refine cmp_false rfl (by decide) ?_
    refine call_fn (detT m (toR (matL p r (mm q X Y))) p r 3 (mm q X Y) (ww_cn _) (matL_right _ hp hr) (mat_fits hMs) hp (by omega) (Nat.le_trans (Eb_mono 3 (show p ≤ 6 by omega)) (by decide))) (Seals.refl _ _) (by repeat (first | exact Sub.nil _ | refine Sub.cons (by repeat (first | exact List.Mem.head _ | apply List.Mem.tail)) ?_)) ?_
    rintro _ _ _ ⟨rfl, q1, rfl, rfl⟩
    refine alloc_rule (d := I false []) fun bd hbd => ?_
    refine store_box (d := zd (if p = r then det p (mm q X Y) else 0)) 0 rfl hbd rfl (by kernel_rfl) ?_ ?_; exact Reads.fact (by repeat (first | exact List.Mem.head _ | apply List.Mem.tail))
    refine call_fn (detT v a p q 1 X hA hra hfa hp (by omega) (Nat.le_trans (Eb_mono 1 (show p ≤ 6 by omega)) (by decide))) (Seals.refl _ _) (by repeat (first | exact Sub.nil _ | refine Sub.cons (by repeat (first | exact List.Mem.head _ | apply List.Mem.tail)) ?_)) ?_
    rintro _ _ _ ⟨rfl, q2, rfl, rfl⟩
    refine alloc_rule (d := I false []) fun bv hbv => ?_
    refine store_box (d := zd (if p = q then det p X else 0)) 0 rfl hbv rfl (by kernel_rfl) ?_ ?_; exact Reads.fact (by repeat (first | exact List.Mem.head _ | apply List.Mem.tail))
    refine call_fn (detT w b q r 1 Y hB hrb hfb hq (by omega) (Nat.le_trans (Eb_mono 1 (show q ≤ 6 by omega)) (by decide))) (Seals.refl _ _) (by repeat (first | exact Sub.nil _ | refine Sub.cons (by repeat (first | exact List.Mem.head _ | apply List.Mem.tail)) ?_)) ?_
    rintro _ _ _ ⟨rfl, q3, rfl, rfl⟩
    refine alloc_rule (d := I false []) fun bw hbw => ?_
    refine store_box (d := zd (if q = r then det q Y else 0)) 0 rfl hbw rfl (by kernel_rfl) ?_ ?_; exact Reads.fact (by repeat (first | exact List.Mem.head _ | apply List.Mem.tail))
    by_cases hpq : p = q
    case neg =>
      rw [if_neg hpq, if_neg hpq]
      refine cmp_true rfl (by decide) ?_
      by_cases hpr : p = r
      · rw [if_pos hpr, if_pos hpr]
        refine cmp_true rfl rfl ?_
        refine len_wd (m := matL p r (mm q X Y)) (by repeat (first | exact List.Mem.head _ | apply List.Mem.tail)) ?_
        refine index_wd (m := matL p r (mm q X Y)) (by repeat (first | exact List.Mem.head _ | apply List.Mem.tail)) 0 rfl (by rw [matL_len]; exact hp) fun i1 => ?_
        refine load_fact (d := vd ((matL p r (mm q X Y)).getD 0 [])) (by repeat (first | exact List.Mem.head _ | apply List.Mem.tail)) (load_V _) fun i2 => ?_
        refine len_vd (l := (matL p r (mm q X Y)).getD 0 []) (by repeat (first | exact List.Mem.head _ | apply List.Mem.tail)) ?_
        refine cmp_true rfl (by rw [matL_len, matL_row _ hp]; simp [hpr]) ?_
        refine beq_split (fun _ => ?_) (fun h => absurd rfl h)
        exact fin ⟨rfl, rfl, rfl⟩ (Seals.trans (Seals.drop 0 _ _) (Seals.trans (Seals.drop 0 _ _) (Seals.trans (Seals.drop 0 _ _) (Seals.nil _ _))))
      · rw [if_neg hpr, if_neg hpr]
        refine cmp_false rfl (by decide) ?_
        refine len_wd (m := matL p r (mm q X Y)) (by repeat (first | exact List.Mem.head _ | apply List.Mem.tail)) ?_
        refine index_wd (m := matL p r (mm q X Y)) (by repeat (first | exact List.Mem.head _ | apply List.Mem.tail)) 0 rfl (by rw [matL_len]; exact hp) fun i1 => ?_
        refine load_fact (d := vd ((matL p r (mm q X Y)).getD 0 [])) (by repeat (first | exact List.Mem.head _ | apply List.Mem.tail)) (load_V _) fun i2 => ?_
        refine len_vd (l := (matL p r (mm q X Y)).getD 0 []) (by repeat (first | exact List.Mem.head _ | apply List.Mem.tail)) ?_
        refine cmp_false rfl (by rw [matL_len, matL_row _ hp]; simp; omega) ?_
        refine beq_split (fun _ => ?_) (fun h => absurd rfl h)
        exact fin ⟨rfl, rfl, rfl⟩ (Seals.trans (Seals.drop 0 _ _) (Seals.trans (Seals.drop 0 _ _) (Seals.trans (Seals.drop 0 _ _) (Seals.nil _ _))))
    rw [if_pos hpq, if_pos hpq]
    refine cmp_false rfl (by decide) ?_
    by_cases hqr : q = r
    case neg =>
      rw [if_neg hqr, if_neg hqr]
      refine cmp_true rfl (by decide) ?_
      by_cases hpr : p = r
      · rw [if_pos hpr, if_pos hpr]
        refine cmp_true rfl rfl ?_
        refine len_wd (m := matL p r (mm q X Y)) (by repeat (first | exact List.Mem.head _ | apply List.Mem.tail)) ?_
        refine index_wd (m := matL p r (mm q X Y)) (by repeat (first | exact List.Mem.head _ | apply List.Mem.tail)) 0 rfl (by rw [matL_len]; exact hp) fun i1 => ?_
        refine load_fact (d := vd ((matL p r (mm q X Y)).getD 0 [])) (by repeat (first | exact List.Mem.head _ | apply List.Mem.tail)) (load_V _) fun i2 => ?_
        refine len_vd (l := (matL p r (mm q X Y)).getD 0 []) (by repeat (first | exact List.Mem.head _ | apply List.Mem.tail)) ?_
        refine cmp_true rfl (by rw [matL_len, matL_row _ hp]; simp [hpr]) ?_
        refine beq_split (fun _ => ?_) (fun h => absurd rfl h)
        exact fin ⟨rfl, rfl, rfl⟩ (Seals.trans (Seals.drop 0 _ _) (Seals.trans (Seals.drop 0 _ _) (Seals.trans (Seals.drop 0 _ _) (Seals.nil _ _))))
      · rw [if_neg hpr, if_neg hpr]
        refine cmp_false rfl (by decide) ?_
        refine len_wd (m := matL p r (mm q X Y)) (by repeat (first | exact List.Mem.head _ | apply List.Mem.tail)) ?_
        refine index_wd (m := matL p r (mm q X Y)) (by repeat (first | exact List.Mem.head _ | apply List.Mem.tail)) 0 rfl (by rw [matL_len]; exact hp) fun i1 => ?_
        refine load_fact (d := vd ((matL p r (mm q X Y)).getD 0 [])) (by repeat (first | exact List.Mem.head _ | apply List.Mem.tail)) (load_V _) fun i2 => ?_
        refine len_vd (l := (matL p r (mm q X Y)).getD 0 []) (by repeat (first | exact List.Mem.head _ | apply List.Mem.tail)) ?_
        refine cmp_false rfl (by rw [matL_len, matL_row _ hp]; simp; omega) ?_
        refine beq_split (fun _ => ?_) (fun h => absurd rfl h)
        exact fin ⟨rfl, rfl, rfl⟩ (Seals.trans (Seals.drop 0 _ _) (Seals.trans (Seals.drop 0 _ _) (Seals.trans (Seals.drop 0 _ _) (Seals.nil _ _))))
    rw [if_pos hqr, if_pos hqr, if_pos (show p = r by omega), if_pos (show p = r by omega)]
    refine cmp_false rfl (by decide) ?_
    refine call_fn (detT t (toR (matL q p (tp X))) q p 1 (tp X) (ww_cn _) (matL_right _ hq hp) (mat_fits hTs) hq (by omega) (Nat.le_trans (Eb_mono 1 (show q ≤ 6 by omega)) (by decide))) (Seals.refl _ _) (by repeat (first | exact Sub.nil _ | refine Sub.cons (by repeat (first | exact List.Mem.head _ | apply List.Mem.tail)) ?_)) ?_
    rintro _ _ _ ⟨rfl, q4, rfl, rfl⟩
    rw [if_pos hpq.symm, if_pos hpq.symm]
    refine alloc_rule (d := I false []) fun bz hbz => ?_
    refine store_box (d := zd (det q (tp X))) 0 rfl hbz rfl (by kernel_rfl) ?_ ?_; exact Reads.fact (by repeat (first | exact List.Mem.head _ | apply List.Mem.tail))
    have e1 : det p (mm q X Y) = det p X * det q Y := by rw [← hpq, det_mul]
    have e2 : det q (tp X) = det p X := by rw [← hpq, det_tr]
    have s1 : sz (det p X) 13 := (det_sz p (by omega) fun i j hi hj => hXs i j hi (by omega)).mono (by omega)
    have s2 : sz (det q Y) 13 := (det_sz q (by omega) fun i j hi hj => hYs i j hi (by omega)).mono (by omega)
    rw [e1, e2]
    generalize det p X = D1 at *
    generalize det q Y = D2 at *
    refine draw_rule [0, 1, 2, 3, 4, 5, 6, 7, 8, 9, 10, 11, 12, 13, 14, 15, 16, 17, 18, 19, 20, 21] [0, 1, 2, 3, 4, 5, 6, 7, 8, 9, 10, 11, 12, 13, 14, 15, 16, 17, 18, 19, 20, 21] (by kernel_rfl) (by kernel_rfl) ?_
    refine cmp_true rfl rfl ?_
    refine cmp_true rfl rfl ?_
    refine load_box (d := zd (D1 * D2)) 3 rfl hbd rfl (load_I _ _) fun y1 => ?_
    refine load_box (d := zd D1) 2 rfl hbv rfl (load_I _ _) fun y2 => ?_
    refine load_box (d := zd D2) 1 rfl hbw rfl (load_I _ _) fun y3 => ?_
    refine call_fn (rMulZZ y2 y3 D1 D2 13 s1 s2 (by decide)) (Seals.refl _ _) (by repeat (first | exact Sub.nil _ | refine Sub.cons (by repeat (first | exact List.Mem.head _ | apply List.Mem.tail)) ?_)) ?_
    rintro y4 _ _ ⟨rfl, rfl⟩
    refine call_fn (exactW y1 y4 (D1 * D2) (D1 * D2)) (Seals.refl _ _) (by repeat (first | exact Sub.nil _ | refine Sub.cons (by repeat (first | exact List.Mem.head _ | apply List.Mem.tail)) ?_)) ?_
    rintro _ _ _ ⟨rfl, rfl, rfl⟩
    rw [decide_eq_true rfl]
    refine load_box (d := zd D1) 0 rfl hbz rfl (load_I _ _) fun y5 => ?_
    refine load_box (d := zd D1) 2 rfl hbv rfl (load_I _ _) fun y6 => ?_
    refine call_fn (exactW y5 y6 D1 D1) (Seals.refl _ _) (by repeat (first | exact Sub.nil _ | refine Sub.cons (by repeat (first | exact List.Mem.head _ | apply List.Mem.tail)) ?_)) ?_
    rintro _ _ _ ⟨rfl, rfl, rfl⟩
    rw [decide_eq_true rfl]
    exact fin ⟨rfl, rfl, rfl⟩ (Seals.trans (Seals.drop 0 _ _) (Seals.trans (Seals.drop 0 _ _) (Seals.trans (Seals.drop 0 _ _) (Seals.trans (Seals.drop 0 _ _) (Seals.nil _ _)))))

end Go.Proofs.Ytajkjlgddmkkaaa
