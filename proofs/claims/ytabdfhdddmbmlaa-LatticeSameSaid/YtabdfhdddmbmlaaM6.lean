/- The law LatticeSame is true of each input, and changes none. No condition. -/
import Derived.Test.YtabdfhdddmbmlaaM5
import Derived.Test.YtabdfhdddmbmlaaRows
import Derived.OpenShut
import Derived.Below
import Derived.Lib.SmallJoins
set_option linter.unusedVariables false
set_option linter.unusedSimpArgs false

namespace Go.Proofs.Ytabdfhdddmbmlaa
open Go.RowKit
theorem lnum_cr (m : List Row) (v : Row) (c : Nat) : lnum m v c = cr (m.getD 0 []).length m.length (rvm m) (rv v) c := rfl
theorem lpart_lft (m : List Row) (v : Row) : lpart m v m.length = lft (m.getD 0 []).length m.length (rvm m) (rv v) (fun i => lnum m v i / linD m) := by
  unfold lpart lft
  rw [Int.sub_eq_add_neg, Int.add_comm]; rfl
/-- A row is inside just if it is a sum. -/
theorem lok_iff {m : List Row} {v : Row} (h : linD m ≠ 0) : lok m v ↔ ∃ x : Nat → Int, ∀ c, c < (m.getD 0 []).length → comb m.length x (rvm m) c = rv v c := by
  have hd := h
  rw [linD_dm] at hd
  constructor
  · rintro ⟨h1, h2⟩
    refine ⟨fun i => lnum m v i / linD m, ?_⟩
    rw [lpart_lft] at h2
    refine (inside_lft hd (q := fun i => lnum m v i / linD m) fun k hk => ?_).1 h2
    rw [← lnum_cr, ← linD_dm]
    exact (Int.mul_ediv_cancel' (Int.dvd_of_emod_eq_zero (h1 k hk))).symm
  · rintro ⟨x, hx⟩
    have h1 := inside_all hd hx
    have h3 : ∀ k, k < m.length → lnum m v k / linD m = x k := fun k hk => by
      rw [lnum_cr, h1 k hk, ← linD_dm, Int.mul_ediv_cancel_left _ h]
    refine ⟨fun k hk => by rw [lnum_cr, h1 k hk, ← linD_dm]; exact Int.mul_emod_right _ _, ?_⟩
    rw [lpart_lft, inside_lft hd fun k hk => by rw [h3 k hk]; exact h1 k hk]
    intro c hc
    rw [← hx c hc]
    exact isum_congr fun k hk => by show lnum m v k / linD m * _ = _; rw [h3 k hk]
/-- By just these. -/
theorem lins_sum {m : List Row} {v : Row} (hr : right m) (hl : v.length = (m.getD 0 []).length) (h : linD m ≠ 0) {x : Nat → Int} (hx : ∀ c, c < (m.getD 0 []).length → comb m.length x (rvm m) c = rv v c) :
    lins m v = ((List.range m.length).map x, 0) := by
  have hd := h
  rw [linD_dm] at hd
  have h1 := inside_all hd hx
  unfold lins
  rw [if_neg (fun g => g ⟨hr, hl⟩), if_neg h, if_pos ((lok_iff h).2 ⟨x, hx⟩)]
  congr 1
  refine List.map_congr_left fun k hk => ?_
  rw [lnum_cr, h1 k (List.mem_range.1 hk), ← linD_dm, Int.mul_ediv_cancel_left _ h]
theorem linD_vol {a : List Row} (hr : right a) : lvol a = linD a := by unfold lvol; rw [if_pos hr]; rfl
section
variable {a : List Row} {k : Nat}
theorem Rdd.rvm (_ : Rdd a k) : Go.Proofs.Ytabdfhdddmbmlaa.rvm ((M1 a).map (·.map cn)) = mx (M1 a) := rvm_cn _
theorem Rdd.linD' (h : Rdd a k) (hr : Go.Proofs.Ytabdfhdddmbmlaa.right a) : Go.Proofs.Ytabdfhdddmbmlaa.linD ((M1 a).map (·.map cn)) = Go.Proofs.Ytabdfhdddmbmlaa.linD a := by rw [linD_cn, h.linD hr]
theorem Rdd.vol (h : Rdd a k) (hr : Go.Proofs.Ytabdfhdddmbmlaa.right a) : lvol ((M1 a).map (·.map cn)) = Go.Proofs.Ytabdfhdddmbmlaa.linD a := by
  rw [linD_vol ((right_cn _).2 (h.right hr)), h.linD' hr]
/-- Each row that was handed in is a sum of the reduced ones. -/
theorem Rdd.back (h : Rdd a k) : ∃ w : Mx, ∀ i c, i < a.length → c < (a.getD 0 []).length → comb a.length (w i) (mx (M1 a)) c = Go.Proofs.Ytabdfhdddmbmlaa.rvm a i c := by
  obtain ⟨w, hw⟩ := back_rows h.lb.ua h.lb.un
  refine ⟨w, fun i c hi hc => ?_⟩
  rw [← hw i c hi hc]
  exact isum_congr fun s hs => by rw [h.same s c hs hc]
theorem Rdd.inside (h : Rdd a k) (hr : Go.Proofs.Ytabdfhdddmbmlaa.right a) (hI : Ind (a.getD 0 []).length a.length (Go.Proofs.Ytabdfhdddmbmlaa.rvm a)) {i : Nat} (hi : i < a.length) : (lins ((M1 a).map (·.map cn)) (a.getD i [])).2 = 0 := by
  obtain ⟨w, hw⟩ := h.back
  have hC : (((M1 a).map (·.map cn)).getD 0 []).length = (a.getD 0 []).length := by rw [get_cn, List.length_map, h.col hr]
  rw [lins_sum (x := w i) ((right_cn _).2 (h.right hr)) (by rw [hC]; exact (hr.get hi).2) (by rw [h.linD' hr]; exact (ind_iff a).1 hI)]
  intro c hc
  rw [hC] at hc
  rw [List.length_map, h.len, h.rvm, hw i c hi hc]; rfl
theorem Rdd.uz (h : Rdd a k) (hf : Fits k a) (ln : a.length ≤ 1024) (lc : (a.getD 0 []).length ≤ 1048576) (hI : Ind (a.getD 0 []).length a.length (Go.Proofs.Ytabdfhdddmbmlaa.rvm a)) :
    Fits (lK k a.length + k + 1 + ((k + k + 2) * a.length + 1) + 1) ((M2 a).map (·.map cn)) :=
  (matL_szM fun i j hi hj => h.lb.uz (by omega) (by omega) (fun i c _ _ => rv_sz (hf.get i) c) (vol_of_ind hI) hi hj).fits
theorem Rdd.det (h : Rdd a k) : det a.length (mx (M2 a)) = 1 ∨ det a.length (mx (M2 a)) = -1 := by
  rw [det_congr fun i j hi hj => M2_at a hi hj]; exact h.lb.un
theorem Rdd.prod (h : Rdd a k) : Go.Proofs.Ytabdfhdddmbmlaa.prod (M2 a) (ww a) = M1 a := by
  unfold Go.Proofs.Ytabdfhdddmbmlaa.prod
  rw [show (M2 a).length = a.length from matL_len _ _ _, ww_get, vv_len, ww_len]
  show _ = (List.range a.length).map fun i => (List.range (a.getD 0 []).length).map fun c => (lrd a).1 i c
  refine List.map_congr_left fun i hi => List.map_congr_left fun c hc => ?_
  have hi' := List.mem_range.1 hi
  have hc' := List.mem_range.1 hc
  rw [← h.lb.ua i c hi' hc']
  refine isum_congr fun s hs => ?_
  have e1 : ((M2 a).getD i []).getD s 0 = (lrd a).2 i s := M2_at a hi' hs
  have e2 : ((ww a).getD s []).getD c 0 = Go.Proofs.Ytabdfhdddmbmlaa.rvm a s c := by rw [rvm_ww]; rfl
  rw [e1, e2]
theorem Rdd.fitsProd (_ : Rdd a k) (hr : Go.Proofs.Ytabdfhdddmbmlaa.right a) : Go.Proofs.Ytabdfhdddmbmlaa.fitsProd ((M2 a).map (·.map cn)) a :=
  ⟨(right_cn _).2 (matL_right _ hr.1 hr.1), hr, by rw [get_cn, List.length_map]; exact (matL_len0 (C := a.length) _ hr.1).symm⟩
end
theorem lB_small {n : Nat} (h : n ≤ 4) : Eb (1 + 1 + 1) n ≤ 17179869184 ∧ Eb (lK 1 n + lK 1 n + 1) n ≤ 17179869184 ∧ Eb (lK 1 n + 1 + 1 + ((1 + 1 + 2) * n + 1) + 1) n ≤ 17179869184 ∧ lK 1 n + 1 + 1 + ((1 + 1 + 2) * n + 1) + 1 ≤ 100 := by
  have : n = 0 ∨ n = 1 ∨ n = 2 ∨ n = 3 ∨ n = 4 := by omega
  rcases this with rfl | rfl | rfl | rfl | rfl <;> decide
theorem lsame_meets (v : Value) (a : List Row) (ha : limM a) :
    Meets Try.prog 8 [v] [(v, W a)] (fun r os fs => os = [] ∧ fs = [] ∧ r = .bool true) := by
  refine meets_of_vc Try.func8 (by kernel_rfl) rfl (by kernel_rfl) (Nat.le_of_ble_eq_true rfl) ?_
  refine call_fn shown4_meets (Seals.refl _ _) mS ?_
  rintro _ _ _ ⟨rfl, rfl, rfl⟩
  refine call_fn (little4_meets v a) (Seals.refl _ _) mS ?_
  rintro _ _ _ ⟨rfl, rfl, rfl⟩
  by_cases hs : small 4 5 1 a
  case neg =>
    rw [decide_eq_false hs]
    exact fin ⟨rfl, rfl, rfl⟩ (Seals.nil _ _)
  rw [decide_eq_true hs]
  have hf := hs.fits ha
  have hc := hs.cols
  have hn := hs.1
  obtain ⟨z1, z2, z3, z4, z5⟩ := lZ_small hn
  obtain ⟨b1, b2, b3, b4⟩ := lB_small hn
  have h0 := lReduceT v a 1 hf (by decide) (by omega) (by omega) z1
  have hv := lVolume_meets v a 1 hf (by decide) (by omega) (by omega) b1
  refine call_fn hv (Seals.refl _ _) mS ?_
  rintro _ _ _ ⟨rfl, q1, rfl, rfl⟩
  refine alloc_rule (d := I false []) fun vb hvb => ?_
  refine store_box (d := zd (lvol a)) 0 rfl hvb rfl (by kernel_rfl) ?_ ?_; exact Reads.fact mM
  by_cases hr : right a
  case neg =>
    obtain ⟨g1, g2, g3⟩ := lred_bad (a := a) (fun h => hr h.1)
    rw [g1, g2, g3, if_neg hr] at h0
    rw [if_neg hr]
    refine call_fn h0 (Seals.refl _ _) mS ?_
    rintro _ _ _ ⟨rfl, r, u, rfl, rfl⟩
    refine cmp_true rfl (by decide) ?_
    refine len_fact (v := r) (n := 0) mM fun _ => ?_
    refine len_fact (v := u) (n := 0) mM fun _ => ?_
    refine ar rfl mI ?_
    refine cmp_true rfl (by decide) ?_
    refine cmp_false rfl (by decide) ?_
    refine cmp_true rfl (by decide) ?_
    exact fin ⟨rfl, rfl, rfl⟩ (Seals.trans (Seals.drop 0 _ _) (Seals.nil _ _))
  rw [if_pos hr]
  have hvz : sz (lvol a) 17 := by
    rw [linD_vol hr, linD_dm]
    unfold dm dG
    have e := det_sz a.length (by omega) (k := 1 + 1 + 1) (x := sub' (gr (a.getD 0 []).length (rvm a)) (dn a.length) (dn a.length)) fun x y _ _ => gmx_sz hf (by omega) _ _
    exact e.mono (by omega)
  have hsg := fun y => rSign_meets y (cn (lvol a)).1 (cn (lvol a)).2 (Lim_lims _) (Nat.le_trans hvz.len (by decide))
  have e0 : iv (cn (lvol a)).1 (cn (lvol a)).2 = lvol a := jv_cn _
  rw [e0] at hsg
  by_cases hI : linD a = 0
  case pos =>
    obtain ⟨g1, g2, g3⟩ := lred_bad (a := a) (fun h => (ind_iff a).1 h.2 hI)
    rw [g1, g2, g3, if_pos hr] at h0
    refine call_fn h0 (Seals.refl _ _) mS ?_
    rintro _ _ _ ⟨rfl, r, u, rfl, rfl⟩
    refine cmp_false rfl (by decide) ?_
    refine load_box (d := zd (lvol a)) 0 rfl hvb rfl (load_I _ _) fun y1 => ?_
    refine call_fn (hsg y1) (Seals.refl _ _) mS ?_
    rintro _ _ _ ⟨rfl, rfl, rfl⟩
    have hs0 : (lvol a).sign = 0 := by rw [linD_vol hr, hI]; rfl
    refine cmp_true rfl hs0 ?_
    refine len_fact (v := r) (n := 0) mM fun _ => ?_
    refine len_fact (v := u) (n := 0) mM fun _ => ?_
    refine ar rfl mI ?_
    refine cmp_true rfl (by decide) ?_
    refine cmp_true rfl (by decide) ?_
    exact fin ⟨rfl, rfl, rfl⟩ (Seals.trans (Seals.drop 0 _ _) (Seals.nil _ _))
  have hI' := (ind_iff a).2 hI
  have hd := rdd hf hr (by omega) (by omega) hI'
  rw [lred_ok hr hI'] at h0
  simp only at h0
  have hfu := hd.uz hf (by omega) (by omega) hI'
  have ul : ((M2 a).map (·.map cn)).length = a.length := by rw [List.length_map]; exact matL_len _ _ _
  have h1 := fun x => mMul_meets x v ((M2 a).map (·.map cn)) a _ hfu (hf.mono (by omega)) (by omega) (by omega) (by omega) (by omega)
  rw [if_pos (hd.fitsProd hr), if_pos (hd.fitsProd hr), ww_cn, hd.prod] at h1
  have h2 := fun x => mDet_meets x ((M2 a).map (·.map cn)) _ hfu (by omega) (by rw [ul]; exact b3)
  have hsq : square ((M2 a).map (·.map cn)) := ⟨(hd.fitsProd hr).1, by rw [ul]; exact (hd.fitsProd hr).2.2⟩
  rw [if_pos hsq, if_pos hsq, ww_cn, ul] at h2
  have rl : ((M1 a).map (·.map cn)).length = a.length := by rw [List.length_map]; exact hd.len
  have rc : (((M1 a).map (·.map cn)).getD 0 []).length = (a.getD 0 []).length := by rw [get_cn, List.length_map, hd.col hr]
  have h3 := fun x => lVolume_meets x ((M1 a).map (·.map cn)) _ hd.fits (by omega) (by omega) (by omega) (by rw [rl]; exact b2)
  rw [if_pos ((right_cn _).2 (hd.right hr)), hd.vol hr] at h3
  have h4 := fun x y i => lInside_meets x y ((M1 a).map (·.map cn)) (a.getD i []) _ hd.fits ((hf.get i).mono (show 1 ≤ lK 1 a.length by unfold lK; omega)) (by omega) (by omega) (by omega) (by rw [rl]; exact b2)
  have h5 : ∀ i, i < a.length → (lins ((M1 a).map (·.map cn)) (a.getD i [])).2 = 0 := fun i hi => hd.inside hr hI' hi
  have hdet := hd.det
  have hLv := linD_vol hr
  generalize hU : det a.length (mx (M2 a)) = ud at *
  have hudz : sz ud 1 := by rcases hdet with e | e <;> rw [e] <;> exact sz_num _ (by decide)
  have habs : (ud.natAbs : Int) = 1 := by omega
  generalize (M1 a) = X at *
  generalize (M2 a) = Y at *
  refine call_fn h0 (Seals.refl _ _) mS ?_
  rintro _ _ _ ⟨rfl, r, u, rfl, rfl⟩
  refine cmp_false rfl (by decide) ?_
  refine load_box (d := zd (lvol a)) 0 rfl hvb rfl (load_I _ _) fun y1 => ?_
  refine call_fn (hsg y1) (Seals.refl _ _) mS ?_
  rintro _ _ _ ⟨rfl, rfl, rfl⟩
  have hs0 : (lvol a).sign ≠ 0 := fun e => hI (by rw [← hLv]; exact Int.sign_eq_zero_iff_zero.1 e)
  refine cmp_false rfl hs0 ?_
  refine call_fn (h1 u) (Seals.refl _ _) mS ?_
  rintro _ _ _ ⟨rfl, m, rfl, rfl⟩
  refine call_fn (h2 u) (Seals.refl _ _) mS ?_
  rintro _ _ _ ⟨rfl, dq, rfl, rfl⟩
  refine alloc_rule (d := I false []) fun db hdb => ?_
  refine store_box (d := zd ud) 0 rfl hdb rfl (by kernel_rfl) ?_ ?_; exact Reads.fact mM
  refine call_fn (h3 r) (Seals.refl _ _) mS ?_
  rintro _ _ _ ⟨rfl, wq, rfl, rfl⟩
  refine alloc_rule (d := I false []) fun wb hwb => ?_
  refine store_box (d := zd (linD a)) 0 rfl hwb rfl (by kernel_rfl) ?_ ?_; exact Reads.fact mM
  refine cmp_false rfl (by decide) ?_
  refine cmp_false rfl (by decide) ?_
  refine cmp_false rfl (by decide) ?_
  refine cmp_false rfl (by decide) ?_
  refine call_fn (sameT m r X X rfl) (Seals.refl _ _) mS ?_
  rintro _ _ _ ⟨rfl, rfl, rfl⟩
  refine load_box (d := zd ud) 1 rfl hdb rfl (load_I _ _) fun y2 => ?_
  refine call_fn (rAbsZ y2 ud 1 hudz (by decide)) (Seals.refl _ _) mS ?_
  rintro y3 _ _ ⟨rfl, rfl⟩
  refine call_fn (rOf_meets 1 (by decide) (by decide)) (Seals.refl _ _) mS ?_
  rintro y4 _ _ ⟨rfl, rfl⟩
  refine call_fn (exT y3 y4 _ _ habs) (Seals.refl _ _) mS ?_
  rintro _ _ _ ⟨rfl, rfl, rfl⟩
  refine load_box (d := zd (lvol a)) 2 rfl hvb rfl (load_I _ _) fun y5 => ?_
  refine load_box (d := zd (linD a)) 0 rfl hwb rfl (load_I _ _) fun y6 => ?_
  refine call_fn (exT y5 y6 _ _ hLv) (Seals.refl _ _) mS ?_
  rintro _ _ _ ⟨rfl, rfl, rfl⟩
  refine loop_rule (X := Nat) (fun i => ([(0, v), (3, .bool true), (6, r), (15, .int .i64 (i : Nat))], [], [(r, wd X), (v, W a)])) (fun i => i ≤ a.length) (fun i => a.length - i) rfl ?_ ?_
  · exact again 0 (Nat.zero_le _) trivial mF (Seals.trans (Seals.drop 0 _ _) (Seals.trans (Seals.drop 0 _ _) (Seals.trans (Seals.drop 0 _ _) (Seals.sub (fs' := [(r, wd X), (v, W a)]) mS))))
  · rintro i hi
    refine len_fact (v := v) mM fun _ => ?_
    refine cmp_split _ rfl (fun hlt => ?_) (fun hlt => ?_)
    · have hin : i < a.length := by omega
      refine index_fact (v := v) mM i rfl hin fun a1 => ?_
      refine load_fact (d := V (a.getD i [])) mM (load_V _) fun a2 => ?_
      refine call_fn (h4 r a2 i) (Seals.refl _ _) mS ?_
      rintro _ _ _ ⟨rfl, c, rfl, rfl⟩
      refine cmp_false rfl (fun e => e (h5 i hin)) ?_
      refine ar rfl mI ?_
      exact again (i + 1) (by omega) (by simp only; omega) mF (Seals.sub (fs' := [(r, wd X), (v, W a)]) mS)
    · exact fin ⟨rfl, rfl, rfl⟩ (Seals.nil _ _)
end Go.Proofs.Ytabdfhdddmbmlaa

namespace Go.Proofs.Ytabdfhdddmbmlaa
open Go.ChangeShapes Go.WideShapes Go.ChangeAt Go.RowKit
open Go.Joins (open_agg2)
set_option maxRecDepth 100000 in
theorem latticeSame_lifted (os : Os) (started : os.Started) (H : Type) (enc : TypeId × Value → H) :
    ReturnsInHanded {} Try.checked os 8 .any (Rows.latticeSameSpec.pre6 enc Try.prog Try.f8 Rows.latticeSameRow.domain false) (Rows.latticeSameSpec.post enc Try.prog Try.f8 false true false false) := by
  refine returnsInHanded_of_change (C := Try.checked) own0 started (by kernel_rfl) Try.func8
    (ChangeSpec.witness6 (enc := enc) (C := Try.checked) false ⟨#[], #[.slice none 0 0], []⟩ 8 (by kernel_rfl) (by kernel_rfl) (by kernel_rfl) (by kernel_rfl)) ?_
  intro Wd base args ds gs before hval0 hW hcnd _
  have hval : ∀ (j : Nat) t v, Try.f8.params[j]? = some t → args[j]? = some v → Value.okWide Try.prog Wd .any base t v := hval0
  have hW' := hW
  obtain ⟨p, q, hA0, hV, rfl, hfz, hnd⟩ := hW
  have hA : DataW.TrodAll enc Try.prog Wd 0 (fun _ => true) true Try.f8.params.toList args.toList ds p := hA0
  rw [Try.params8] at hA hval
  obtain ⟨v0, vs0, d0, ds0, p0, q0, hargs, rfl, rfl, h0, r0⟩ := trodAll_cons hA
  obtain ⟨rfl, rfl, rfl⟩ := trodAll_nil r0
  obtain rfl : args = #[v0] := by cases args; simp_all
  obtain ⟨rfl, rfl⟩ := trodVars_none hV
  obtain ⟨a0, n0, c0, rfl⟩ := okWide_slice Try.underlying22 (hval 0 22 v0 rfl rfl)
  have k0 := h0
  have lt0 : ∀ x ∈ p0, x.block < Wd.heap.size := by obtain ⟨m, hm⟩ := k0; exact DataW.trod_lt m _ _ _ hm
  obtain ⟨m0, lm0, rd0⟩ : ∃ m, limM m ∧ Rd (fun b => b < Wd.heap.size) Wd (.slice a0 n0 c0) (W m) := by
    obtain ⟨fuel, hf⟩ := h0
    obtain ⟨m, e1, e2⟩ := rd_rows hf
    exact ⟨m, e1, rd_val rfl e2⟩
  clear hA0 hval0
  refine (calls_of_meets (w := Wd) (lsame_meets (.slice a0 n0 c0) m0 lm0) ?_).mono fun e W2 ⟨he, bel⟩ => ?_
  · intro F hF
    simp only [List.mem_cons, List.not_mem_nil, or_false] at hF
    subst hF; exact rd0
  subst he
  exact ⟨_, rfl, _, _, _, [], _, [], hW', trodAll_mk1 (shut_bool Try.underlying4 _), (trodAll_cons_mk (Below.trod laid0 (by kernel_rfl) (of_decide_eq_true (by kernel_rfl)) k0 bel lt0) trodAll_mk0), rfl, bel.frame _, fun h => by cases h⟩
theorem latticeSame_holds : Rows.LatticeSameSaid :=
  OpenClaim.holds_of_wide 8 Try.f8 rfl rfl rfl rfl rfl rfl rfl ⟨rfl, rfl, rfl, rfl, rfl⟩ rfl rfl rfl rfl rfl (by kernel_rfl) Try.func8 (by kernel_rfl)
    (of_decide_eq_true (by kernel_rfl)) (by unfold Func.isWrapper; first | (rw [if_pos (by decide +kernel)]; kernel_rfl) | (rw [if_neg (by decide +kernel)]; exact ⟨rfl, rfl⟩))
    (fun os started H enc _ => latticeSame_lifted os started H enc)
#print axioms latticeSame_holds
end Go.Proofs.Ytabdfhdddmbmlaa
