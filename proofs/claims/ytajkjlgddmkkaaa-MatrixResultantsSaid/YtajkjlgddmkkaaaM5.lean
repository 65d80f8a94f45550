/- The law MatrixResultants is true of each input, and changes none. No condition. -/
import Derived.Test.YtajkjlgddmkkaaaM4
import Derived.Test.YtajkjlgddmkkaaaRows
import Derived.OpenShut
import Derived.Below
import Derived.Lib.SmallJoins
set_option linter.unusedVariables false
set_option linter.unusedSimpArgs false

namespace Go.Proofs.Ytajkjlgddmkkaaa
open Go.RowKit
theorem sign_lt {x : Int} : x.sign < 0 ↔ x < 0 := by
  rcases Int.lt_trichotomy x 0 with h | h | h
  · rw [Int.sign_eq_neg_one_of_neg h]; omega
  · rw [h]; simp
  · rw [Int.sign_eq_one_of_pos h]; omega
theorem ld_nrm (l : List Int) : (nrm l).getD ((nrm l).length - 1) 0 = ld l := by rw [co_nrm]; rfl
theorem cont_nrm (l : List Int) : cont (nrm l) = cont l := cont_ext (ev_nrm l)
theorem div_s (A : List Int) (g : Int) (i y : Nat) : upd (fun y => zd (if y < i then A.getD y 0 / g else A.getD y 0)) i (zd (A.getD i 0 / g)) y = zd (if y < i + 1 then A.getD y 0 / g else A.getD y 0) :=
  upd_zd (G := fun y => if y < i then A.getD y 0 / g else A.getD y 0) (H := fun y => if y < i + 1 then A.getD y 0 / g else A.getD y 0) (by
    rw [if_pos (by omega)]) (fun y hy => by
    by_cases h2 : y < i
    · rw [if_pos h2, if_pos (by omega)]
    · rw [if_neg h2, if_neg (by omega)]) y
theorem lst_map (A : List Int) (f : Int → Int) : lst A.length (fun i => f (A.getD i 0)) = A.map f := by
  refine List.ext_getElem? fun i => ?_
  by_cases h : i < A.length
  · simp [lst, h]
  · simp [lst, h]
theorem pPrimitive_meets (v : Value) (p : Row) (k : Nat) (hp : Fit k p) (hk : k ≤ 137438953472) (lp : p.length ≤ 1073741824) :
    Meets Try.prog 80 [v] [(v, V p)] (fun r os fs => os = [] ∧ fs = [(r, vd (pprim (vv p)))]) := by
  have h1 := pNormO_meets v p (hp.mono (by omega)) (by omega)
  have sa := hp.szR.nrm
  have la : (nrm (vv p)).length ≤ p.length := Nat.le_trans (nrm_length_le _) (by rw [vv_len]; exact Nat.le_refl _)
  have hcn := cont_nrm (vv p)
  have hld := ld_nrm (vv p)
  have hdef : pprim (vv p) = nrm ((nrm (vv p)).map fun y => y / scont (vv p)) := rfl
  have hsc : scont (vv p) = if ld (vv p) < 0 then - (cont (vv p) : Int) else cont (vv p) := rfl
  have hne : 0 < (nrm (vv p)).length → scont (vv p) ≠ 0 := fun h e => by
    have h2 := scont_natAbs (vv p)
    rw [e] at h2
    have h3 := cont_zero.1 h2.symm
    unfold dg at h3; omega
  have hgs : sz (scont (vv p)) k := by
    unfold sz
    rw [scont_natAbs]
    have := cont_sz hp.szR
    unfold sz at this
    rwa [Int.natAbs_natCast] at this
  have hcs : sz (cont (vv p) : Nat) k := cont_sz hp.szR
  rw [hdef]
  generalize hA : nrm (vv p) = A at *
  generalize hg : scont (vv p) = g at *
  have hml : (A.map cn).length = A.length := List.length_map _
  have hcv : ∀ y, y < A.length → J ((A.map cn).getD y z0) = zd (if y < 0 then A.getD y 0 / g else A.getD y 0) := fun y hy => by rw [map_cn_get hy, if_neg (Nat.not_lt_zero _)]; rfl
  have hn : ∀ r, Meets Try.prog 83 [r] [(r, vd (lst A.length fun y => A.getD y 0 / g))] (fun r os fs => os = [] ∧ fs = [(r, vd (nrm (A.map fun y => y / g)))]) := fun r => by
    rw [← lst_map A fun y => y / g]
    exact pNormT r (lst A.length fun y => A.getD y 0 / g) ((szR.lst fun i _ => sz_div (sa.get i)).mono hk) (by rw [lst_len]; omega)
  refine meets_of_vc Try.func80 (by kernel_rfl) rfl (by kernel_rfl) (Nat.le_of_ble_eq_true rfl) ?_
  refine call_fn h1 (Seals.refl _ _) (by repeat (first | exact Sub.nil _ | refine Sub.cons (by repeat (first | exact List.Mem.head _ | apply List.Mem.tail)) ?_)) ?_
  rintro r _ _ ⟨hr, rfl, rfl⟩
  refine content_call 0 rfl hr sa hk fun x1 => ?_
  rw [hcn]
  refine alloc_rule (d := I false []) fun c hc => ?_
  refine store_box (d := zd (cont (vv p) : Nat)) 0 rfl hc rfl (by kernel_rfl) ?_ ?_; exact Reads.fact (by repeat (first | exact List.Mem.head _ | apply List.Mem.tail))
  refine lead_call 1 rfl hr fun x2 => ?_
  rw [hld]
  refine call_fn (zSignZ x2 (ld (vv p)) k (by rw [← hld]; exact sa.get _) hk) (Seals.refl _ _) (by repeat (first | exact Sub.nil _ | refine Sub.cons (by repeat (first | exact List.Mem.head _ | apply List.Mem.tail)) ?_)) ?_
  rintro _ _ _ ⟨rfl, rfl, rfl⟩
  refine cmp_split _ rfl (fun hz => ?_) (fun hz => ?_)
  · rw [if_pos (sign_lt.1 hz)] at hsc
    have hneg := fun y => zNegZ y _ k hcs hk
    rw [← hsc] at hneg
    refine load_box (d := zd (cont (vv p) : Nat)) 0 rfl hc rfl (load_I _ _) fun y1 => ?_
    refine call_fn (hneg y1) (Seals.refl _ _) (by repeat (first | exact Sub.nil _ | refine Sub.cons (by repeat (first | exact List.Mem.head _ | apply List.Mem.tail)) ?_)) ?_
    rintro y2 _ _ ⟨rfl, rfl⟩
    refine store_box (d := zd g) 0 rfl hc rfl (by kernel_rfl) ?_ ?_; exact Reads.fact (by repeat (first | exact List.Mem.head _ | apply List.Mem.tail))
    refine len_own 1 rfl hr fun _ => ?_
    refine loop_rule (X := Nat) (fun i => ([(3, r), (4, c), (17, .int .i64 ((A.map cn).length : Nat)), (18, .int .i64 (i : Nat))], [own1 c 2 1 (fun _ => zd g), own1 r 2 A.length (fun y => zd (if y < i then A.getD y 0 / g else A.getD y 0))], [])) (fun i => i ≤ A.length) (fun i => A.length - i) rfl ?_ ?_
    · exact again 0 (Nat.zero_le _) trivial (by repeat (first | exact trivial | refine ⟨rfl, ?_⟩ | refine ⟨i64_eq (by first | omega | (simp only; omega)), ?_⟩ | refine ⟨u64_eq (by first | omega | (simp only; omega)), ?_⟩)) (Seals.trans (Seals.box0 rfl) (Seals.trans (Seals.own_cong (os := [_, ownL 2 J z0 r (A.map cn)]) 1 (n' := A.length) (fun y => zd (if y < 0 then A.getD y 0 / g else A.getD y 0)) rfl (by rw [List.length_map]) fun y hy => hcv y (by rw [List.length_map] at hy; exact hy)) (Seals.sub (by repeat (first | exact Sub.nil _ | refine Sub.cons (by repeat (first | exact List.Mem.head _ | apply List.Mem.tail)) ?_)))))
    · rintro i hi
      refine cmp_split _ rfl (fun hlt => ?_) (fun hlt => ?_)
      · have hin : i < A.length := by omega
        have hai := sa.get i
        have hg0 := hne (by omega)
        refine draw_ord [0, 1, 2, 3, 4, 5, 6, 7, 8, 9, 12, 13, 10, 11] (by kernel_rfl) ?_
        refine ord_split 10 13 (by kernel_rfl) (by kernel_rfl) (by kernel_rfl) ?_ ?_
        · refine ord_split 11 13 (by kernel_rfl) (by kernel_rfl) (by kernel_rfl) ?_ ?_
          ·
            refine ord_go [0, 1, 2, 3, 4, 5, 6, 7, 8, 9, 10, 11, 12, 13] (by kernel_rfl) (by kernel_rfl) ?_
            refine index_elem 1 rfl hr i rfl (by omega) ?_
            refine load_elem' (d := zd (A.getD i 0)) 1 rfl i (by omega) (by rw [if_neg (by omega)]) (load_I _ _) fun y1 => ?_
            refine load_box (d := zd g) 0 rfl hc rfl (load_I _ _) fun y2 => ?_
            refine call_fn (zDivModZ y1 y2 _ _ _ _ hai hgs (by omega) (by omega) hg0) (Seals.refl _ _) (by repeat (first | exact Sub.nil _ | refine Sub.cons (by repeat (first | exact List.Mem.head _ | apply List.Mem.tail)) ?_)) ?_
            rintro _ _ _ ⟨rfl, y3, y4, rfl, rfl⟩
            refine index_elem 1 rfl hr i rfl (by omega) ?_
            refine StoreK.post (store_elem (d := zd (A.getD i 0 / g)) 1 rfl i (by omega) rfl (by kernel_rfl) (Reads.fact (by repeat (first | exact List.Mem.head _ | apply List.Mem.tail))) ⟨_, _, Seals.own_cong (os := [_, _]) 1 (fun y => zd (if y < i + 1 then A.getD y 0 / g else A.getD y 0)) rfl rfl (fun y _ => div_s A g i y), ?_⟩)
            refine ar rfl (by first | exact ⟨by omega, by omega⟩ | (simp only [inK]; omega)) ?_
            exact again (i + 1) (by omega) (by simp only; omega) (by repeat (first | exact trivial | refine ⟨rfl, ?_⟩ | refine ⟨i64_eq (by first | omega | (simp only; omega)), ?_⟩ | refine ⟨u64_eq (by first | omega | (simp only; omega)), ?_⟩)) (Seals.trans (Seals.box0 rfl) (Seals.sub (by repeat (first | exact Sub.nil _ | refine Sub.cons (by repeat (first | exact List.Mem.head _ | apply List.Mem.tail)) ?_))))
          ·
            refine ord_go [0, 1, 2, 3, 4, 5, 6, 7, 8, 9, 10, 12, 13, 11] (by kernel_rfl) (by kernel_rfl) ?_
            refine index_elem 1 rfl hr i rfl (by omega) ?_
            refine load_elem' (d := zd (A.getD i 0)) 1 rfl i (by omega) (by rw [if_neg (by omega)]) (load_I _ _) fun y1 => ?_
            refine load_box (d := zd g) 0 rfl hc rfl (load_I _ _) fun y2 => ?_
            refine call_fn (zDivModZ y1 y2 _ _ _ _ hai hgs (by omega) (by omega) hg0) (Seals.refl _ _) (by repeat (first | exact Sub.nil _ | refine Sub.cons (by repeat (first | exact List.Mem.head _ | apply List.Mem.tail)) ?_)) ?_
            rintro _ _ _ ⟨rfl, y3, y4, rfl, rfl⟩
            refine index_elem 1 rfl hr i rfl (by omega) ?_
            refine StoreK.post (store_elem (d := zd (A.getD i 0 / g)) 1 rfl i (by omega) rfl (by kernel_rfl) (Reads.fact (by repeat (first | exact List.Mem.head _ | apply List.Mem.tail))) ⟨_, _, Seals.own_cong (os := [_, _]) 1 (fun y => zd (if y < i + 1 then A.getD y 0 / g else A.getD y 0)) rfl rfl (fun y _ => div_s A g i y), ?_⟩)
            refine ar rfl (by first | exact ⟨by omega, by omega⟩ | (simp only [inK]; omega)) ?_
            exact again (i + 1) (by omega) (by simp only; omega) (by repeat (first | exact trivial | refine ⟨rfl, ?_⟩ | refine ⟨i64_eq (by first | omega | (simp only; omega)), ?_⟩ | refine ⟨u64_eq (by first | omega | (simp only; omega)), ?_⟩)) (Seals.trans (Seals.box0 rfl) (Seals.sub (by repeat (first | exact Sub.nil _ | refine Sub.cons (by repeat (first | exact List.Mem.head _ | apply List.Mem.tail)) ?_))))
        · refine ord_split 11 13 (by kernel_rfl) (by kernel_rfl) (by kernel_rfl) ?_ ?_
          ·
            refine ord_go [0, 1, 2, 3, 4, 5, 6, 7, 8, 9, 11, 12, 13, 10] (by kernel_rfl) (by kernel_rfl) ?_
            refine index_elem 1 rfl hr i rfl (by omega) ?_
            refine load_elem' (d := zd (A.getD i 0)) 1 rfl i (by omega) (by rw [if_neg (by omega)]) (load_I _ _) fun y1 => ?_
            refine load_box (d := zd g) 0 rfl hc rfl (load_I _ _) fun y2 => ?_
            refine call_fn (zDivModZ y1 y2 _ _ _ _ hai hgs (by omega) (by omega) hg0) (Seals.refl _ _) (by repeat (first | exact Sub.nil _ | refine Sub.cons (by repeat (first | exact List.Mem.head _ | apply List.Mem.tail)) ?_)) ?_
            rintro _ _ _ ⟨rfl, y3, y4, rfl, rfl⟩
            refine index_elem 1 rfl hr i rfl (by omega) ?_
            refine StoreK.post (store_elem (d := zd (A.getD i 0 / g)) 1 rfl i (by omega) rfl (by kernel_rfl) (Reads.fact (by repeat (first | exact List.Mem.head _ | apply List.Mem.tail))) ⟨_, _, Seals.own_cong (os := [_, _]) 1 (fun y => zd (if y < i + 1 then A.getD y 0 / g else A.getD y 0)) rfl rfl (fun y _ => div_s A g i y), ?_⟩)
            refine ar rfl (by first | exact ⟨by omega, by omega⟩ | (simp only [inK]; omega)) ?_
            exact again (i + 1) (by omega) (by simp only; omega) (by repeat (first | exact trivial | refine ⟨rfl, ?_⟩ | refine ⟨i64_eq (by first | omega | (simp only; omega)), ?_⟩ | refine ⟨u64_eq (by first | omega | (simp only; omega)), ?_⟩)) (Seals.trans (Seals.box0 rfl) (Seals.sub (by repeat (first | exact Sub.nil _ | refine Sub.cons (by repeat (first | exact List.Mem.head _ | apply List.Mem.tail)) ?_))))
          ·
            refine ord_go [0, 1, 2, 3, 4, 5, 6, 7, 8, 9, 12, 13, 10, 11] (by kernel_rfl) (by kernel_rfl) ?_
            refine index_elem 1 rfl hr i rfl (by omega) ?_
            refine load_elem' (d := zd (A.getD i 0)) 1 rfl i (by omega) (by rw [if_neg (by omega)]) (load_I _ _) fun y1 => ?_
            refine load_box (d := zd g) 0 rfl hc rfl (load_I _ _) fun y2 => ?_
            refine call_fn (zDivModZ y1 y2 _ _ _ _ hai hgs (by omega) (by omega) hg0) (Seals.refl _ _) (by repeat (first | exact Sub.nil _ | refine Sub.cons (by repeat (first | exact List.Mem.head _ | apply List.Mem.tail)) ?_)) ?_
            rintro _ _ _ ⟨rfl, y3, y4, rfl, rfl⟩
            refine index_elem 1 rfl hr i rfl (by omega) ?_
            refine StoreK.post (store_elem (d := zd (A.getD i 0 / g)) 1 rfl i (by omega) rfl (by kernel_rfl) (Reads.fact (by repeat (first | exact List.Mem.head _ | apply List.Mem.tail))) ⟨_, _, Seals.own_cong (os := [_, _]) 1 (fun y => zd (if y < i + 1 then A.getD y 0 / g else A.getD y 0)) rfl rfl (fun y _ => div_s A g i y), ?_⟩)
            refine ar rfl (by first | exact ⟨by omega, by omega⟩ | (simp only [inK]; omega)) ?_
            exact again (i + 1) (by omega) (by simp only; omega) (by repeat (first | exact trivial | refine ⟨rfl, ?_⟩ | refine ⟨i64_eq (by first | omega | (simp only; omega)), ?_⟩ | refine ⟨u64_eq (by first | omega | (simp only; omega)), ?_⟩)) (Seals.trans (Seals.box0 rfl) (Seals.sub (by repeat (first | exact Sub.nil _ | refine Sub.cons (by repeat (first | exact List.Mem.head _ | apply List.Mem.tail)) ?_))))
      · have hip : i = A.length := by omega
        subst hip
        refine call_fn (hn r) (Seals.trans (Seals.drop 0 _ _) (Seals.told (g := fun y => A.getD y 0 / g) hr fun y hy => by rw [if_pos hy])) (by repeat (first | exact Sub.nil _ | refine Sub.cons (by repeat (first | exact List.Mem.head _ | apply List.Mem.tail)) ?_)) ?_
        rintro u _ _ ⟨rfl, rfl⟩
        exact fin ⟨rfl, rfl⟩ (Seals.sub (by repeat (first | exact Sub.nil _ | refine Sub.cons (by repeat (first | exact List.Mem.head _ | apply List.Mem.tail)) ?_)))
  · rw [if_neg fun h => hz (sign_lt.2 h)] at hsc
    rw [← hsc]
    refine len_own 1 rfl hr fun _ => ?_
    refine loop_rule (X := Nat) (fun i => ([(3, r), (4, c), (17, .int .i64 ((A.map cn).length : Nat)), (18, .int .i64 (i : Nat))], [own1 c 2 1 (fun _ => zd g), own1 r 2 A.length (fun y => zd (if y < i then A.getD y 0 / g else A.getD y 0))], [])) (fun i => i ≤ A.length) (fun i => A.length - i) rfl ?_ ?_
    · exact again 0 (Nat.zero_le _) trivial (by repeat (first | exact trivial | refine ⟨rfl, ?_⟩ | refine ⟨i64_eq (by first | omega | (simp only; omega)), ?_⟩ | refine ⟨u64_eq (by first | omega | (simp only; omega)), ?_⟩)) (Seals.trans (Seals.box0 rfl) (Seals.trans (Seals.own_cong (os := [_, ownL 2 J z0 r (A.map cn)]) 1 (n' := A.length) (fun y => zd (if y < 0 then A.getD y 0 / g else A.getD y 0)) rfl (by rw [List.length_map]) fun y hy => hcv y (by rw [List.length_map] at hy; exact hy)) (Seals.sub (by repeat (first | exact Sub.nil _ | refine Sub.cons (by repeat (first | exact List.Mem.head _ | apply List.Mem.tail)) ?_)))))
    · rintro i hi
      refine cmp_split _ rfl (fun hlt => ?_) (fun hlt => ?_)
      · have hin : i < A.length := by omega
        have hai := sa.get i
        have hg0 := hne (by omega)
        refine draw_ord [0, 1, 2, 3, 4, 5, 6, 7, 8, 9, 12, 13, 10, 11] (by kernel_rfl) ?_
        refine ord_split 10 13 (by kernel_rfl) (by kernel_rfl) (by kernel_rfl) ?_ ?_
        · refine ord_split 11 13 (by kernel_rfl) (by kernel_rfl) (by kernel_rfl) ?_ ?_
          ·
            refine ord_go [0, 1, 2, 3, 4, 5, 6, 7, 8, 9, 10, 11, 12, 13] (by kernel_rfl) (by kernel_rfl) ?_
            refine index_elem 1 rfl hr i rfl (by omega) ?_
            refine load_elem' (d := zd (A.getD i 0)) 1 rfl i (by omega) (by rw [if_neg (by omega)]) (load_I _ _) fun y1 => ?_
            refine load_box (d := zd g) 0 rfl hc rfl (load_I _ _) fun y2 => ?_
            refine call_fn (zDivModZ y1 y2 _ _ _ _ hai hgs (by omega) (by omega) hg0) (Seals.refl _ _) (by repeat (first | exact Sub.nil _ | refine Sub.cons (by repeat (first | exact List.Mem.head _ | apply List.Mem.tail)) ?_)) ?_
            rintro _ _ _ ⟨rfl, y3, y4, rfl, rfl⟩
            refine index_elem 1 rfl hr i rfl (by omega) ?_
            refine StoreK.post (store_elem (d := zd (A.getD i 0 / g)) 1 rfl i (by omega) rfl (by kernel_rfl) (Reads.fact (by repeat (first | exact List.Mem.head _ | apply List.Mem.tail))) ⟨_, _, Seals.own_cong (os := [_, _]) 1 (fun y => zd (if y < i + 1 then A.getD y 0 / g else A.getD y 0)) rfl rfl (fun y _ => div_s A g i y), ?_⟩)
            refine ar rfl (by first | exact ⟨by omega, by omega⟩ | (simp only [inK]; omega)) ?_
            exact again (i + 1) (by omega) (by simp only; omega) (by repeat (first | exact trivial | refine ⟨rfl, ?_⟩ | refine ⟨i64_eq (by first | omega | (simp only; omega)), ?_⟩ | refine ⟨u64_eq (by first | omega | (simp only; omega)), ?_⟩)) (Seals.trans (Seals.box0 rfl) (Seals.sub (by repeat (first | exact Sub.nil _ | refine Sub.cons (by repeat (first | exact List.Mem.head _ | apply List.Mem.tail)) ?_))))
          ·
            refine ord_go [0, 1, 2, 3, 4, 5, 6, 7, 8, 9, 10, 12, 13, 11] (by kernel_rfl) (by kernel_rfl) ?_
            refine index_elem 1 rfl hr i rfl (by omega) ?_
            refine load_elem' (d := zd (A.getD i 0)) 1 rfl i (by omega) (by rw [if_neg (by omega)]) (load_I _ _) fun y1 => ?_
            refine load_box (d := zd g) 0 rfl hc rfl (load_I _ _) fun y2 => ?_
            refine call_fn (zDivModZ y1 y2 _ _ _ _ hai hgs (by omega) (by omega) hg0) (Seals.refl _ _) (by repeat (first | exact Sub.nil _ | refine Sub.cons (by repeat (first | exact List.Mem.head _ | apply List.Mem.tail)) ?_)) ?_
            rintro _ _ _ ⟨rfl, y3, y4, rfl, rfl⟩
            refine index_elem 1 rfl hr i rfl (by omega) ?_
            refine StoreK.post (store_elem (d := zd (A.getD i 0 / g)) 1 rfl i (by omega) rfl (by kernel_rfl) (Reads.fact (by repeat (first | exact List.Mem.head _ | apply List.Mem.tail))) ⟨_, _, Seals.own_cong (os := [_, _]) 1 (fun y => zd (if y < i + 1 then A.getD y 0 / g else A.getD y 0)) rfl rfl (fun y _ => div_s A g i y), ?_⟩)
            refine ar rfl (by first | exact ⟨by omega, by omega⟩ | (simp only [inK]; omega)) ?_
            exact again (i + 1) (by omega) (by simp only; omega) (by repeat (first | exact trivial | refine ⟨rfl, ?_⟩ | refine ⟨i64_eq (by first | omega | (simp only; omega)), ?_⟩ | refine ⟨u64_eq (by first | omega | (simp only; omega)), ?_⟩)) (Seals.trans (Seals.box0 rfl) (Seals.sub (by repeat (first | exact Sub.nil _ | refine Sub.cons (by repeat (first | exact List.Mem.head _ | apply List.Mem.tail)) ?_))))
        · refine ord_split 11 13 (by kernel_rfl) (by kernel_rfl) (by kernel_rfl) ?_ ?_
          ·
            refine ord_go [0, 1, 2, 3, 4, 5, 6, 7, 8, 9, 11, 12, 13, 10] (by kernel_rfl) (by kernel_rfl) ?_
            refine index_elem 1 rfl hr i rfl (by omega) ?_
            refine load_elem' (d := zd (A.getD i 0)) 1 rfl i (by omega) (by rw [if_neg (by omega)]) (load_I _ _) fun y1 => ?_
            refine load_box (d := zd g) 0 rfl hc rfl (load_I _ _) fun y2 => ?_
            refine call_fn (zDivModZ y1 y2 _ _ _ _ hai hgs (by omega) (by omega) hg0) (Seals.refl _ _) (by repeat (first | exact Sub.nil _ | refine Sub.cons (by repeat (first | exact List.Mem.head _ | apply List.Mem.tail)) ?_)) ?_
            rintro _ _ _ ⟨rfl, y3, y4, rfl, rfl⟩
            refine index_elem 1 rfl hr i rfl (by omega) ?_
            refine StoreK.post (store_elem (d := zd (A.getD i 0 / g)) 1 rfl i (by omega) rfl (by kernel_rfl) (Reads.fact (by repeat (first | exact List.Mem.head _ | apply List.Mem.tail))) ⟨_, _, Seals.own_cong (os := [_, _]) 1 (fun y => zd (if y < i + 1 then A.getD y 0 / g else A.getD y 0)) rfl rfl (fun y _ => div_s A g i y), ?_⟩)
            refine ar rfl (by first | exact ⟨by omega, by omega⟩ | (simp only [inK]; omega)) ?_
            exact again (i + 1) (by omega) (by simp only; omega) (by repeat (first | exact trivial | refine ⟨rfl, ?_⟩ | refine ⟨i64_eq (by first | omega | (simp only; omega)), ?_⟩ | refine ⟨u64_eq (by first | omega | (simp only; omega)), ?_⟩)) (Seals.trans (Seals.box0 rfl) (Seals.sub (by repeat (first | exact Sub.nil _ | refine Sub.cons (by repeat (first | exact List.Mem.head _ | apply List.Mem.tail)) ?_))))
          ·
            refine ord_go [0, 1, 2, 3, 4, 5, 6, 7, 8, 9, 12, 13, 10, 11] (by kernel_rfl) (by kernel_rfl) ?_
            refine index_elem 1 rfl hr i rfl (by omega) ?_
            refine load_elem' (d := zd (A.getD i 0)) 1 rfl i (by omega) (by rw [if_neg (by omega)]) (load_I _ _) fun y1 => ?_
            refine load_box (d := zd g) 0 rfl hc rfl (load_I _ _) fun y2 => ?_
            refine call_fn (zDivModZ y1 y2 _ _ _ _ hai hgs (by omega) (by omega) hg0) (Seals.refl _ _) (by repeat (first | exact Sub.nil _ | refine Sub.cons (by repeat (first | exact List.Mem.head _ | apply List.Mem.tail)) ?_)) ?_
            rintro _ _ _ ⟨rfl, y3, y4, rfl, rfl⟩
            refine index_elem 1 rfl hr i rfl (by omega) ?_
            refine StoreK.post (store_elem (d := zd (A.getD i 0 / g)) 1 rfl i (by omega) rfl (by kernel_rfl) (Reads.fact (by repeat (first | exact List.Mem.head _ | apply List.Mem.tail))) ⟨_, _, Seals.own_cong (os := [_, _]) 1 (fun y => zd (if y < i + 1 then A.getD y 0 / g else A.getD y 0)) rfl rfl (fun y _ => div_s A g i y), ?_⟩)
            refine ar rfl (by first | exact ⟨by omega, by omega⟩ | (simp only [inK]; omega)) ?_
            exact again (i + 1) (by omega) (by simp only; omega) (by repeat (first | exact trivial | refine ⟨rfl, ?_⟩ | refine ⟨i64_eq (by first | omega | (simp only; omega)), ?_⟩ | refine ⟨u64_eq (by first | omega | (simp only; omega)), ?_⟩)) (Seals.trans (Seals.box0 rfl) (Seals.sub (by repeat (first | exact Sub.nil _ | refine Sub.cons (by repeat (first | exact List.Mem.head _ | apply List.Mem.tail)) ?_))))
      · have hip : i = A.length := by omega
        subst hip
        refine call_fn (hn r) (Seals.trans (Seals.drop 0 _ _) (Seals.told (g := fun y => A.getD y 0 / g) hr fun y hy => by rw [if_pos hy])) (by repeat (first | exact Sub.nil _ | refine Sub.cons (by repeat (first | exact List.Mem.head _ | apply List.Mem.tail)) ?_)) ?_
        rintro u _ _ ⟨rfl, rfl⟩
        exact fin ⟨rfl, rfl⟩ (Seals.sub (by repeat (first | exact Sub.nil _ | refine Sub.cons (by repeat (first | exact List.Mem.head _ | apply List.Mem.tail)) ?_)))
theorem pPrimitiveT (v : Value) (p : List Int) (k : Nat) (hp : szR k p) (hk : k ≤ 137438953472) (lp : p.length ≤ 1073741824) :
    Meets Try.prog 80 [v] [(v, vd p)] (fun r os fs => os = [] ∧ fs = [(r, vd (pprim p))]) := by
  have h := pPrimitive_meets v (p.map cn) k hp.fit hk (by rw [List.length_map]; exact lp)
  rw [vv_cn] at h
  exact h
end Go.Proofs.Ytajkjlgddmkkaaa

namespace Go.Proofs.Ytajkjlgddmkkaaa
open Go.RowKit
theorem ld_nm {l : List Int} (h : Nm l) : ld l = l.getD (l.length - 1) 0 := by unfold ld; rw [dg_nm h]
theorem pLeadN (v : Value) (l : List Int) (hl : Nm l) (h0 : 0 < l.length) :
    Meets Try.prog 106 [v] [(v, vd l)] (fun r os fs => os = [] ∧ fs = [(r, zd (ld l))]) := by
  rw [ld_nm hl]
  exact pLeadT v l (List.length_pos_iff.1 h0)
/-- What Rest tells: t and r with L^d p = q t + r, r of a lesser degree. -/
structure RestSpec (p q t r : List Int) : Prop where
  tn : Nm t
  rn : Nm r
  low : dg r < dg q
  eq : ∀ x, ld q ^ (dg p + 1 - dg q) * pev p x = pev q x * pev t x + pev r x
def rT (D T R : List Int) : List Int := padd (prai (ld D) 0 T) (prai (ld R) (R.length - D.length) [1])
def rR (D R : List Int) : List Int := psub (prai (ld D) 0 R) (prai (ld R) (R.length - D.length) D)
theorem rest_step {D T R P : List Int} {j : Nat} (hD : Nm D) (hR : Nm R) (h0 : 0 < D.length) (hl : D.length ≤ R.length) (e : ∀ x, ld D ^ j * pev P x = pev D x * pev T x + pev R x) :
    (∀ x, ld D ^ (j + 1) * pev P x = pev D x * pev (rT D T R) x + pev (rR D R) x) ∧ (rR D R).length < R.length := by
  constructor
  · intro x
    have h := e x
    rw [rT, rR, ev_padd, ev_psub, ev_prai, ev_prai, ev_prai, ev_prai, Int.pow_succ]
    simp only [pev, Int.pow_zero] at h ⊢
    grind
  · have := red_dg (p := R) (q := D) (by rw [dg_nm hD]; exact h0) (by rw [dg_nm hD, dg_nm hR]; exact hl)
    rw [dg_nm hD, dg_nm hR, dg_nm (psub_nm _ _)] at this
    exact this
theorem rest_more {D T R P : List Int} {j : Nat} (e : ∀ x, ld D ^ j * pev P x = pev D x * pev T x + pev R x) :
    ∀ x, ld D ^ (j + 1) * pev P x = pev D x * pev (prai (ld D) 0 T) x + pev (prai (ld D) 0 R) x := fun x => by
  have h := e x
  rw [ev_prai, ev_prai, Int.pow_succ]
  simp only [Int.pow_zero] at h ⊢
  grind
theorem rT_len {D T R : List Int} {n : Nat} (h0 : 0 < D.length) (hl : D.length ≤ R.length) (hT : T.length ≤ n) (hR : R.length ≤ n) : (rT D T R).length ≤ n := by
  have h1 := padd_len (prai (ld D) 0 T) (prai (ld R) (R.length - D.length) [1])
  have h2 := prai_len (ld D) 0 T
  have h3 := prai_len (ld R) (R.length - D.length) [1]
  simp only [List.length_cons, List.length_nil] at h3
  unfold rT
  omega
theorem rT_sz {D T R : List Int} {e k : Nat} (hD : szR k D) (hT : szR e T) (hR : szR e R) (hk : 1 ≤ k) : szR (e + k + 1) (rT D T R) := by
  have h1 : szR (e + k) (prai (ld R) (R.length - D.length) [1]) := by
    have : szR k [1] := fun x hx => by
      rw [List.mem_singleton.1 hx]; exact (sz_one 1 (by decide)).mono hk
    have := this.prai (hR.get (dg R - 1)) (R.length - D.length)
    rwa [Nat.add_comm] at this
  exact (hT.prai (hD.get (dg D - 1)) 0).padd h1
theorem rR_sz {D R : List Int} {e k : Nat} (hD : szR k D) (hR : szR e R) : szR (e + k + 1) (rR D R) := by
  have h1 : szR (e + k) (prai (ld R) (R.length - D.length) D) := by
    have := hD.prai (hR.get (dg R - 1)) (R.length - D.length)
    rwa [Nat.add_comm] at this
  exact (hR.prai (hD.get (dg D - 1)) 0).psub h1
theorem szR_one (k : Nat) (hk : 1 ≤ k) : szR k [1] := fun x hx => by
  rw [List.mem_singleton.1 hx]; exact (sz_one 1 (by decide)).mono hk
/-- How many limbs after j steps. -/
def re (k j : Nat) : Nat := k + j * (k + 1)
theorem re_succ (k j : Nat) : re k (j + 1) = re k j + k + 1 := by unfold re; rw [Nat.succ_mul]; omega
theorem re_mono {k j m : Nat} (h : j ≤ m) : re k j ≤ re k m := by
  unfold re
  have := Nat.mul_le_mul_right (k + 1) h
  omega
theorem re_ge (k j : Nat) : k ≤ re k j := by unfold re; omega
theorem pRest_meets (v w : Value) (p q : Row) (k : Nat) (hp : Fit k p) (hq : Fit k q) (h1k : 1 ≤ k) (hk : re k (p.length + 1) ≤ 137438953472) (lp : p.length ≤ 536870912) (lq : q.length ≤ 536870912) :
    Meets Try.prog 81 [v, w] [(v, V p), (w, V q)] (fun r os fs => os = [] ∧ ∃ a b T R, (if dg (vv q) = 0 then r = .tuple #[a, b, .int .i64 2] ∧ T = [] ∧ R = [] else r = .tuple #[a, b, .int .i64 0] ∧ RestSpec (vv p) (vv q) T R ∧ szR (re k (dg (vv p) + 1 - dg (vv q))) T ∧ szR (re k (dg (vv p) + 1 - dg (vv q))) R ∧ T.length ≤ p.length ∧ R.length ≤ p.length) ∧
      fs = [(a, vd T), (b, vd R)]) := by
  have hkk : k ≤ re k (p.length + 1) := re_ge _ _
  have n1 := pNorm_meets v p (hp.mono (by omega)) (by omega)
  have n2 := pNorm_meets w q (hq.mono (by omega)) (by omega)
  have sP := hp.szR.nrm
  have sD := hq.szR.nrm
  have la : (nrm (vv p)).length ≤ p.length := Nat.le_trans (nrm_length_le _) (by rw [vv_len]; exact Nat.le_refl _)
  have lb : (nrm (vv q)).length ≤ q.length := Nat.le_trans (nrm_length_le _) (by rw [vv_len]; exact Nat.le_refl _)
  have hPn : Nm (nrm (vv p)) := nrm_nrm _
  have hDn : Nm (nrm (vv q)) := nrm_nrm _
  have hspec : ∀ T R, Nm T → Nm R → R.length < (nrm (vv q)).length → (∀ x, ld (nrm (vv q)) ^ ((nrm (vv p)).length + 1 - (nrm (vv q)).length) * pev (nrm (vv p)) x = pev (nrm (vv q)) x * pev T x + pev R x) → RestSpec (vv p) (vv q) T R := fun T R h1 h2 h3 h4 =>
    ⟨h1, h2, by rw [dg_nm h2]; exact h3, fun x => by
      have := h4 x
      rw [ev_nrm, ev_nrm, ld_ext (ev_nrm (vv q))] at this
      exact this⟩
  have hdq : dg (vv q) = (nrm (vv q)).length := rfl
  have hdp : dg (vv p) = (nrm (vv p)).length := rfl
  rw [hdq, hdp]
  generalize hA : nrm (vv p) = A at *
  generalize hB : nrm (vv q) = D at *
  refine meets_of_vc Try.func81 (by kernel_rfl) rfl (by kernel_rfl) (Nat.le_of_ble_eq_true rfl) ?_
  refine call_fn n1 (Seals.refl _ _) (by repeat (first | exact Sub.nil _ | refine Sub.cons (by repeat (first | exact List.Mem.head _ | apply List.Mem.tail)) ?_)) ?_
  rintro x1 _ _ ⟨rfl, rfl⟩
  refine call_fn n2 (Seals.refl _ _) (by repeat (first | exact Sub.nil _ | refine Sub.cons (by repeat (first | exact List.Mem.head _ | apply List.Mem.tail)) ?_)) ?_
  rintro x2 _ _ ⟨rfl, rfl⟩
  refine len_vd (by repeat (first | exact List.Mem.head _ | apply List.Mem.tail)) ?_
  refine cmp_split _ rfl (fun hz => ?_) (fun hz => ?_)
  · refine fin ⟨rfl, _, _, [], [], ?_, rfl⟩ (Seals.cons (Knw.nil 2 _) (Seals.cons (Knw.nil 2 _) (Seals.nil _ _)))
    rw [if_pos (by omega)]
    exact ⟨rfl, rfl, rfl⟩
  have hD0 : 0 < D.length := by omega
  refine len_vd (by repeat (first | exact List.Mem.head _ | apply List.Mem.tail)) ?_
  refine len_vd (by repeat (first | exact List.Mem.head _ | apply List.Mem.tail)) ?_
  refine ar rfl (by first | exact ⟨by omega, by omega⟩ | (simp only [inK]; omega)) ?_
  refine ar rfl (by first | exact ⟨by omega, by omega⟩ | (simp only [inK]; omega)) ?_
  refine max2_rule ?_
  have hld : sz (ld D) k := sD.get _
  refine loop_rule (X := Value × Value × List Int × List Int × Nat) (fun x => ([(7, x.2.1), (8, x2), (9, .int .i64 (x.2.2.2.2 : Nat)), (10, x.1)], [], [(x2, vd D), (x.1, vd x.2.2.1), (x.2.1, vd x.2.2.2.1)]))
    (fun x => Nm x.2.2.1 ∧ Nm x.2.2.2.1 ∧ x.2.2.2.2 ≤ A.length + 1 - D.length ∧ x.2.2.2.1.length < D.length + x.2.2.2.2 ∧ x.2.2.1.length ≤ p.length ∧ x.2.2.2.1.length ≤ p.length ∧ szR (re k (A.length + 1 - D.length - x.2.2.2.2)) x.2.2.1 ∧ szR (re k (A.length + 1 - D.length - x.2.2.2.2)) x.2.2.2.1 ∧
      ∀ y, ld D ^ (A.length + 1 - D.length - x.2.2.2.2) * pev A y = pev D y * pev x.2.2.1 y + pev x.2.2.2.1 y) (fun x => x.2.2.2.2) rfl ?_ ?_
  · refine again (.slice none 0 0, x1, [], A, A.length + 1 - D.length) ⟨rfl, hPn, Nat.le_refl _, by simp only; omega, Nat.zero_le _, la, fun x hx => by simp at hx, sP.mono (re_ge _ _), fun y => by simp only [Nat.sub_self, Int.pow_zero, pev]; omega⟩ trivial (by repeat (first | exact trivial | refine ⟨rfl, ?_⟩ | refine ⟨i64_eq (by first | omega | (simp only; omega)), ?_⟩ | refine ⟨u64_eq (by first | omega | (simp only; omega)), ?_⟩)) ?_
    exact Seals.trans (Seals.sub (fs' := [(x2, vd D), (x1, vd A)]) (by repeat (first | exact Sub.nil _ | refine Sub.cons (by repeat (first | exact List.Mem.head _ | apply List.Mem.tail)) ?_))) (Seals.trans (Seals.cons (Knw.nil 2 _) (Seals.sub (fs' := [(x2, vd D), (x1, vd A)]) (by repeat (first | exact Sub.nil _ | refine Sub.cons (by repeat (first | exact List.Mem.head _ | apply List.Mem.tail)) ?_)))) (Seals.sub (by repeat (first | exact Sub.nil _ | refine Sub.cons (by repeat (first | exact List.Mem.head _ | apply List.Mem.tail)) ?_))))
  · rintro ⟨vt, vr, T, R, n⟩ ⟨g1, g2, g3, g4, g5, g6, g7, g8, g9⟩
    simp only at g1 g2 g3 g4 g5 g6 g7 g8 g9 ⊢
    refine len_vd (by repeat (first | exact List.Mem.head _ | apply List.Mem.tail)) ?_
    refine len_vd (by repeat (first | exact List.Mem.head _ | apply List.Mem.tail)) ?_
    refine cmp_split _ rfl (fun hge => ?_) (fun hge => ?_)
    · have hge' : D.length ≤ R.length := by omega
      have hn1 : A.length + 1 - D.length - (n - 1) = A.length + 1 - D.length - n + 1 := by omega
      obtain ⟨s1, s2⟩ := rest_step hDn g2 hD0 hge' g9
      have hre : re k (A.length + 1 - D.length - n) + k + 1 ≤ re k (p.length + 1) := by
        rw [← re_succ]; exact re_mono (by omega)
      have z1 := rT_sz sD g7 g8 h1k
      have z2 := rR_sz sD g8
      rw [← re_succ, ← hn1] at z1 z2
      have hlR : sz (ld R) (re k (A.length + 1 - D.length - n)) := g8.get _
      have c1 := fun u u' => pRaisedT u u' T (ld D) 0 _ k g7 hld (by omega) (by omega) (by omega)
      have c2 := fun u u' => pRaisedT u u' [1] (ld R) (R.length - D.length) k _ (szR_one k h1k) hlR (by omega) (by show 1 ≤ _; omega) (by omega)
      have c3 := fun u => pSumT u (prai (ld D) 0 T) (prai (ld R) (R.length - D.length) [1]) (re k (A.length + 1 - D.length - n) + k) (g7.prai hld 0) (by
        have := (szR_one k h1k).prai hlR (R.length - D.length)
        rwa [Nat.add_comm] at this) (by omega) (by have := prai_len (ld D) 0 T; omega) (by have := prai_len (ld R) (R.length - D.length) [1]; simp only [List.length_cons, List.length_nil] at this; omega)
      have c4 := fun u u' => pRaisedT u u' R (ld D) 0 _ k g8 hld (by omega) (by omega) (by omega)
      have c5 := fun u u' => pRaisedT u u' D (ld R) (R.length - D.length) k _ sD hlR (by omega) (by omega) (by omega)
      have c6 := fun u u' => pSubT u u' (prai (ld D) 0 R) (prai (ld R) (R.length - D.length) D) (re k (A.length + 1 - D.length - n) + k) (g8.prai hld 0) (by
        have := sD.prai hlR (R.length - D.length)
        rwa [Nat.add_comm] at this) (by omega) (by have := prai_len (ld D) 0 R; omega) (by have := prai_len (ld R) (R.length - D.length) D; omega)
      have lT := rT_len hD0 hge' g5 g6
      have e1 : padd (prai (ld D) 0 T) (prai (ld R) (R.length - D.length) [1]) = rT D T R := rfl
      have e2 : psub (prai (ld D) 0 R) (prai (ld R) (R.length - D.length) D) = rR D R := rfl
      have tn : Nm (rT D T R) := padd_nm _ _
      have rn : Nm (rR D R) := psub_nm _ _
      rw [e1] at c3
      rw [e2] at c6
      refine call_fn (pLeadN vr R g2 (by omega)) (Seals.refl _ _) (by repeat (first | exact Sub.nil _ | refine Sub.cons (by repeat (first | exact List.Mem.head _ | apply List.Mem.tail)) ?_)) ?_
      rintro y1 _ _ ⟨rfl, rfl⟩
      refine len_vd (by repeat (first | exact List.Mem.head _ | apply List.Mem.tail)) ?_
      refine len_vd (by repeat (first | exact List.Mem.head _ | apply List.Mem.tail)) ?_
      refine ar rfl (by first | exact ⟨by omega, by omega⟩ | (simp only [inK]; omega)) ?_
      refine alloc_rule (d := I false []) fun c hc => ?_
      refine store_box (d := zd (ld R)) 0 rfl hc rfl (by kernel_rfl) ?_ ?_; exact Reads.fact (by repeat (first | exact List.Mem.head _ | apply List.Mem.tail))
      refine draw_rule [0, 1, 6, 7, 2, 3, 4, 5, 8, 9, 10, 11] [0, 1, 2, 3, 4, 5, 6, 7, 8, 9, 10, 11] (by kernel_rfl) (by kernel_rfl) ?_
      refine load_box (d := zd (ld R)) 0 rfl hc rfl (load_I _ _) fun y2 => ?_
      refine call_fn (pLeadN x2 D hDn hD0) (Seals.refl _ _) (by repeat (first | exact Sub.nil _ | refine Sub.cons (by repeat (first | exact List.Mem.head _ | apply List.Mem.tail)) ?_)) ?_
      rintro y3 _ _ ⟨rfl, rfl⟩
      refine call_fn (c1 vt y3) (Seals.refl _ _) (by repeat (first | exact Sub.nil _ | refine Sub.cons (by repeat (first | exact List.Mem.head _ | apply List.Mem.tail)) ?_)) ?_
      rintro y4 _ _ ⟨rfl, rfl⟩
      refine call_fn (zof_meets 1 (by decide) (by decide)) (Seals.refl _ _) (by repeat (first | exact Sub.nil _ | refine Sub.cons (by repeat (first | exact List.Mem.head _ | apply List.Mem.tail)) ?_)) ?_
      rintro y5 _ _ ⟨rfl, rfl⟩
      refine lit_L (size := 2) (f := J) (z := z0) (e := 28) (cn 1) (by decide) (Reads.fact (by repeat (first | exact List.Mem.head _ | apply List.Mem.tail))) rfl fun y6 => ?_
      have c2' := c2 y6 y2
      rw [show ((R.length - D.length : Nat) : Int) = (R.length : Int) - (D.length : Int) by omega] at c2'
      refine call_fn c2' (Seals.refl _ _) (by repeat (first | exact Sub.nil _ | refine Sub.cons (by repeat (first | exact List.Mem.head _ | apply List.Mem.tail)) ?_)) ?_
      rintro y7 _ _ ⟨rfl, rfl⟩
      refine lit2_L (size := 1) (f := V) (z := []) (e := 46) ((prai (ld D) 0 T).map cn) ((prai (ld R) (R.length - D.length) [1]).map cn) (by decide) (Reads.fact (by repeat (first | exact List.Mem.head _ | apply List.Mem.tail))) (Reads.fact (by repeat (first | exact List.Mem.head _ | apply List.Mem.tail))) rfl rfl fun y8 => ?_
      refine call_fn (c3 y8) (Seals.refl _ _) (by repeat (first | exact Sub.nil _ | refine Sub.cons (by repeat (first | exact List.Mem.head _ | apply List.Mem.tail)) ?_)) ?_
      rintro y9 _ _ ⟨rfl, rfl⟩
      refine draw_rule [0, 1, 4, 5, 6, 2, 3, 7, 8, 9] [0, 1, 2, 3, 4, 5, 6, 7, 8, 9] (by kernel_rfl) (by kernel_rfl) ?_
      refine load_box (d := zd (ld R)) 0 rfl hc rfl (load_I _ _) fun y10 => ?_
      refine call_fn (pLeadN x2 D hDn hD0) (Seals.refl _ _) (by repeat (first | exact Sub.nil _ | refine Sub.cons (by repeat (first | exact List.Mem.head _ | apply List.Mem.tail)) ?_)) ?_
      rintro y11 _ _ ⟨rfl, rfl⟩
      refine call_fn (c4 vr y11) (Seals.refl _ _) (by repeat (first | exact Sub.nil _ | refine Sub.cons (by repeat (first | exact List.Mem.head _ | apply List.Mem.tail)) ?_)) ?_
      rintro y12 _ _ ⟨rfl, rfl⟩
      have c5' := c5 x2 y10
      rw [show ((R.length - D.length : Nat) : Int) = (R.length : Int) - (D.length : Int) by omega] at c5'
      refine call_fn c5' (Seals.refl _ _) (by repeat (first | exact Sub.nil _ | refine Sub.cons (by repeat (first | exact List.Mem.head _ | apply List.Mem.tail)) ?_)) ?_
      rintro y13 _ _ ⟨rfl, rfl⟩
      refine call_fn (c6 y12 y13) (Seals.refl _ _) (by repeat (first | exact Sub.nil _ | refine Sub.cons (by repeat (first | exact List.Mem.head _ | apply List.Mem.tail)) ?_)) ?_
      rintro y14 _ _ ⟨rfl, rfl⟩
      refine ar rfl (by first | exact ⟨by omega, by omega⟩ | (simp only [inK]; omega)) ?_
      refine again (y9, y14, rT D T R, rR D R, n - 1) ⟨tn, rn, by simp only; omega, by simp only; omega, lT, by simp only; omega, z1, z2, fun y => by simp only; rw [hn1]; exact s1 y⟩ (by simp only; omega) (by repeat (first | exact trivial | refine ⟨rfl, ?_⟩ | refine ⟨i64_eq (by first | omega | (simp only; omega)), ?_⟩ | refine ⟨u64_eq (by first | omega | (simp only; omega)), ?_⟩)) ?_
      exact Seals.trans (Seals.drop 0 _ _) (Seals.sub (by repeat (first | exact Sub.nil _ | refine Sub.cons (by repeat (first | exact List.Mem.head _ | apply List.Mem.tail)) ?_)))
    · have hlt : R.length < D.length := by omega
      refine loop_rule (X := Value × Value × List Int × List Int × Nat) (fun x => ([(7, x.2.1), (8, x2), (10, x.1), (61, .int .i64 (n : Nat)), (62, .int .i64 (x.2.2.2.2 : Nat))], [], [(x2, vd D), (x.1, vd x.2.2.1), (x.2.1, vd x.2.2.2.1)]))
        (fun x => Nm x.2.2.1 ∧ Nm x.2.2.2.1 ∧ x.2.2.2.2 ≤ n ∧ x.2.2.2.1.length < D.length ∧ x.2.2.1.length ≤ p.length ∧ x.2.2.2.1.length ≤ p.length ∧ szR (re k (A.length + 1 - D.length - n + x.2.2.2.2)) x.2.2.1 ∧ szR (re k (A.length + 1 - D.length - n + x.2.2.2.2)) x.2.2.2.1 ∧
          ∀ y, ld D ^ (A.length + 1 - D.length - n + x.2.2.2.2) * pev A y = pev D y * pev x.2.2.1 y + pev x.2.2.2.1 y) (fun x => n - x.2.2.2.2) rfl ?_ ?_
      · exact again (vt, vr, T, R, 0) ⟨g1, g2, Nat.zero_le _, hlt, g5, g6, g7, g8, g9⟩ trivial (by repeat (first | exact trivial | refine ⟨rfl, ?_⟩ | refine ⟨i64_eq (by first | omega | (simp only; omega)), ?_⟩ | refine ⟨u64_eq (by first | omega | (simp only; omega)), ?_⟩)) (Seals.sub (by repeat (first | exact Sub.nil _ | refine Sub.cons (by repeat (first | exact List.Mem.head _ | apply List.Mem.tail)) ?_)))
      · rintro ⟨vt, vr, T, R, i⟩ ⟨g1, g2, g3', g4, g5, g6, g7, g8, g9⟩
        simp only at g1 g2 g3' g4 g5 g6 g7 g8 g9 ⊢
        refine cmp_split _ rfl (fun hlt => ?_) (fun hlt => ?_)
        · have hin : i < n := by omega
          have s1 := rest_more g9
          have hre : re k (A.length + 1 - D.length - n + i) + k + 1 ≤ re k (p.length + 1) := by
            rw [← re_succ]; exact re_mono (by omega)
          have hre2 : re k (A.length + 1 - D.length - n + i) + k ≤ re k (A.length + 1 - D.length - n + (i + 1)) := by
            have := re_succ k (A.length + 1 - D.length - n + i)
            rw [show A.length + 1 - D.length - n + i + 1 = A.length + 1 - D.length - n + (i + 1) by omega] at this
            omega
          have z1 := (g7.prai hld 0).mono hre2
          have z2 := (g8.prai hld 0).mono hre2
          have l1 := prai_len (ld D) 0 T
          have l2 := prai_len (ld D) 0 R
          have c1 := fun u u' => pRaisedT u u' T (ld D) 0 _ k g7 hld (by omega) (by omega) (by omega)
          have c4 := fun u u' => pRaisedT u u' R (ld D) 0 _ k g8 hld (by omega) (by omega) (by omega)
          refine call_fn (pLeadN x2 D hDn hD0) (Seals.refl _ _) (by repeat (first | exact Sub.nil _ | refine Sub.cons (by repeat (first | exact List.Mem.head _ | apply List.Mem.tail)) ?_)) ?_
          rintro y3 _ _ ⟨rfl, rfl⟩
          refine call_fn (c1 vt y3) (Seals.refl _ _) (by repeat (first | exact Sub.nil _ | refine Sub.cons (by repeat (first | exact List.Mem.head _ | apply List.Mem.tail)) ?_)) ?_
          rintro y4 _ _ ⟨rfl, rfl⟩
          refine call_fn (pLeadN x2 D hDn hD0) (Seals.refl _ _) (by repeat (first | exact Sub.nil _ | refine Sub.cons (by repeat (first | exact List.Mem.head _ | apply List.Mem.tail)) ?_)) ?_
          rintro y5 _ _ ⟨rfl, rfl⟩
          refine call_fn (c4 vr y5) (Seals.refl _ _) (by repeat (first | exact Sub.nil _ | refine Sub.cons (by repeat (first | exact List.Mem.head _ | apply List.Mem.tail)) ?_)) ?_
          rintro y6 _ _ ⟨rfl, rfl⟩
          refine ar rfl (by first | exact ⟨by omega, by omega⟩ | (simp only [inK]; omega)) ?_
          refine again (y4, y6, prai (ld D) 0 T, prai (ld D) 0 R, i + 1) ⟨prai_nm _ _ _, prai_nm _ _ _, hin, by simp only; omega, by simp only; omega, by simp only; omega, z1, z2, fun y => s1 y⟩ (by simp only; omega) (by repeat (first | exact trivial | refine ⟨rfl, ?_⟩ | refine ⟨i64_eq (by first | omega | (simp only; omega)), ?_⟩ | refine ⟨u64_eq (by first | omega | (simp only; omega)), ?_⟩)) (Seals.sub (by repeat (first | exact Sub.nil _ | refine Sub.cons (by repeat (first | exact List.Mem.head _ | apply List.Mem.tail)) ?_)))
        · have hin : i = n := by omega
          have q4 := g4
          subst hin
          have hj : A.length + 1 - D.length - i + i = A.length + 1 - D.length := by omega
          rw [hj] at g7 g8 g9
          refine fin ⟨rfl, vt, vr, T, R, ?_, rfl⟩ (Seals.sub (by repeat (first | exact Sub.nil _ | refine Sub.cons (by repeat (first | exact List.Mem.head _ | apply List.Mem.tail)) ?_)))
          rw [if_neg (by omega)]
          exact ⟨rfl, hspec T R g1 g2 q4 g9, g7, g8, g5, g6⟩
theorem pRestT (v w : Value) (p q : List Int) (k : Nat) (hp : szR k p) (hq : szR k q) (h1k : 1 ≤ k) (hk : re k (p.length + 1) ≤ 137438953472) (lp : p.length ≤ 536870912) (lq : q.length ≤ 536870912) :
    Meets Try.prog 81 [v, w] [(v, vd p), (w, vd q)] (fun r os fs => os = [] ∧ ∃ a b T R, (if dg q = 0 then r = .tuple #[a, b, .int .i64 2] ∧ T = [] ∧ R = [] else r = .tuple #[a, b, .int .i64 0] ∧ RestSpec p q T R ∧ szR (re k (dg p + 1 - dg q)) T ∧ szR (re k (dg p + 1 - dg q)) R ∧ T.length ≤ p.length ∧ R.length ≤ p.length) ∧
      fs = [(a, vd T), (b, vd R)]) := by
  have h := pRest_meets v w (p.map cn) (q.map cn) k hp.fit hq.fit h1k (by rw [List.length_map]; exact hk) (by rw [List.length_map]; exact lp) (by rw [List.length_map]; exact lq)
  rw [vv_cn, vv_cn, List.length_map] at h
  exact h
end Go.Proofs.Ytajkjlgddmkkaaa

namespace Go.Proofs.Ytajkjlgddmkkaaa
open Go.RowKit
theorem re_one (k j : Nat) : re k j + 1 = (k + 1) * (j + 1) := by
  unfold re; grind
theorem two_three (d : Nat) : d + 2 ≤ 2 * 3 ^ d := by
  induction d with
  | zero => decide
  | succ d ih => rw [Nat.pow_succ]; omega
theorem szR.pprim {k : Nat} {l : List Int} (h : szR k l) : szR k (pprim l) := szR.nrm fun x hx => by
  obtain ⟨y, hy, rfl⟩ := List.mem_map.1 hx
  exact sz_div (h.nrm y hy)
/-- The limbs of what Gcd works with: at most this, after s steps that took d from the degrees. -/
def ge (k s d : Nat) : Nat := (k + 1) * (2 ^ s * 3 ^ d)
theorem ge_step {e k s d j δ : Nat} (h : e + 1 ≤ ge k s d) (hj : j + 1 ≤ δ + 2) : re e j + 1 ≤ ge k (s + 1) (d + δ) := by
  rw [re_one]
  have h1 : (e + 1) * (j + 1) ≤ ge k s d * (2 * 3 ^ δ) := Nat.mul_le_mul h (Nat.le_trans hj (two_three δ))
  have h2 : ge k s d * (2 * 3 ^ δ) = ge k (s + 1) (d + δ) := by
    unfold ge
    rw [Nat.pow_succ, Nat.pow_add, Nat.mul_assoc]
    congr 1
    rw [Nat.mul_assoc, Nat.mul_assoc, ← Nat.mul_assoc (3 ^ d), Nat.mul_comm (3 ^ d) 2, Nat.mul_assoc]
  omega
theorem ge_mono {k s s' d d' : Nat} (hs : s ≤ s') (hd : d ≤ d') : ge k s d ≤ ge k s' d' :=
  Nat.mul_le_mul_left _ (Nat.mul_le_mul (Nat.pow_le_pow_right (by decide) hs) (Nat.pow_le_pow_right (by decide) hd))
theorem pGcd_meets (v w : Value) (p q : Row) (k n : Nat) (hp : Fit k p) (hq : Fit k q) (h1k : 1 ≤ k) (lp : p.length ≤ n) (lq : q.length ≤ n) (hn : n ≤ 536870912) (hk : ge k n n * (n + 2) ≤ 137438953472) :
    Meets Try.prog 46 [v, w] [(v, V p), (w, V q)] (fun r os fs => os = [] ∧ ∃ G, Nm G ∧ Gc G (vv p) (vv q) ∧ fs = [(r, vd G)]) := by
  have hge1 : k + 1 ≤ ge k n n := by
    unfold ge
    exact Nat.le_mul_of_pos_right _ (Nat.mul_pos (Nat.pow_pos (by decide)) (Nat.pow_pos (by decide)))
  have hge2 : ge k n n * 2 ≤ ge k n n * (n + 2) := Nat.mul_le_mul_left _ (by omega)
  have hcs1 : sz (cont (vv p) : Nat) k := cont_sz hp.szR
  have hcs2 : sz (cont (vv q) : Nat) k := cont_sz hq.szR
  have sP := hp.szR.pprim
  have sQ := hq.szR.pprim
  have dP : dg (vv p) ≤ n := Nat.le_trans (dg_le_len _) (by rw [vv_len]; exact lp)
  have dQ : dg (vv q) ≤ n := Nat.le_trans (dg_le_len _) (by rw [vv_len]; exact lq)
  have eP : (pprim (vv p)).length = dg (vv p) := by rw [← dg_nm (pprim_nm _), pprim_dg]
  have eQ : (pprim (vv q)).length = dg (vv q) := by rw [← dg_nm (pprim_nm _), pprim_dg]
  have hcg : sz ((Nat.gcd (cont (vv p)) (cont (vv q)) : Nat) : Int) k := by
    by_cases e : cont (vv p) = 0
    · rw [e, Nat.gcd_zero_left]; exact hcs2
    · unfold sz at hcs1 ⊢
      rw [Int.natAbs_natCast] at hcs1 ⊢
      exact Nat.lt_of_le_of_lt (Nat.gcd_le_left _ (Nat.pos_of_ne_zero e)) hcs1
  have hgc := fun u u' => zGcdZ u u' _ _ k k hcs1 hcs2 (by omega) (by omega)
  simp only [Int.natAbs_natCast] at hgc
  refine meets_of_vc Try.func46 (by kernel_rfl) rfl (by kernel_rfl) (Nat.le_of_ble_eq_true rfl) ?_
  refine call_fn (pContent_meets v p k hp (by omega)) (Seals.refl _ _) (by repeat (first | exact Sub.nil _ | refine Sub.cons (by repeat (first | exact List.Mem.head _ | apply List.Mem.tail)) ?_)) ?_
  rintro x1 _ _ ⟨rfl, rfl⟩
  refine call_fn (pContent_meets w q k hq (by omega)) (Seals.refl _ _) (by repeat (first | exact Sub.nil _ | refine Sub.cons (by repeat (first | exact List.Mem.head _ | apply List.Mem.tail)) ?_)) ?_
  rintro x2 _ _ ⟨rfl, rfl⟩
  refine call_fn (hgc x1 x2) (Seals.refl _ _) (by repeat (first | exact Sub.nil _ | refine Sub.cons (by repeat (first | exact List.Mem.head _ | apply List.Mem.tail)) ?_)) ?_
  rintro x3 _ _ ⟨rfl, rfl⟩
  refine alloc_rule (d := I false []) fun c hc => ?_
  refine store_box (d := zd (Nat.gcd (cont (vv p)) (cont (vv q)) : Nat)) 0 rfl hc rfl (by kernel_rfl) ?_ ?_; exact Reads.fact (by repeat (first | exact List.Mem.head _ | apply List.Mem.tail))
  refine call_fn (pPrimitive_meets v p k hp (by omega) (by omega)) (Seals.refl _ _) (by repeat (first | exact Sub.nil _ | refine Sub.cons (by repeat (first | exact List.Mem.head _ | apply List.Mem.tail)) ?_)) ?_
  rintro x4 _ _ ⟨rfl, rfl⟩
  refine call_fn (pPrimitive_meets w q k hq (by omega) (by omega)) (Seals.refl _ _) (by repeat (first | exact Sub.nil _ | refine Sub.cons (by repeat (first | exact List.Mem.head _ | apply List.Mem.tail)) ?_)) ?_
  rintro x5 _ _ ⟨rfl, rfl⟩
  refine loop_rule (X := Value × Value × List Int × List Int × Nat × Nat × Nat) (fun x => ([(5, c), (6, x.1), (7, x.2.1)], [own1 c 2 1 (fun _ => zd (Nat.gcd (cont (vv p)) (cont (vv q)) : Nat))], [(x.1, vd x.2.2.1), (x.2.1, vd x.2.2.2.1)]))
    (fun x => Nm x.2.2.1 ∧ Nm x.2.2.2.1 ∧ x.2.2.2.1.length + x.2.2.2.2.1 ≤ n ∧ x.2.2.2.2.2.1 + max x.2.2.1.length x.2.2.2.1.length ≤ n ∧ szR x.2.2.2.2.2.2 x.2.2.1 ∧ szR x.2.2.2.2.2.2 x.2.2.2.1 ∧ 1 ≤ x.2.2.2.2.2.2 ∧ x.2.2.2.2.2.2 + 1 ≤ ge k x.2.2.2.2.1 x.2.2.2.2.2.1 ∧
      (0 < dg x.2.2.1 → cont x.2.2.1 = 1 ∧ 0 < ld x.2.2.1) ∧ (0 < dg x.2.2.2.1 → cont x.2.2.2.1 = 1 ∧ 0 < ld x.2.2.2.1) ∧ (dg x.2.2.1 = 0 ∧ dg x.2.2.2.1 = 0 → dg (vv p) = 0 ∧ dg (vv q) = 0) ∧
      (∀ h, cont h = 1 → (Dv h x.2.2.1 ∧ Dv h x.2.2.2.1 ↔ Dv h (pprim (vv p)) ∧ Dv h (pprim (vv q))))) (fun x => x.2.2.2.1.length) rfl ?_ ?_
  · refine again (x4, x5, pprim (vv p), pprim (vv q), 0, 0, k) ⟨pprim_nm _, pprim_nm _, by simp only; omega, by simp only; omega, sP, sQ, h1k, by simp [ge], fun h => ?_, fun h => ?_, fun h => ?_, fun _ _ => Iff.rfl⟩ trivial (by repeat (first | exact trivial | refine ⟨rfl, ?_⟩ | refine ⟨i64_eq (by first | omega | (simp only; omega)), ?_⟩ | refine ⟨u64_eq (by first | omega | (simp only; omega)), ?_⟩)) (Seals.trans (Seals.box0 rfl) (Seals.sub (by repeat (first | exact Sub.nil _ | refine Sub.cons (by repeat (first | exact List.Mem.head _ | apply List.Mem.tail)) ?_))))
    · simp only [pprim_dg] at h; exact ⟨pprim_cont h, pprim_ld h⟩
    · simp only [pprim_dg] at h; exact ⟨pprim_cont h, pprim_ld h⟩
    · simp only [pprim_dg] at h; exact h
  · rintro ⟨va, vb, A, B, s, d, e⟩ ⟨g1, g2, g3, g4, g5, g6, g7, g8, g9, g10, g11, g12⟩
    simp only at g1 g2 g3 g4 g5 g6 g7 g8 g9 g10 g11 g12 ⊢
    have hed : e + 1 ≤ ge k n n := Nat.le_trans g8 (ge_mono (by omega) (by omega))
    refine len_vd (by repeat (first | exact List.Mem.head _ | apply List.Mem.tail)) ?_
    refine cmp_split _ rfl (fun hgt => ?_) (fun hgt => ?_)
    · have hB : 0 < dg B := by rw [dg_nm g2]; omega
      have hrb : re e (A.length + 1) ≤ 137438953472 := by
        have h1 := re_one e (A.length + 1)
        have h2 : (e + 1) * (A.length + 1 + 1) ≤ ge k n n * (n + 2) := Nat.mul_le_mul hed (by omega)
        omega
      have hrs := pRestT va vb A B e g5 g6 g7 hrb (by omega) (by omega)
      simp only [if_neg (show ¬ dg B = 0 by omega)] at hrs
      refine call_fn hrs (Seals.refl _ _) (by repeat (first | exact Sub.nil _ | refine Sub.cons (by repeat (first | exact List.Mem.head _ | apply List.Mem.tail)) ?_)) ?_
      rintro _ _ _ ⟨rfl, a, b, T, R, ⟨rfl, hsp, hT, hR, lT, lR⟩, rfl⟩
      have hst := ge_step (j := dg A + 1 - dg B) (δ := dg A - dg B) g8 (by omega)
      have hRB : dg R < dg B := hsp.low
      have hed2 : re e (dg A + 1 - dg B) + 1 ≤ ge k n n := Nat.le_trans hst (ge_mono (by omega) (by rw [dg_nm g1, dg_nm g2]; omega))
      have hk0 : ld B ^ (dg A + 1 - dg B) ≠ 0 := by
        have h0 := ld_ne hB
        have : ∀ m : Nat, ld B ^ m ≠ 0 := fun m => by
          induction m with
          | zero => rw [Int.pow_zero]; omega
          | succ m ih => rw [Int.pow_succ]; exact Int.mul_ne_zero ih h0
        exact this _
      have hge0 : e ≤ re e (dg A + 1 - dg B) := re_ge _ _
      have lR' : (pprim R).length = dg R := by rw [← dg_nm (pprim_nm R), pprim_dg]
      have dA := dg_nm g1
      have dB := dg_nm g2
      refine call_fn (pPrimitiveT b R _ hR (by omega) (by omega)) (Seals.refl _ _) (by repeat (first | exact Sub.nil _ | refine Sub.cons (by repeat (first | exact List.Mem.head _ | apply List.Mem.tail)) ?_)) ?_
      rintro y1 _ _ ⟨rfl, rfl⟩
      refine again (vb, y1, B, pprim R, s + 1, d + (dg A - dg B), re e (dg A + 1 - dg B)) ⟨g2, pprim_nm _, by simp only; omega, by simp only; omega, g6.mono hge0, hR.pprim, by simp only; omega, hst, g10, fun h => ?_, fun h => by simp only at h; omega, fun h hh => ?_⟩ (by simp only; omega) (by repeat (first | exact trivial | refine ⟨rfl, ?_⟩ | refine ⟨i64_eq (by first | omega | (simp only; omega)), ?_⟩ | refine ⟨u64_eq (by first | omega | (simp only; omega)), ?_⟩)) (Seals.trans (Seals.box0 rfl) (Seals.sub (by repeat (first | exact Sub.nil _ | refine Sub.cons (by repeat (first | exact List.Mem.head _ | apply List.Mem.tail)) ?_))))
      · simp only [pprim_dg] at h; exact ⟨pprim_cont h, pprim_ld h⟩
      · rw [← g12 h hh]
        exact (gcd_step hh hk0 hsp.eq).symm
    · have hB : dg B = 0 := by rw [dg_nm g2]; omega
      have hend := gcd_end (p := vv p) (q := vv q) (a := A) g9 (fun h => g11 ⟨h, hB⟩) fun h hh => by
        rw [← g12 h hh]
        exact ⟨fun k => ⟨k, Dv.zero _ (dg_zero.1 hB)⟩, fun k => k.1⟩
      have hra := fun u => pRaisedT va u A _ 0 e k g5 hcg (by omega) (by omega) (by omega)
      simp only [prai_zero] at hra
      refine load_box (d := zd (Nat.gcd (cont (vv p)) (cont (vv q)) : Nat)) 0 rfl hc rfl (load_I _ _) fun y1 => ?_
      refine call_fn (hra y1) (Seals.refl _ _) (by repeat (first | exact Sub.nil _ | refine Sub.cons (by repeat (first | exact List.Mem.head _ | apply List.Mem.tail)) ?_)) ?_
      rintro r _ _ ⟨rfl, rfl⟩
      exact fin ⟨rfl, _, ptim_nm _ _, hend, rfl⟩ (Seals.trans (Seals.drop 0 _ _) (Seals.sub (by repeat (first | exact Sub.nil _ | refine Sub.cons (by repeat (first | exact List.Mem.head _ | apply List.Mem.tail)) ?_))))
end Go.Proofs.Ytajkjlgddmkkaaa

namespace Go.Proofs.Ytajkjlgddmkkaaa
/-- P(x) = P(a) + (x - a) Q(x): this Q. -/
def syn (a : Int) : List Int → List Int
  | [] => []
  | [_] => []
  | _ :: d :: l => pev (d :: l) a :: syn a (d :: l)
theorem syn_len (a : Int) : ∀ l : List Int, (syn a l).length = l.length - 1
  | [] => rfl
  | [_] => rfl
  | _ :: d :: l => by
    have := syn_len a (d :: l)
    simp only [syn, List.length_cons] at this ⊢
    omega
theorem syn_ev (a x : Int) : ∀ l : List Int, pev l x = pev l a + (x - a) * pev (syn a l) x
  | [] => by simp [pev, syn]
  | [c] => by simp [pev, syn]
  | c :: d :: l => by
    have := syn_ev a x (d :: l)
    show c + x * pev (d :: l) x = c + a * pev (d :: l) a + (x - a) * (pev (d :: l) a + x * pev (syn a (d :: l)) x)
    rw [this]; grind
theorem syn_co (a : Int) : ∀ (l : List Int) (i : Nat), l.getD i 0 = (if i = 0 then pev l a else (syn a l).getD (i - 1) 0) - a * (syn a l).getD i 0
  | [], i => by simp [pev, syn]
  | [c], i => by cases i <;> simp [pev, syn]
  | c :: d :: l, 0 => by
    show c = c + a * pev (d :: l) a - a * pev (d :: l) a
    omega
  | c :: d :: l, 1 => by
    have := syn_co a (d :: l) 0
    simp only [if_true] at this
    show (d :: l).getD 0 0 = pev (d :: l) a - a * (syn a (d :: l)).getD 0 0
    exact this
  | c :: d :: l, i + 2 => by
    have := syn_co a (d :: l) (i + 1)
    rw [if_neg (by omega)] at this
    show (d :: l).getD (i + 1) 0 = (syn a (d :: l)).getD i 0 - a * (syn a (d :: l)).getD (i + 1) 0
    exact this
theorem bnd : ∀ (n : Nat) (P : List Int) (pts : Nat → Int) (A B : Nat), P.length ≤ n + 1 → (∀ i, i ≤ n → (pts i).natAbs ≤ A) → (∀ i j, i ≤ n → j ≤ n → i ≠ j → pts i ≠ pts j) → (∀ i, i ≤ n → (pev P (pts i)).natAbs ≤ B) →
    ∀ j, (P.getD j 0).natAbs ≤ B * (2 * A + 3) ^ n
  | 0, P, pts, A, B, hl, _, _, hv, j => by
    have h0 := hv 0 (Nat.le_refl _)
    match P, hl with
    | [], _ => simp
    | [c], _ =>
      simp only [pev] at h0
      cases j with
      | zero => simp at h0 ⊢; exact h0
      | succ j => simp
    | _ :: _ :: _, h => simp at h
  | n + 1, P, pts, A, B, hl, hA, hi, hv, j => by
    have ih := bnd n (syn (pts (n + 1)) P) pts A (2 * B) (by rw [syn_len]; omega) (fun i h => hA i (by omega)) (fun i j h1 h2 => hi i j (by omega) (by omega)) fun i h => by
      have h1 := syn_ev (pts (n + 1)) (pts i) P
      have h2 := hv i (by omega)
      have h3 := hv (n + 1) (Nat.le_refl _)
      have h4 := hi i (n + 1) (by omega) (Nat.le_refl _) (by omega)
      have h5 : ((pts i - pts (n + 1)) * pev (syn (pts (n + 1)) P) (pts i)).natAbs ≤ 2 * B := by
        have : (pts i - pts (n + 1)) * pev (syn (pts (n + 1)) P) (pts i) = pev P (pts i) - pev P (pts (n + 1)) := by omega
        rw [this]
        have := Int.natAbs_sub_le (pev P (pts i)) (pev P (pts (n + 1)))
        omega
      rw [Int.natAbs_mul] at h5
      have h6 : 1 ≤ (pts i - pts (n + 1)).natAbs := by omega
      exact Nat.le_trans (Nat.le_mul_of_pos_left _ h6) h5
    have hp : 1 ≤ (2 * A + 3) ^ n := Nat.pow_pos (by omega)
    have hq : ∀ m, ((syn (pts (n + 1)) P).getD m 0).natAbs ≤ 2 * B * (2 * A + 3) ^ n := ih
    have h1 := syn_co (pts (n + 1)) P j
    have h2 : (pts (n + 1) * (syn (pts (n + 1)) P).getD j 0).natAbs ≤ A * (2 * B * (2 * A + 3) ^ n) := by
      rw [Int.natAbs_mul]
      exact Nat.mul_le_mul (hA _ (Nat.le_refl _)) (hq j)
    have h3 : (if j = 0 then pev P (pts (n + 1)) else (syn (pts (n + 1)) P).getD (j - 1) 0).natAbs ≤ B + 2 * B * (2 * A + 3) ^ n := by
      split
      · exact Nat.le_trans (hv _ (Nat.le_refl _)) (Nat.le_add_right _ _)
      · exact Nat.le_trans (hq _) (Nat.le_add_left _ _)
    have h4 : (P.getD j 0).natAbs ≤ B + 2 * B * (2 * A + 3) ^ n + A * (2 * B * (2 * A + 3) ^ n) := by
      rw [h1]
      exact Nat.le_trans (Int.natAbs_sub_le _ _) (Nat.add_le_add h3 h2)
    refine Nat.le_trans h4 ?_
    have h5 : B ≤ B * (2 * A + 3) ^ n := Nat.le_mul_of_pos_right _ hp
    have h6 : B * (2 * A + 3) ^ (n + 1) = B * (2 * A + 3) ^ n + (2 * B * (2 * A + 3) ^ n + A * (2 * B * (2 * A + 3) ^ n)) := by
      rw [Nat.pow_succ]; grind
    omega
/-- Beyond its coefficients a polynomial that is not 0 has no root. -/
theorem ev_ne {H : Nat} {x : Int} (hx : H < x.natAbs) : ∀ {l : List Int}, (∀ i, (l.getD i 0).natAbs ≤ H) → pev l x = 0 → ∀ i, l.getD i 0 = 0
  | [], _, _, i => by simp
  | c :: l, h, e, i => by
    simp only [pev] at e
    have h0 : c = 0 := by
      have := h 0
      simp only [List.getD_cons_zero] at this
      exact small_dvd (x := x) (k := - pev l x) (by rw [Int.mul_neg]; omega) (by omega)
    have h1 : pev l x = 0 := by
      rw [h0] at e
      rcases Int.mul_eq_zero.1 (show x * pev l x = 0 by omega) with h2 | h2
      · omega
      · exact h2
    cases i with
    | zero => simpa using h0
    | succ i => simpa using ev_ne hx (fun i => by have := h (i + 1); simpa using this) h1 i
theorem dv_bnd {s w : List Int} {H B n : Nat} (h : Dv s w) (hw : 0 < dg w) (hH : ∀ i, (w.getD i 0).natAbs ≤ H) (hs : s.length ≤ n + 1) (hB : ∀ i, i ≤ n → (pev w (H + 1 + i : Nat)).natAbs ≤ B) (j : Nat) :
    (s.getD j 0).natAbs ≤ B * (2 * (H + 1 + n) + 3) ^ n := by
  refine bnd n s (fun i => ((H + 1 + i : Nat) : Int)) (H + 1 + n) B hs (fun i hi => by simp only [Int.natAbs_natCast]; omega) (fun i j _ _ hne he => hne (by omega)) (fun i hi => ?_) j
  obtain ⟨u, hu⟩ := h
  have h1 := hB i hi
  have h2 : pev w (H + 1 + i : Nat) ≠ 0 := fun e => by
    have := ev_ne (H := H) (x := ((H + 1 + i : Nat) : Int)) (by rw [Int.natAbs_natCast]; omega) hH e
    have : dg w ≤ 0 := dg_le.2 fun i _ => this i
    omega
  rw [hu, Int.natAbs_mul] at h1
  have h3 : 1 ≤ (pev u (H + 1 + i : Nat)).natAbs := by
    rw [hu] at h2
    have : pev u (H + 1 + i : Nat) ≠ 0 := fun e => h2 (by rw [e]; simp)
    omega
  exact Nat.le_trans (Nat.le_mul_of_pos_right _ h3) h1
end Go.Proofs.Ytajkjlgddmkkaaa

namespace Go.Proofs.Ytajkjlgddmkkaaa
open Go.RowKit
def dvk (k N : Nat) : Nat := k + 2 * (N * (k + 2)) + 1
theorem dv_szR {s w : List Int} {k N : Nat} (h : Dv s w) (hw : 0 < dg w) (hk : szR k w) (ns : Nm s) (hN : dg w ≤ N) (h32 : N ≤ 4294967296) : szR (dvk k N) s := by
  have hs0 := h.deg hw
  have hls : s.length = dg s := (dg_nm ns).symm
  have hP : 0 < 18446744073709551616 ^ k := Nat.pow_pos (by decide)
  have hP1 : 18446744073709551616 ^ (k + 1) = 18446744073709551616 ^ k * 18446744073709551616 := Nat.pow_succ _ _
  have hP2 : 18446744073709551616 ^ (k + 2) = 18446744073709551616 ^ k * 18446744073709551616 * 18446744073709551616 := by rw [Nat.pow_succ, hP1]
  have hB : ∀ i, i ≤ N → (pev w (18446744073709551616 ^ k + 1 + i : Nat)).natAbs ≤ 18446744073709551616 ^ (k + N * (k + 2)) := fun i hi => by
    have hx : sz ((18446744073709551616 ^ k + 1 + i : Nat) : Int) (k + 1) := by
      unfold sz
      rw [Int.natAbs_natCast, hP1]
      omega
    have h1 := ev_sz hk.nrm hx
    rw [ev_nrm] at h1
    have h2 : k + (nrm w).length * (k + 1 + 1) ≤ k + N * (k + 2) := Nat.add_le_add_left (Nat.mul_le_mul_right _ hN) _
    exact Nat.le_of_lt (h1.mono h2)
  have hb := dv_bnd (n := dg s - 1) h hw (fun i => Nat.le_of_lt (hk.get i)) (by omega) fun i hi => hB i (by omega)
  intro x hx
  obtain ⟨j, hj, rfl⟩ := List.mem_iff_getElem.1 hx
  have h1 := hb j
  rw [List.getD_eq_getElem?_getD, List.getElem?_eq_getElem hj] at h1
  have h2 : 2 * (18446744073709551616 ^ k + 1 + (dg s - 1)) + 3 ≤ 18446744073709551616 ^ (k + 2) := by
    rw [hP2]; omega
  have h3 : (2 * (18446744073709551616 ^ k + 1 + (dg s - 1)) + 3) ^ (dg s - 1) ≤ 18446744073709551616 ^ (N * (k + 2)) := by
    refine Nat.le_trans (Nat.pow_le_pow_left h2 _) ?_
    rw [← Nat.pow_mul]
    refine Nat.pow_le_pow_right (by decide) ?_
    rw [Nat.mul_comm]
    exact Nat.mul_le_mul_right _ (by omega)
  unfold sz
  have h4 : 18446744073709551616 ^ (k + N * (k + 2)) * 18446744073709551616 ^ (N * (k + 2)) = 18446744073709551616 ^ (k + 2 * (N * (k + 2))) := by
    rw [← Nat.pow_add]; congr 1; omega
  have h5 : (s[j]).natAbs ≤ 18446744073709551616 ^ (k + 2 * (N * (k + 2))) := by
    rw [← h4]
    exact Nat.le_trans h1 (Nat.mul_le_mul (Nat.le_refl _) h3)
  refine Nat.lt_of_le_of_lt h5 ?_
  unfold dvk
  exact Nat.pow_lt_pow_right (by decide) (by omega)
end Go.Proofs.Ytajkjlgddmkkaaa

namespace Go.Proofs.Ytajkjlgddmkkaaa
theorem ipow_ne {a : Int} (h : a ≠ 0) : ∀ n : Nat, a ^ n ≠ 0
  | 0 => by rw [Int.pow_zero]; omega
  | n + 1 => by rw [Int.pow_succ]; exact Int.mul_ne_zero (ipow_ne h n) h
theorem gc_run : ∀ (n : Nat) (p q a b : List Int), dg b ≤ n → (0 < dg a → cont a = 1 ∧ 0 < ld a) → (0 < dg b → cont b = 1 ∧ 0 < ld b) → (dg a = 0 ∧ dg b = 0 → dg p = 0 ∧ dg q = 0) →
    (∀ h, cont h = 1 → (Dv h a ∧ Dv h b ↔ Dv h (pprim p) ∧ Dv h (pprim q))) → ∃ g, Gc g p q := by
  intro n
  induction n with
  | zero =>
    intro p q a b hb ha _ hz h
    have hb0 : dg b = 0 := by omega
    refine ⟨_, gcd_end (a := a) ha (fun h0 => hz ⟨h0, hb0⟩) fun d hd => ?_⟩
    rw [← h d hd]
    exact ⟨fun k => ⟨k, Dv.zero _ (dg_zero.1 hb0)⟩, fun k => k.1⟩
  | succ n ih =>
    intro p q a b hb ha hbp hz h
    by_cases h0 : dg b = 0
    · exact ih p q a b (by omega) ha hbp hz h
    obtain ⟨t, r, hr, e⟩ := pseudo (q := b) (by omega) (dg a) a (Nat.le_refl _)
    have hk : ld b ^ (dg a + 1 - dg b) ≠ 0 := fun e => by
      have := ld_ne (l := b) (by omega)
      exact ipow_ne this _ e
    refine ih p q b (pprim r) (by rw [pprim_dg]; omega) hbp (fun h1 => ?_) (fun h1 => by omega) fun d hd => ?_
    · rw [pprim_dg] at h1
      exact ⟨pprim_cont h1, pprim_ld h1⟩
    · rw [← h d hd, gcd_step hd hk e]
theorem gc_exists (p q : List Int) : ∃ g, Gc g p q := by
  refine gc_run _ p q (pprim p) (pprim q) (Nat.le_refl _) (fun h => ?_) (fun h => ?_) (fun h => ?_) fun _ _ => Iff.rfl
  · rw [pprim_dg] at h; exact ⟨pprim_cont h, pprim_ld h⟩
  · rw [pprim_dg] at h; exact ⟨pprim_cont h, pprim_ld h⟩
  · rwa [pprim_dg, pprim_dg] at h
/-- What divides two products divides the product of what they have in common. -/
theorem gc_mul {g p q r d : List Int} (h : Gc g p q) (h1 : Dv d (pmul p r)) (h2 : Dv d (pmul q r)) : Dv d (pmul g r) := by
  by_cases hr : dg r = 0
  · exact Dv.zero _ fun x => by rw [ev_pmul, dg_zero.1 hr]; simp
  obtain ⟨k, hk⟩ := gc_exists (pmul p r) (pmul q r)
  obtain ⟨a, ha⟩ := h.1
  obtain ⟨b, hb⟩ := h.2.1
  obtain ⟨u, hu⟩ := hk.2.2.1 (pmul g r) ⟨a, fun x => by rw [ev_pmul, ev_pmul, ha]; grind⟩ ⟨b, fun x => by rw [ev_pmul, ev_pmul, hb]; grind⟩
  have s : ∀ (p : List Int), Dv k (pmul p r) → Dv (pmul g u) p := fun p ⟨v, hv⟩ => ⟨v, fun x => by
    have := cancel (a := r) (u := p) (v := pmul (pmul g u) v) (by omega) (fun x => by
      have := hv x
      rw [hu, ev_pmul, ev_pmul] at this
      rw [ev_pmul, ev_pmul]; grind) x
    rw [this, ev_pmul]⟩
  obtain ⟨w, hw⟩ := h.2.2.1 _ (s p hk.1) (s q hk.2.1)
  refine (hk.2.2.1 d h1 h2).trans ⟨w, fun x => ?_⟩
  rw [ev_pmul, hw, ev_pmul, hu, ev_pmul]; grind
-- What no other one divides.
-- Derivatives.
theorem ev_co {l m : List Int} (h : ∀ i, l.getD i 0 = m.getD i 0) (x : Int) : pev l x = pev m x := ev_of_nrm (nrm_ext h) x
end Go.Proofs.Ytajkjlgddmkkaaa

namespace Go.Proofs.Ytajkjlgddmkkaaa
/-- Fewer equations than unknowns: something other than 0 solves them. -/
theorem under : ∀ (r n : Nat) (B : Mx), r < n → ∃ u : Nat → Int, (∃ i, i < n ∧ u i ≠ 0) ∧ ∀ j, j < r → isum (fun i => u i * B i j) n = 0
  | 0, n, B, h => ⟨fun _ => 1, ⟨0, h, by decide⟩, fun j hj => by omega⟩
  | r + 1, n, B, h => by
    by_cases hz : ∀ i, i < n → B i r = 0
    · obtain ⟨u, h1, h2⟩ := under r n B (by omega)
      refine ⟨u, h1, fun j hj => ?_⟩
      by_cases e : j = r
      · subst e
        exact isum_zero fun k hk => by rw [hz k hk]; simp
      · exact h2 j (by omega)
    · obtain ⟨p, hp, hpr⟩ : ∃ p, p < n ∧ B p r ≠ 0 := by
        refine Classical.byContradiction fun hn => hz fun i hi => Classical.byContradiction fun h' => hn ⟨i, hi, h'⟩
      obtain ⟨n, rfl⟩ : ∃ m, n = m + 1 := ⟨n - 1, by omega⟩
      obtain ⟨u, ⟨i, hi, hu⟩, h2⟩ := under r n (fun i j => B p r * B (sk p i) j - B (sk p i) r * B p j) (by omega)
      have key : ∀ g : Nat → Int, isum g (n + 1) = g p + isum (fun k => g (sk p k)) n := fun g => isum_sk g p hp
      let U : Nat → Int := fun k => if k = p then - isum (fun i => u i * B (sk p i) r) n else B p r * u (pk p k)
      have hU1 : U p = - isum (fun i => u i * B (sk p i) r) n := if_pos rfl
      have hU2 : ∀ k, U (sk p k) = B p r * u k := fun k => by
        show (if sk p k = p then _ else _) = _
        rw [if_neg (sk_ne p k)]
        have : pk p (sk p k) = k := sk_inj (i := p) (sk_pk (sk_ne p k))
        rw [this]
      refine ⟨U, ⟨sk p i, sk_lt hi, by rw [hU2]; exact Int.mul_ne_zero hpr hu⟩, fun j hj => ?_⟩
      rw [key]
      simp only [hU1, hU2]
      by_cases e : j = r
      · subst e
        have h5 : isum (fun k => B p j * u k * B (sk p k) j) n = isum (fun k => u k * B (sk p k) j) n * B p j := by
          rw [← isum_mul_right]; exact isum_congr fun k _ => by rw [Int.mul_comm (B p j), Int.mul_assoc, Int.mul_comm (B p j), Int.mul_assoc]
        rw [h5, Int.neg_mul]; omega
      · have h3 := h2 j (by omega)
        have h4 : isum (fun i => u i * (B p r * B (sk p i) j - B (sk p i) r * B p j)) n = isum (fun k => B p r * u k * B (sk p k) j) n + (- isum (fun i => u i * B (sk p i) r) n) * B p j := by
          rw [← isum_neg, ← isum_mul_right, ← isum_add]
          exact isum_congr fun k _ => by grind
        rw [h4] at h3
        omega
where
  isum_sk (g : Nat → Int) : ∀ {n : Nat} (p : Nat), p < n + 1 → isum g (n + 1) = g p + isum (fun k => g (sk p k)) n
    | n, p, hp => by
      have h1 : ∀ m, m ≤ p → isum (fun k => g (sk p k)) m = isum g m := fun m hm => isum_congr fun k hk => by rw [show sk p k = k from if_pos (by omega)]
      obtain ⟨d, rfl⟩ : ∃ d, n = p + d := ⟨n - p, by omega⟩
      rw [isum_split _ p d, h1 p (Nat.le_refl _), Nat.add_assoc, isum_split g p (d + 1), isum_front]
      have h2 : isum (fun k => g (sk p (p + k))) d = isum (fun k => g (p + (k + 1))) d := isum_congr fun k _ => by rw [show sk p (p + k) = p + (k + 1) from if_neg (by omega)]
      rw [h2]
      simp only [Nat.add_zero]
      omega
/-- A determinant of 0: a sum of the rows, not all times 0, is 0. -/
theorem det_kernel {n : Nat} {A : Mx} (h : det n A = 0) : ∃ u : Nat → Int, (∃ i, i < n ∧ u i ≠ 0) ∧ ∀ j, j < n → isum (fun i => u i * A i j) n = 0 := by
  have hr := bar_rank n n A
  have hlt := hr.full.1 h
  obtain ⟨d, hd, B, E, hB⟩ := hr.up
  obtain ⟨u, h1, h2⟩ := under _ n B hlt
  refine ⟨u, h1, fun j hj => ?_⟩
  have h3 : d * isum (fun i => u i * A i j) n = 0 := by
    rw [← isum_mul, isum_congr (g' := fun i => isum (fun k => u i * B i k * E k j) (bar n n A).step) fun i hi => by
      rw [show d * (u i * A i j) = u i * (d * A i j) by grind, hB i j hi hj]
      unfold mm
      rw [← isum_mul]
      exact isum_congr fun k _ => by grind, isum_swap]
    exact isum_zero fun k hk => by rw [isum_mul_right, h2 k hk]; simp
  rcases Int.mul_eq_zero.1 h3 with h4 | h4
  · exact absurd h4 hd
  · exact h4
theorem kernel_det {n : Nat} {A : Mx} {u : Nat → Int} {i : Nat} (hi : i < n) (hu : u i ≠ 0) (h : ∀ j, j < n → isum (fun i => u i * A i j) n = 0) : det n A = 0 := by
  obtain ⟨n, rfl⟩ : ∃ m, n = m + 1 := ⟨n - 1, by omega⟩
  have h1 : isum (fun j => isum (fun k => u k * A k j) (n + 1) * adj n A j i) (n + 1) = 0 := isum_zero fun k hk => by rw [h k hk]; simp
  rw [isum_congr (g' := fun j => isum (fun k => u k * (A k j * adj n A j i)) (n + 1)) fun j _ => by
    rw [← isum_mul_right]; exact isum_congr fun k _ => by grind, isum_swap,
    isum_congr (g' := fun k => u k * (if k = i then det (n + 1) A else 0)) fun k hk => by rw [isum_mul, ← mul_adj A hk hi]; rfl,
    isum_one hi fun k _ hk => by rw [if_neg hk]; simp, if_pos rfl] at h1
  rcases Int.mul_eq_zero.1 h1 with h2 | h2
  · exact absurd h2 hu
  · exact h2
theorem det_tri : ∀ (n : Nat) (c : Int) (A : Mx), (∀ i j, i < n → j < i → A i j = 0) → (∀ i, i < n → A i i = c) → det n A = c ^ n
  | 0, c, A, _, _ => by simp [det]
  | n + 1, c, A, h1, h2 => by
    rw [det_block n 1 A fun i j h3 h4 h5 => h1 i j (by omega) (by omega), det_tri n c A (fun i j h3 h4 => h1 i j (by omega) h4) fun i hi => h2 i (by omega), Int.pow_succ]
    congr 1
    simp [det, isum, sg, h2 n (by omega)]
/-- A row by its values: the first column stands for the greatest power. -/
def evr (N : Nat) (u : Nat → Int) (x : Int) : Int := isum (fun k => u k * x ^ (N - 1 - k)) N
/-- What coefficients come to, up to a degree. -/
def evd (f : Nat → Int) (d : Nat) (x : Int) : Int := isum (fun t => f t * x ^ t) (d + 1)
theorem evd_pev (f : Nat → Int) (d : Nat) (x : Int) : evd f d x = pev (lst (d + 1) f) x := by
  unfold evd
  rw [ev_isum, lst_len]
  exact isum_congr fun k hk => by rw [lst_get hk]
theorem isum_rev (g : Nat → Int) : ∀ n, isum (fun k => g (n - 1 - k)) n = isum g n
  | 0 => rfl
  | n + 1 => by
    rw [isum_front]
    show g (n + 1 - 1 - 0) + isum (fun k => g (n + 1 - 1 - (k + 1))) n = isum g n + g n
    rw [isum_congr (g' := fun k => g (n - 1 - k)) fun k hk => by congr 1; omega, isum_rev g n]
    simp only [Nat.add_sub_cancel, Nat.sub_zero]
    omega
theorem evr_pev (N : Nat) (u : Nat → Int) (x : Int) : evr N u x = pev (lst N fun k => u (N - 1 - k)) x := by
  unfold evr
  rw [ev_isum, lst_len, ← isum_rev]
  refine isum_congr fun k hk => ?_
  rw [lst_get hk]
  congr 2
  omega
theorem evr_inj {N : Nat} {u v : Nat → Int} (h : ∀ x, evr N u x = evr N v x) (k : Nat) (hk : k < N) : u k = v k := by
  have h1 : ∀ x, pev (lst N fun k => u (N - 1 - k)) x = pev (lst N fun k => v (N - 1 - k)) x := fun x => by rw [← evr_pev, ← evr_pev, h]
  have h2 := co_ext h1 (N - 1 - k)
  rw [lst_get (by omega), lst_get (by omega)] at h2
  simp only [show N - 1 - (N - 1 - k) = k by omega] at h2
  exact h2
theorem evr_mm (n N : Nat) (A B : Mx) (i : Nat) (x : Int) : evr N (mm n A B i) x = isum (fun k => A i k * evr N (B k) x) n := by
  unfold evr mm
  rw [isum_congr (g' := fun k => isum (fun l => A i l * B l k * x ^ (N - 1 - k)) n) fun k _ => (isum_mul_right _ _ _).symm, isum_swap]
  exact isum_congr fun l _ => by rw [← isum_mul]; exact isum_congr fun k _ => Int.mul_assoc _ _ _
/-- A row of Sylvester's matrix. -/
def sF (f : Nat → Int) (d i k : Nat) : Int := if i ≤ k ∧ k ≤ i + d then f (d + i - k) else 0
theorem evr_sF (f : Nat → Int) (d i N : Nat) (h : i + d < N) (x : Int) : evr N (sF f d i) x = x ^ (N - 1 - d - i) * evd f d x := by
  unfold evr
  obtain ⟨e, rfl⟩ : ∃ e, N = i + ((d + 1) + e) := ⟨N - i - d - 1, by omega⟩
  rw [isum_split, isum_split, isum_zero (n := i) fun k hk => by unfold sF; rw [if_neg (by omega)]; simp, isum_zero (n := e) fun k hk => by unfold sF; rw [if_neg (by omega)]; simp]
  unfold evd
  rw [← isum_mul, ← isum_rev (fun t => x ^ _ * (f t * x ^ t)) (d + 1), Int.zero_add, Int.add_zero]
  refine isum_congr fun k hk => ?_
  unfold sF
  rw [if_pos (by omega), show d + i - (i + k) = d + 1 - 1 - k by omega, show i + (d + 1 + e) - 1 - (i + k) = (i + (d + 1 + e) - 1 - d - i) + (d + 1 - 1 - k) by omega, Int.pow_add]
  grind
def S2 (m n : Nat) (f g : Nat → Int) : Mx := fun i k => if i < n then sF f m i k else sF g n (i - n) k
/-- The resultant of formal degrees m and n. -/
def RS (m n : Nat) (f g : Nat → Int) : Int := det (m + n) (S2 m n f g)
theorem S2_top {m n : Nat} {f g : Nat → Int} {i : Nat} (h : i < n) : S2 m n f g i = sF f m i := by funext k; exact if_pos h
theorem S2_low {m n : Nat} {f g : Nat → Int} {i : Nat} (h : n ≤ i) : S2 m n f g i = sF g n (i - n) := by funext k; exact if_neg (by omega)
theorem S2_up {m n : Nat} {f g : Nat → Int} (i : Nat) : S2 m n f g (n + i) = sF g n i := by rw [S2_low (by omega), Nat.add_sub_cancel_left]
theorem isum_unit {n r : Nat} (h : r < n) (g : Nat → Int) : isum (fun k => (if k = r then 1 else 0) * g k) n = g r := by
  rw [isum_one h fun k _ hk => by rw [if_neg hk]; simp, if_pos rfl]; simp
theorem del (r c i j : Nat) (h : c = r ↔ i = j) : (fun k => if k = r then (1 : Int) else 0) c = one i j := by
  unfold one
  by_cases e : i = j
  · rw [if_pos e]; exact if_pos (h.2 e)
  · rw [if_neg e]; exact if_neg fun k => e (h.1 k)
theorem RS_mul {m1 m2 n : Nat} {f r g h : Nat → Int} (hl : r m2 ≠ 0) (he : ∀ x, evd h (m1 + m2) x = evd f m1 x * evd r m2 x) :
    RS (m1 + m2) n h g = RS m1 n f g * RS m2 n r g := by
  let E : Mx := fun i k => if i < n then (if k = i then 1 else 0) else if i < n + m1 then (if k < n then 0 else sF r m2 (i - n) (k - n)) else (if k = i then 1 else 0)
  let T : Mx := fun i k => if i < n + m1 then (if k < n + m1 then S2 m1 n f g i k else 0) else (if k = i then 1 else 0)
  let U : Mx := fun i k => if i < n + m1 then sF r m2 i k else sF g n (i - n) k
  have hE1 : ∀ i, i < n → E i = fun k => if k = i then 1 else 0 := fun i hi => by funext k; exact if_pos hi
  have hE2 : ∀ i, i < m1 → E (n + i) = fun k => if k < n then 0 else sF r m2 i (k - n) := fun i hi => by
    funext k
    show (if n + i < n then _ else if n + i < n + m1 then (if k < n then 0 else sF r m2 (n + i - n) (k - n)) else _) = _
    rw [if_neg (by omega), if_pos (by omega), Nat.add_sub_cancel_left]
  have hE3 : ∀ i, E (n + m1 + i) = fun k => if k = n + m1 + i then 1 else 0 := fun i => by
    funext k
    show (if n + m1 + i < n then _ else if n + m1 + i < n + m1 then _ else _) = _
    rw [if_neg (by omega), if_neg (by omega)]
  have hT1 : ∀ i, i < n + m1 → T i = fun k => if k < n + m1 then S2 m1 n f g i k else 0 := fun i hi => by funext k; exact if_pos hi
  have hT2 : ∀ i, T (n + m1 + i) = fun k => if k = n + m1 + i then 1 else 0 := fun i => by funext k; exact if_neg (by omega)
  have hU1 : ∀ i, i < n + m1 → U i = sF r m2 i := fun i hi => by funext k; exact if_pos hi
  have hU2 : ∀ i, U (n + m1 + i) = sF g n (m1 + i) := fun i => by
    funext k
    show (if n + m1 + i < n + m1 then _ else sF g n (n + m1 + i - n) k) = _
    rw [if_neg (by omega), show n + m1 + i - n = m1 + i by omega]
  -- the two products are the same
  have hsame : ∀ i k, i < n + m1 + m2 → k < n + m1 + m2 → mm (n + m1 + m2) E (S2 (m1 + m2) n h g) i k = mm (n + m1 + m2) T U i k := by
    intro i k hi hk
    refine evr_inj (N := n + m1 + m2) (u := mm (n + m1 + m2) E (S2 (m1 + m2) n h g) i) (v := mm (n + m1 + m2) T U i) (fun x => ?_) k hk
    rw [evr_mm, evr_mm]
    have hUe : ∀ k, k < n + m1 → evr (n + m1 + m2) (U k) x = x ^ (n + m1 - 1 - k) * evd r m2 x := fun k hk => by
      rw [hU1 k hk, evr_sF _ _ _ _ (by omega), show n + m1 + m2 - 1 - m2 - k = n + m1 - 1 - k by omega]
    have hlow : ∀ j, j < m1 + m2 → evr (n + m1 + m2) (S2 (m1 + m2) n h g (n + j)) x = x ^ (m1 + m2 - 1 - j) * evd g n x := fun j hj => by
      rw [S2_up, evr_sF _ _ _ _ (by omega), show n + m1 + m2 - 1 - n - j = m1 + m2 - 1 - j by omega]
    have htop : ∀ i, i < n + m1 → isum (fun k => T i k * evr (n + m1 + m2) (U k) x) (n + m1 + m2) = evr (n + m1) (S2 m1 n f g i) x * evd r m2 x := fun i hi => by
      have e0 : evr (n + m1) (S2 m1 n f g i) x = isum (fun k => S2 m1 n f g i k * x ^ (n + m1 - 1 - k)) (n + m1) := rfl
      rw [isum_split, isum_zero (n := m2) fun k hk => by
        rw [hT1 i hi]
        show (if n + m1 + k < n + m1 then _ else 0) * _ = (0 : Int)
        rw [if_neg (by omega)]; simp, Int.add_zero, e0, ← isum_mul_right]
      refine isum_congr fun k hk => ?_
      rw [hUe k hk, hT1 i hi]
      show (if k < n + m1 then S2 m1 n f g i k else 0) * _ = _
      rw [if_pos hk, Int.mul_assoc]
    by_cases h1 : i < n
    · rw [htop i (by omega), hE1 i h1, isum_unit (by omega), S2_top h1, S2_top h1, evr_sF _ _ _ _ (by omega), evr_sF _ _ _ _ (by omega), he]
      rw [show n + m1 + m2 - 1 - (m1 + m2) - i = n + m1 - 1 - m1 - i by omega]
      grind
    · by_cases h2 : i < n + m1
      · obtain ⟨j, rfl⟩ : ∃ j, i = n + j := ⟨i - n, by omega⟩
        have hj : j < m1 := by omega
        rw [htop _ h2, S2_up, evr_sF _ _ _ _ (by omega), hE2 j hj, Nat.add_assoc, isum_split, isum_zero (n := n) fun k hk => by simp [hk], Int.zero_add]
        rw [isum_congr (g' := fun k => sF r m2 j k * x ^ (m1 + m2 - 1 - k) * evd g n x) fun k hk => by
          show (if n + k < n then 0 else sF r m2 j (n + k - n)) * _ = _
          rw [if_neg (by omega), Nat.add_sub_cancel_left, ← Nat.add_assoc, hlow k hk, Int.mul_assoc], isum_mul_right]
        have := evr_sF r m2 j (m1 + m2) (by omega) x
        have e0 : evr (m1 + m2) (sF r m2 j) x = isum (fun k => sF r m2 j k * x ^ (m1 + m2 - 1 - k)) (m1 + m2) := rfl
        rw [← e0, this, show m1 + m2 - 1 - m2 - j = n + m1 - 1 - n - j by omega]
        grind
      · obtain ⟨j, rfl⟩ : ∃ j, i = n + m1 + j := ⟨i - n - m1, by omega⟩
        have e0 : S2 (m1 + m2) n h g (n + m1 + j) = sF g n (m1 + j) := by rw [Nat.add_assoc, S2_up]
        rw [hE3 j, hT2 j, isum_unit hi, isum_unit hi, hU2, e0]
  have h1 := det_congr hsame
  rw [det_mul, det_mul] at h1
  -- the determinants of what stands beside them
  have dI : ∀ m, det m one = 1 := det_one
  have dE : det (n + m1 + m2) E = r m2 ^ m1 := by
    rw [Nat.add_assoc, det_block n (m1 + m2) E fun i j h3 h4 h5 => ?_, det_block m1 m2 _ fun i j h3 h4 h5 => ?_]
    · have e1 : det n E = 1 := by
        rw [← dI n]
        exact det_congr fun i j hi hj => by rw [hE1 i hi]; exact del _ _ _ _ (by omega)
      have e2 : det m1 (fun i j => E (n + i) (n + j)) = r m2 ^ m1 := det_tri m1 _ _ (fun i j hi hj => by
        rw [hE2 i hi]
        show (if n + j < n then 0 else sF r m2 i (n + j - n)) = 0
        rw [if_neg (by omega), Nat.add_sub_cancel_left]
        unfold sF
        rw [if_neg (by omega)]) fun i hi => by
        rw [hE2 i hi]
        show (if n + i < n then 0 else sF r m2 i (n + i - n)) = r m2
        rw [if_neg (by omega), Nat.add_sub_cancel_left]
        unfold sF
        rw [if_pos (by omega), Nat.add_sub_cancel]
      have e3 : det m2 (fun i j => E (n + (m1 + i)) (n + (m1 + j))) = 1 := by
        rw [← dI m2]
        refine det_congr fun i j hi hj => ?_
        rw [← Nat.add_assoc, hE3 i]
        exact del _ _ _ _ (by omega)
      rw [e1, e2, e3]; simp
    · obtain ⟨t, rfl⟩ : ∃ t, i = m1 + t := ⟨i - m1, by omega⟩
      rw [← Nat.add_assoc, hE3 t]
      show (if n + j = n + m1 + t then (1 : Int) else 0) = 0
      rw [if_neg (by omega)]
    · by_cases h6 : i < n + m1
      · obtain ⟨t, rfl⟩ : ∃ t, i = n + t := ⟨i - n, by omega⟩
        rw [hE2 t (by omega)]
        show (if j < n then 0 else _) = 0
        rw [if_pos h5]
      · obtain ⟨t, rfl⟩ : ∃ t, i = n + m1 + t := ⟨i - n - m1, by omega⟩
        rw [hE3 t]
        show (if j = n + m1 + t then (1 : Int) else 0) = 0
        rw [if_neg (by omega)]
  have dT : det (n + m1 + m2) T = RS m1 n f g := by
    rw [det_block (n + m1) m2 T fun i j h3 h4 h5 => ?_]
    · have e1 : det (n + m1) T = RS m1 n f g := by
        unfold RS
        rw [Nat.add_comm m1 n]
        exact det_congr fun i j hi hj => by rw [hT1 i hi]; exact if_pos hj
      have e2 : det m2 (fun i j => T (n + m1 + i) (n + m1 + j)) = 1 := by
        rw [← dI m2]
        refine det_congr fun i j hi hj => ?_
        rw [hT2 i]
        exact del _ _ _ _ (by omega)
      rw [e1, e2]; simp
    · obtain ⟨t, rfl⟩ : ∃ t, i = n + m1 + t := ⟨i - n - m1, by omega⟩
      rw [hT2 t]
      show (if j = n + m1 + t then (1 : Int) else 0) = 0
      rw [if_neg (by omega)]
  have dU : det (n + m1 + m2) U = r m2 ^ m1 * RS m2 n r g := by
    rw [show n + m1 + m2 = m1 + (m2 + n) by omega, det_block m1 (m2 + n) U fun i j h3 h4 h5 => ?_]
    · have e1 : det m1 U = r m2 ^ m1 := det_tri m1 _ _ (fun i j hi hj => by
        rw [hU1 i (by omega)]; unfold sF; rw [if_neg (by omega)]) fun i hi => by
        rw [hU1 i (by omega)]; unfold sF; rw [if_pos (by omega), Nat.add_sub_cancel]
      rw [e1]
      congr 1
      refine det_congr fun i j hi hj => ?_
      by_cases h6 : i < n
      · rw [hU1 _ (by omega), S2_top h6]
        unfold sF
        by_cases h7 : i ≤ j ∧ j ≤ i + m2
        · rw [if_pos h7, if_pos (by omega)]; congr 1; omega
        · rw [if_neg h7, if_neg (by omega)]
      · rw [show m1 + i = n + m1 + (i - n) by omega, hU2, S2_low (by omega)]
        unfold sF
        by_cases h7 : i - n ≤ j ∧ j ≤ i - n + n
        · rw [if_pos h7, if_pos (by omega)]; congr 1; omega
        · rw [if_neg h7, if_neg (by omega)]
    · by_cases h6 : i < n + m1
      · rw [hU1 i h6]; unfold sF; rw [if_neg (by omega)]
      · obtain ⟨t, rfl⟩ : ∃ t, i = n + m1 + t := ⟨i - n - m1, by omega⟩
        rw [hU2]; unfold sF; rw [if_neg (by omega)]
  rw [dE, dT, dU] at h1
  have h2 : RS (m1 + m2) n h g = det (n + m1 + m2) (S2 (m1 + m2) n h g) := by unfold RS; rw [show m1 + m2 + n = n + m1 + m2 by omega]
  rw [← h2] at h1
  have h3 := ipow_ne hl m1
  exact Int.eq_of_mul_eq_mul_left h3 (by rw [h1]; grind)
-- Turned about.
def rot (N : Nat) (A : Mx) : Mx := fun i k => A (if i = 0 then N - 1 else i - 1) k
theorem det_rot {N : Nat} (h : 0 < N) (A : Mx) : det N (rot N A) = sg (N - 1) * det N A := by
  rw [← det_tr N A, ← det_mv N (N - 1) (tp A) (by omega), ← det_tr]
  refine det_congr fun i j hi hj => ?_
  unfold tp rot mv sk
  by_cases e : j = 0
  · rw [if_pos e, if_pos e]
  · rw [if_neg e, if_neg e, if_pos (by omega)]
def rotn (N : Nat) : Nat → Mx → Mx
  | 0, A => A
  | m + 1, A => rot N (rotn N m A)
theorem det_rotn {N : Nat} (h : 0 < N) (A : Mx) : ∀ m, det N (rotn N m A) = sg (m * (N - 1)) * det N A
  | 0 => by simp [rotn, sg]
  | m + 1 => by
    rw [rotn, det_rot h, det_rotn h A m, Nat.succ_mul, Nat.add_comm, sg_add]; grind
theorem rotn_get {N : Nat} (A : Mx) : ∀ (m : Nat), m ≤ N → ∀ i, i < N → ∀ k, rotn N m A i k = A (if i < m then N - m + i else i - m) k
  | 0, _, i, _, k => by rw [if_neg (by omega)]; rfl
  | m + 1, hm, i, hi, k => by
    show rotn N m A (if i = 0 then N - 1 else i - 1) k = _
    by_cases e : i = 0
    · subst e
      rw [if_pos rfl, rotn_get A m (by omega) _ (by omega)]
      congr 1
      rw [if_neg (by omega), if_pos (by omega)]; omega
    · rw [if_neg e, rotn_get A m (by omega) _ (by omega)]
      congr 1
      by_cases h2 : i - 1 < m
      · rw [if_pos h2, if_pos (by omega)]; omega
      · rw [if_neg h2, if_neg (by omega)]; omega
theorem sg_even {a : Nat} (h : a % 2 = 0) : sg a = 1 := if_neg (by omega)
theorem sg_eq {a b : Nat} (h : a % 2 = b % 2) : sg a = sg b := by unfold sg; rw [h]
theorem RS_swap (m n : Nat) (f g : Nat → Int) : RS n m g f = sg (m * n) * RS m n f g := by
  by_cases h0 : m + n = 0
  · have h1 : m = 0 := by omega
    have h2 : n = 0 := by omega
    subst h1 h2
    simp [RS, det, sg]
  · have h1 := det_rotn (N := m + n) (by omega) (S2 m n f g) m
    have h2 : det (m + n) (rotn (m + n) m (S2 m n f g)) = RS n m g f := by
      unfold RS
      rw [Nat.add_comm n m]
      refine det_congr fun i j hi hj => ?_
      rw [rotn_get _ m (by omega) i hi]
      by_cases e : i < m
      · rw [if_pos e, show m + n - m + i = n + i by omega, S2_up, S2_top e]
      · rw [if_neg e, S2_top (by omega), S2_low (by omega)]
    rw [h2] at h1
    rw [h1]
    show sg _ * RS m n f g = _
    congr 1
    refine sg_eq ?_
    rw [Nat.mul_mod, Nat.mul_mod m n]
    have : m % 2 = 0 ∨ (m + n - 1) % 2 = n % 2 := by omega
    rcases this with h | h
    · rw [h]; simp
    · rw [h]
/-- x - a and another one. -/
theorem RS_line (n : Nat) (a : Int) (f g : Nat → Int) (h0 : f 0 = -a) (h1 : f 1 = 1) : RS 1 n f g = evd g n a := by
  unfold RS
  rw [Nat.add_comm 1 n]
  let v : Nat → Int := fun k => a ^ (n - k)
  have hrow : ∀ i, isum (fun k => S2 1 n f g i k * v k) (n + 1) = evr (n + 1) (S2 1 n f g i) a := fun i => isum_congr fun k hk => by show _ = _ * a ^ (n + 1 - 1 - k); rfl
  have hcol : det (n + 1) (cw (S2 1 n f g) n fun i => isum (fun k => S2 1 n f g i k * v k) (n + 1)) = det (n + 1) (S2 1 n f g) := by
    rw [det_cw _ (by omega), isum_congr (g' := fun i => isum (fun k => v k * (adj n (S2 1 n f g) n i * S2 1 n f g i k)) (n + 1)) fun i _ => by
      rw [← isum_mul_right]; exact isum_congr fun k _ => by grind, isum_swap,
      isum_congr (g' := fun k => v k * (if n = k then det (n + 1) (S2 1 n f g) else 0)) fun k hk => by
        rw [isum_mul, ← adj_mul (S2 1 n f g) (show n < n + 1 by omega) hk]; rfl,
      isum_one (r := n) (by omega) fun k _ hk => by rw [if_neg (Ne.symm hk)]; simp, if_pos rfl]
    show a ^ (n - n) * _ = _
    simp
  rw [← hcol, det_block' n 1 _ fun i j hi hj hj2 => ?_]
  · have e1 : det n (cw (S2 1 n f g) n fun i => isum (fun k => S2 1 n f g i k * v k) (n + 1)) = 1 := by
      rw [det_tri n 1 _ (fun i j hi hj => ?_) fun i hi => ?_]
      · exact Int.one_pow
      · unfold cw
        rw [if_neg (by omega), S2_top hi]; unfold sF; rw [if_neg (by omega)]
      · unfold cw
        rw [if_neg (by omega), S2_top hi]; unfold sF; rw [if_pos (by omega), show 1 + i - i = 1 by omega, h1]
    rw [e1, Int.one_mul]
    have e2 : det 1 (fun i j => cw (S2 1 n f g) n (fun i => isum (fun k => S2 1 n f g i k * v k) (n + 1)) (n + i) (n + j)) = isum (fun k => S2 1 n f g n k * v k) (n + 1) := by
      simp [det, isum, sg, cw]
    have e3 : S2 1 n f g n = sF g n 0 := by rw [S2_low (Nat.le_refl n), Nat.sub_self]
    rw [e2, hrow, e3, evr_sF _ _ _ _ (by omega)]
    simp
  · have : j = n := by omega
    subst this
    unfold cw
    rw [if_pos rfl]
    show isum (fun k => S2 1 j f g i k * v k) (j + 1) = 0
    rw [hrow, S2_top hi, evr_sF _ _ _ _ (by omega)]
    unfold evd
    simp only [isum, h0, h1]
    simp
    rw [Int.pow_one, Int.add_comm, Int.add_right_neg, Int.mul_zero]
end Go.Proofs.Ytajkjlgddmkkaaa

namespace Go.Proofs.Ytajkjlgddmkkaaa
theorem evd_of {p : List Int} {m : Nat} (h : dg p ≤ m + 1) (x : Int) : evd (fun t => p.getD t 0) m x = pev p x := by
  rw [evd_pev, ← ev_nrm p]
  have h1 : lst (m + 1) (fun t => p.getD t 0) = lst (m + 1) fun t => (nrm p).getD t 0 := lst_congr fun i _ => (co_nrm p i).symm
  rw [h1]
  exact ev_lst h x
/-- What the rows of Sylvester's matrix come to, each some times. -/
theorem S2_sum (m n : Nat) (f g u : Nat → Int) (x : Int) :
    isum (fun i => u i * evr (m + n) (S2 m n f g i) x) (m + n) = pev (lst n fun k => u (n - 1 - k)) x * evd f m x + pev (lst m fun k => u (n + (m - 1 - k))) x * evd g n x := by
  rw [Nat.add_comm m n, isum_split, ← evr_pev, ← evr_pev m (fun k => u (n + k))]
  congr 1
  · unfold evr
    rw [← isum_mul_right]
    refine isum_congr fun k hk => ?_
    have := evr_sF f m k (n + m) (by omega) x
    unfold evr at this
    rw [S2_top hk, this, show n + m - 1 - m - k = n - 1 - k by omega]
    grind
  · unfold evr
    rw [← isum_mul_right]
    refine isum_congr fun k hk => ?_
    have := evr_sF g n k (n + m) (by omega) x
    unfold evr at this
    rw [S2_up, this, show n + m - 1 - n - k = m - 1 - k by omega]
    grind
theorem RS_common {p q g : List Int} {m n : Nat} (hp : dg p = m + 1) (hq : dg q = n + 1) (h : Gc g p q) :
    RS m n (fun t => p.getD t 0) (fun t => q.getD t 0) = 0 ↔ 2 ≤ dg g := by
  have hg0 := (h.1.deg (by omega)).1
  constructor
  · intro h0
    refine Classical.byContradiction fun hlt => ?_
    have hg1 : dg g = 1 := by omega
    obtain ⟨u, ⟨i, hi, hu⟩, hk⟩ := det_kernel h0
    have hz : ∀ x, pev (lst n fun k => u (n - 1 - k)) x * pev p x + pev (lst m fun k => u (n + (m - 1 - k))) x * pev q x = 0 := fun x => by
      rw [← evd_of (m := m) (p := p) (by omega), ← evd_of (m := n) (p := q) (by omega), ← S2_sum]
      have e := evr_mm (m + n) (m + n) (fun _ => u) (S2 m n (fun t => p.getD t 0) fun t => q.getD t 0) 0 x
      rw [← e]
      exact isum_zero fun k hk' => by
        have := hk k hk'
        show isum (fun k' => u k' * S2 m n _ _ k' k) (m + n) * _ = 0
        rw [this]; simp
    generalize hA : lst n (fun k => u (n - 1 - k)) = A at hz
    generalize hB : lst m (fun k => u (n + (m - 1 - k))) = B at hz
    have hAd : dg A ≤ n := by rw [← hA]; exact Nat.le_trans (dg_le_len _) (by rw [lst_len]; exact Nat.le_refl _)
    have hBd : dg B ≤ m := by rw [← hB]; exact Nat.le_trans (dg_le_len _) (by rw [lst_len]; exact Nat.le_refl _)
    have hdv : Dv p (pmul g B) := by
      refine gc_mul h ⟨B, fun x => ev_pmul _ _ _⟩ ⟨A.map fun y => -1 * y, fun x => ?_⟩
      have := hz x
      rw [ev_pmul, ev_map_mul]
      grind
    have hB0 : dg B = 0 := by
      refine Classical.byContradiction fun hne => ?_
      have h1 := pmul_dg hg0 (show 0 < dg B by omega)
      have h2 := hdv.deg (by omega)
      omega
    have hBz := dg_zero.1 hB0
    have hA0 : dg A = 0 := by
      rcases mul_zero' (a := A) (b := p) (fun x => by have := hz x; rw [hBz] at this; omega) with h1 | h1
      · exact h1
      · omega
    have hAz := dg_zero.1 hA0
    have gA : ∀ k, k < n → u k = 0 := fun k hk' => by
      have := dg_le.1 (Nat.le_of_eq hA0) (n - 1 - k) (Nat.zero_le _)
      rw [← hA, lst_get (by omega), show n - 1 - (n - 1 - k) = k by omega] at this
      exact this
    have gB : ∀ k, k < m → u (n + k) = 0 := fun k hk' => by
      have := dg_le.1 (Nat.le_of_eq hB0) (m - 1 - k) (Nat.zero_le _)
      rw [← hB, lst_get (by omega), show m - 1 - (m - 1 - k) = k by omega] at this
      exact this
    by_cases hin : i < n
    · exact hu (gA i hin)
    · have := gB (i - n) (by omega)
      rw [show n + (i - n) = i by omega] at this
      exact hu this
  · intro hg2
    obtain ⟨p', hp'⟩ := h.1
    obtain ⟨q', hq'⟩ := h.2.1
    have hp0 : 0 < dg p' := dg_pos fun e => by
      have := (dg_zero (l := p)).2 fun x => by rw [hp', e]; simp
      omega
    have hq0 : 0 < dg q' := dg_pos fun e => by
      have := (dg_zero (l := q)).2 fun x => by rw [hq', e]; simp
      omega
    have d1 := (mul_dg hp' hg0 hp0).1
    have d2 := (mul_dg hq' hg0 hq0).1
    let u : Nat → Int := fun i => if i < n then q'.getD (n - 1 - i) 0 else - p'.getD (m - 1 - (i - n)) 0
    have hA : ∀ x, pev (lst n fun k => u (n - 1 - k)) x = pev q' x := fun x => by
      refine ev_co (fun i => ?_) x
      rw [lst_get']
      split
      · show (if n - 1 - i < n then _ else _) = _
        rw [if_pos (by omega)]; congr 1; omega
      · rw [dg_le.1 (Nat.le_refl (dg q')) i (by omega)]
    have hB : ∀ x, pev (lst m fun k => u (n + (m - 1 - k))) x = - pev p' x := fun x => by
      have : ∀ x, pev (lst m fun k => u (n + (m - 1 - k))) x = pev (p'.map fun y => -1 * y) x := ev_co fun i => by
        rw [lst_get', co_map]
        split
        · show (if n + (m - 1 - i) < n then _ else _) = _
          rw [if_neg (by omega), show m - 1 - (n + (m - 1 - i) - n) = i by omega]; omega
        · rw [dg_le.1 (Nat.le_refl (dg p')) i (by omega)]; rfl
      rw [this, ev_map_mul]; omega
    have ht : p'.getD (dg p' - 1) 0 ≠ 0 := ld_ne hp0
    have hi : n + (m - 1 - (dg p' - 1)) < m + n := by omega
    refine kernel_det (u := u) (i := n + (m - 1 - (dg p' - 1))) hi ?_ fun j hj => ?_
    · show (if n + (m - 1 - (dg p' - 1)) < n then _ else - p'.getD (m - 1 - (n + (m - 1 - (dg p' - 1)) - n)) 0) ≠ 0
      rw [if_neg (by omega), show m - 1 - (n + (m - 1 - (dg p' - 1)) - n) = dg p' - 1 by omega]
      omega
    · have := evr_inj (N := m + n) (u := mm (m + n) (fun _ => u) (S2 m n (fun t => p.getD t 0) fun t => q.getD t 0) 0) (v := fun _ => 0) (fun x => by
        rw [evr_mm, S2_sum, hA, hB, evd_of (by omega), evd_of (by omega), hp', hq']
        unfold evr
        rw [isum_zero fun k _ => by simp]
        grind) j hj
      exact this
end Go.Proofs.Ytajkjlgddmkkaaa

namespace Go.Proofs.Ytajkjlgddmkkaaa
open Go.RowKit
theorem deg_dgM (l : List Int) : deg l = (dg l : Int) - 1 := by
  have h1 := degTo_le l l.length (dg l) (dg_le_len l) fun j h _ => dg_le.1 (Nat.le_refl _) j h
  unfold deg
  rw [h1]
  by_cases h0 : dg l = 0
  · rw [h0]; rfl
  · have h2 := ld_ne (l := l) (by omega)
    unfold ld at h2
    obtain ⟨m, hm⟩ : ∃ m, dg l = m + 1 := ⟨dg l - 1, by omega⟩
    rw [hm] at h2 ⊢
    simp only [degTo, Nat.add_sub_cancel] at h2 ⊢
    rw [if_neg h2]; omega
theorem sylAt_sF (p : List Int) (d i j : Nat) : sylAt p d i j = sF (fun t => p.getD t 0) d i j := by
  unfold sylAt sF
  by_cases h : i ≤ j ∧ j ≤ i + d
  · rw [if_pos h, if_pos (by omega)]
    simp only
    rw [if_neg (by omega)]
    congr 1; omega
  · rw [if_neg h, if_neg (by omega)]
theorem sylRows_len (p : List Int) (n c : Nat) : (sylRows p n c).length = n := by unfold sylRows; simp
theorem sylRows_at {p : List Int} {n c i j : Nat} (hi : i < n) (hj : j < c) : ((sylRows p n c).getD i []).getD j 0 = sylAt p (deg p) i j := by
  unfold sylRows
  simp [List.getD_eq_getElem?_getD, hi, hj]
theorem mres_RS {p q : List Int} {m n : Nat} (hp : dg p = m + 1) (hq : dg q = n + 1) : mres p q = RS m n (fun t => p.getD t 0) (fun t => q.getD t 0) := by
  have dp : deg p = (m : Nat) := by rw [deg_dgM, hp]; omega
  have dq : deg q = (n : Nat) := by rw [deg_dgM, hq]; omega
  unfold mres
  rw [if_neg (by omega)]
  by_cases hb : bare p q
  · have h0 : m = 0 ∧ n = 0 := by
      unfold bare at hb; omega
    obtain ⟨rfl, rfl⟩ := h0
    rw [if_pos hb]
    rfl
  · rw [if_neg hb]
    have hs : syl p q = sylRows p n (m + n) ++ sylRows q m (m + n) := by
      unfold syl
      rw [dp, dq, Int.toNat_natCast, Int.toNat_natCast, show ((m : Int) + (n : Int)).toNat = m + n by omega]
    have hl : (syl p q).length = m + n := by rw [hs, List.length_append, sylRows_len, sylRows_len, Nat.add_comm]
    rw [hl]
    refine det_congr fun i j hi hj => ?_
    unfold mx
    rw [hs]
    by_cases h : i < n
    · have e : (sylRows p n (m + n) ++ sylRows q m (m + n)).getD i [] = (sylRows p n (m + n)).getD i [] := by
        simp only [List.getD_eq_getElem?_getD]
        rw [List.getElem?_append_left (by rw [sylRows_len]; exact h)]
      rw [e, sylRows_at h hj, dp, sylAt_sF, S2_top h]
    · have e : (sylRows p n (m + n) ++ sylRows q m (m + n)).getD i [] = (sylRows q m (m + n)).getD (i - n) [] := by
        simp only [List.getD_eq_getElem?_getD]
        rw [List.getElem?_append_right (by rw [sylRows_len]; omega), sylRows_len]
      rw [e, sylRows_at (by omega) hj, dq, sylAt_sF, S2_low (by omega)]
theorem RS_sz {m n k : Nat} {f g : Nat → Int} (hf : ∀ t, sz (f t) k) (hg : ∀ t, sz (g t) k) (h : m + n < 1048576) : sz (RS m n f g) ((k + 1) * (m + n) + 1) :=
  det_sz (m + n) h fun i j _ _ => by
    unfold S2 sF
    split
    · split
      · exact hf _
      · exact sz_zero _
    · split
      · exact hg _
      · exact sz_zero _
theorem mres_zero {p q : List Int} (h : dg p = 0 ∨ dg q = 0) : mres p q = 0 := by
  unfold mres
  rw [if_pos]
  rw [deg_dgM, deg_dgM]; omega
/-- All that the law says, of what the code reckons. -/
structure ResLaw (l m n : List Int) (a : Int) : Prop where
  turn : 0 < dg l → 0 < dg m → mres m l = (if (dg l - 1) % 2 = 1 ∧ (dg m - 1) % 2 = 1 then - mres l m else mres l m)
  common : ∀ g, 0 < dg l → 0 < dg m → Gc g l m → (mres l m = 0 ↔ 2 ≤ dg g)
  mul : 0 < dg l → 0 < dg m → 0 < dg n → mres (pmul l n) m = mres l m * mres n m
  line : 0 < dg m → mres [-a, 1] m = pev m a
theorem resLaw (l m n : List Int) (a : Int) : ResLaw l m n a := by
  refine ⟨fun h1 h2 => ?_, fun g h1 h2 hg => ?_, fun h1 h2 h3 => ?_, fun h2 => ?_⟩
  · obtain ⟨d, hd⟩ : ∃ d, dg l = d + 1 := ⟨dg l - 1, by omega⟩
    obtain ⟨e, he⟩ : ∃ e, dg m = e + 1 := ⟨dg m - 1, by omega⟩
    rw [mres_RS hd he, mres_RS he hd, RS_swap d e, hd, he, Nat.add_sub_cancel, Nat.add_sub_cancel]
    by_cases h : d % 2 = 1 ∧ e % 2 = 1
    · rw [if_pos h]
      have : sg (d * e) = -1 := by
        unfold sg
        rw [if_pos (by rw [Nat.mul_mod, h.1, h.2])]
      rw [this]; omega
    · rw [if_neg h]
      have : sg (d * e) = 1 := by
        refine sg_even ?_
        rw [Nat.mul_mod]
        have : d % 2 = 0 ∨ e % 2 = 0 := by omega
        rcases this with h | h <;> rw [h] <;> simp
      rw [this]; omega
  · obtain ⟨d, hd⟩ : ∃ d, dg l = d + 1 := ⟨dg l - 1, by omega⟩
    obtain ⟨e, he⟩ : ∃ e, dg m = e + 1 := ⟨dg m - 1, by omega⟩
    rw [mres_RS hd he]
    exact RS_common hd he hg
  · obtain ⟨d, hd⟩ : ∃ d, dg l = d + 1 := ⟨dg l - 1, by omega⟩
    obtain ⟨e, he⟩ : ∃ e, dg m = e + 1 := ⟨dg m - 1, by omega⟩
    obtain ⟨c, hc⟩ : ∃ c, dg n = c + 1 := ⟨dg n - 1, by omega⟩
    have hp := (pmul_dg h1 h3).1
    have hp' : dg (pmul l n) = (d + c) + 1 := by omega
    rw [mres_RS hd he, mres_RS hc he, mres_RS hp' he]
    refine RS_mul ?_ fun x => ?_
    · have := ld_ne h3
      unfold ld at this
      rw [hc, Nat.add_sub_cancel] at this
      exact this
    · rw [evd_of (by omega), evd_of (by omega), evd_of (by omega), ev_pmul]
  · obtain ⟨e, he⟩ : ∃ e, dg m = e + 1 := ⟨dg m - 1, by omega⟩
    have h2 : dg [-a, 1] = 1 + 1 := by simp [dg, nrm]
    rw [mres_RS h2 he, RS_line e a (fun t => [-a, 1].getD t 0) _ rfl rfl, evd_of (by omega)]
theorem mres_sz {l m : List Int} {k a b : Nat} (hl : szR k l) (hm : szR k m) (h1 : dg l ≤ a) (h2 : dg m ≤ b) (hab : a + b < 1048576) : sz (mres l m) ((k + 1) * (a + b) + 1) := by
  by_cases h : 0 < dg l ∧ 0 < dg m
  · obtain ⟨d, hd⟩ : ∃ d, dg l = d + 1 := ⟨dg l - 1, by omega⟩
    obtain ⟨e, he⟩ : ∃ e, dg m = e + 1 := ⟨dg m - 1, by omega⟩
    rw [mres_RS hd he]
    refine (RS_sz (fun t => hl.get t) (fun t => hm.get t) (by omega)).mono ?_
    have := Nat.mul_le_mul_left (k + 1) (show d + e ≤ a + b by omega)
    omega
  · rw [mres_zero (by omega)]; exact sz_zero _
theorem pDegreeN (v : Value) (p : Row) (hp : Fit 137438953472 p) :
    Meets Try.prog 45 [v] [(v, V p)] (fun r os fs => os = [] ∧ fs = [] ∧ r = .int .i64 ((dg (vv p) : Nat) - 1 : Int)) := by
  have := pDegree_meets v p hp
  rw [deg_dgM] at this; exact this
theorem exactE (v w : Value) (x y : Int) (h : x = y) : Meets Try.prog 20 [v, w] [(v, zd x), (w, zd y)] (fun r os fs => os = [] ∧ fs = [] ∧ r = .bool true) := by
  have := exactW v w x y
  rw [decide_eq_true h] at this
  exact this
theorem pmul_lenM (l m : List Int) {a b : Nat} (ha : l.length ≤ a) (hb : m.length ≤ b) : (pmul l m).length ≤ a + b := by
  have a1 := dg_le_len l
  have a2 := dg_le_len m
  by_cases h : 0 < dg l ∧ 0 < dg m
  · have := (pmul_dg h.1 h.2).1
    rw [dg_nm (pmul_nm l m)] at this
    omega
  · have : pmul l m = [] := (pmul_nm l m).ext Nm.nil fun x => by
      rw [ev_pmul]
      by_cases h1 : dg l = 0
      · rw [dg_zero.1 h1]; simp [pev]
      · rw [dg_zero.1 (show dg m = 0 by omega)]; simp [pev]
    rw [this]; exact Nat.zero_le _
theorem pmul_szM {k j : Nat} {l m : List Int} (h : szR k l) (h' : szR j m) (hl : l.length < 18446744073709551616) : szR (k + j + 1) (pmul l m) := by
  have hn : (nrm l).length ≤ l.length := nrm_length_le l
  unfold pmul
  simp only
  split
  · exact fun x hx => by simp at hx
  · exact szR.nrm (szR.lst fun i _ => conv_sz h.nrm h'.nrm (by omega) i)
theorem rFitsY (v : Value) (p : Row) (n k : Nat) (h : smallR n k p) :
    Meets Try.prog 22 [v, .int .i64 (n : Int), .int .i64 (k : Int)] [(v, V p)] (fun r os fs => os = [] ∧ fs = [] ∧ r = .bool true) := by
  have := rFits_meets v p n k
  rw [decide_eq_true (show p.length ≤ n ∧ ∀ x, x ∈ p → x.2.length ≤ k from h)] at this
  exact this
theorem rFitsN (v : Value) (p : Row) (n k : Nat) (h : ¬ smallR n k p) :
    Meets Try.prog 22 [v, .int .i64 (n : Int), .int .i64 (k : Int)] [(v, V p)] (fun r os fs => os = [] ∧ fs = [] ∧ r = .bool false) := by
  have := rFits_meets v p n k
  rw [decide_eq_false (show ¬ (p.length ≤ n ∧ ∀ x, x ∈ p → x.2.length ≤ k) from h)] at this
  exact this
theorem rMulZZm (v w : Value) (x y : Int) (e : Nat) (hx : sz x e) (hy : sz y e) (he : e ≤ 137438953472) :
    Meets Try.prog 33 [v, w] [(v, zd x), (w, zd y)] (fun r os fs => os = [] ∧ fs = [(r, zd (x * y))]) := by
  have h := rMulZJ v w x (cn y) e hx he (Lim_lims _) (Nat.le_trans hy.len he)
  rw [jv_cn] at h
  exact h
theorem rNegJm (v : Value) (x : Bool × List Nat) (hx : Lim x.2) (lx : x.2.length ≤ 1099511627776) :
    Meets Try.prog 35 [v] [(v, J x)] (fun r os fs => os = [] ∧ fs = [(r, zd (- jv x))]) := rNeg_meets v x.1 x.2 hx lx
/-- A divisor's degree. -/
theorem pDegreeT4 (v : Value) (G : List Int) {l : List Int} {k n : Nat} (hg : Dv G l) (h0 : 0 < dg l) (hn : dg l ≤ n) (hs : szR k l) (nG : Nm G) (hk : dvk k n ≤ 137438953472 := by decide) (h32 : n ≤ 4294967296 := by decide) :
    Meets Try.prog 45 [v] [(v, vd G)] (fun r os fs => os = [] ∧ fs = [] ∧ r = .int .i64 ((dg G : Nat) - 1 : Int)) := by
  have sG := dv_szR hg h0 hs nG hn h32
  have := pDegreeN v (G.map cn) (sG.fit.mono hk)
  rw [vv_cn] at this
  exact this
theorem resultants_walk (u v w z : Value) (p q r : Row) (a : Bool × List Nat) (X Y Z R W : Int) (dp dq dr : Nat) (M : List Int) (ha : Lim a.2) (sp : smallR 4 1 p) (sq : smallR 4 1 q) (sr : smallR 4 1 r) (hal : a.2.length ≤ 1)
    (c1 : Meets Try.prog 31 [u, v] [(u, V p), (v, V q)] (fun r os fs => os = [] ∧ fs = [(r, zd X)]))
    (c2 : Meets Try.prog 31 [v, u] [(v, V q), (u, V p)] (fun r os fs => os = [] ∧ fs = [(r, zd Y)]))
    (d1 : Meets Try.prog 45 [u] [(u, V p)] (fun r os fs => os = [] ∧ fs = [] ∧ r = .int .i64 ((dp : Nat) - 1 : Int)))
    (d2 : Meets Try.prog 45 [v] [(v, V q)] (fun r os fs => os = [] ∧ fs = [] ∧ r = .int .i64 ((dq : Nat) - 1 : Int)))
    (d3 : Meets Try.prog 45 [w] [(w, V r)] (fun r os fs => os = [] ∧ fs = [] ∧ r = .int .i64 ((dr : Nat) - 1 : Int)))
    (hz0 : dp = 0 ∨ dq = 0 → X = 0 ∧ Y = 0) (s1 : sz X 17) (s2 : sz Y 17) (s3 : sz R 17)
    (ht : 0 < dp → 0 < dq → Y = if (dp - 1) % 2 = 1 ∧ (dq - 1) % 2 = 1 then - X else X)
    (cg : 0 < dp → 0 < dq → Meets Try.prog 46 [u, v] [(u, V p), (v, V q)] (fun r os fs => os = [] ∧ ∃ G dG, (∀ t, Meets Try.prog 45 [t] [(t, vd G)] (fun r os fs => os = [] ∧ fs = [] ∧ r = .int .i64 ((dG : Nat) - 1 : Int))) ∧ (X = 0 ↔ 2 ≤ dG) ∧ fs = [(r, vd G)]))
    (cm : Meets Try.prog 47 [u, w] [(u, V p), (w, V r)] (fun r os fs => os = [] ∧ fs = [(r, vd M)]))
    (c3 : ∀ t, Meets Try.prog 31 [t, v] [(t, vd M), (v, V q)] (fun r os fs => os = [] ∧ fs = [(r, zd W)]))
    (c4 : Meets Try.prog 31 [w, v] [(w, V r), (v, V q)] (fun r os fs => os = [] ∧ fs = [(r, zd R)]))
    (hW : 0 < dp → 0 < dq → 0 < dr → W = X * R)
    (c5 : 0 < dq → ∀ t, Meets Try.prog 31 [t, v] [(t, vd [- jv a, 1]), (v, V q)] (fun r os fs => os = [] ∧ fs = [(r, zd Z)]))
    (c6 : ∀ t, Meets Try.prog 48 [v, t] [(v, V q), (t, J a)] (fun r os fs => os = [] ∧ fs = [(r, zd Z)])) :
    Meets Try.prog 12 [u, v, w, z] [(u, V p), (v, V q), (w, V r), (z, J a)] (fun r os fs => os = [] ∧ fs = [] ∧ r = .bool true) := by
  refine meets_of_vc Try.func12 (by kernel_rfl) rfl (by kernel_rfl) (Nat.le_of_ble_eq_true rfl) ?_
  refine box_fact (Reads.fact (d := J a) (by repeat (first | exact List.Mem.head _ | apply List.Mem.tail))) fun pa => ?_
  refine call_fn shown_meets (Seals.refl _ _) (by repeat (first | exact Sub.nil _ | refine Sub.cons (by repeat (first | exact List.Mem.head _ | apply List.Mem.tail)) ?_)) ?_
  rintro _ _ _ ⟨rfl, rfl, rfl⟩
  refine call_fn (rFitsY u p 4 1 sp) (Seals.refl _ _) (by repeat (first | exact Sub.nil _ | refine Sub.cons (by repeat (first | exact List.Mem.head _ | apply List.Mem.tail)) ?_)) ?_
  rintro _ _ _ ⟨rfl, rfl, rfl⟩
  refine call_fn (rFitsY v q 4 1 sq) (Seals.refl _ _) (by repeat (first | exact Sub.nil _ | refine Sub.cons (by repeat (first | exact List.Mem.head _ | apply List.Mem.tail)) ?_)) ?_
  rintro _ _ _ ⟨rfl, rfl, rfl⟩
  refine call_fn (rFitsY w r 4 1 sr) (Seals.refl _ _) (by repeat (first | exact Sub.nil _ | refine Sub.cons (by repeat (first | exact List.Mem.head _ | apply List.Mem.tail)) ?_)) ?_
  rintro _ _ _ ⟨rfl, rfl, rfl⟩
  refine field_fact (off := 1) (d := J a) (d' := U a.2) (by repeat (first | exact List.Mem.head _ | apply List.Mem.tail)) (Part.right (Part.refl _)) fun _ => ?_
  refine load_fact (d := U a.2) (by repeat (first | exact List.Mem.head _ | apply List.Mem.tail)) (load_L _) fun _ => ?_
  refine len_fact (by repeat (first | exact List.Mem.head _ | apply List.Mem.tail)) fun _ => ?_
  refine cmp_false rfl (by omega) ?_
  refine call_fn (c1) (Seals.refl _ _) (by repeat (first | exact Sub.nil _ | refine Sub.cons (by repeat (first | exact List.Mem.head _ | apply List.Mem.tail)) ?_)) ?_
  rintro x1 _ _ ⟨rfl, rfl⟩
  refine alloc_rule (d := I false []) fun bx h1 => ?_
  refine store_box (d := zd X) 0 rfl h1 rfl (by kernel_rfl) ?_ ?_; exact Reads.fact (by repeat (first | exact List.Mem.head _ | apply List.Mem.tail))
  refine call_fn (c2) (Seals.refl _ _) (by repeat (first | exact Sub.nil _ | refine Sub.cons (by repeat (first | exact List.Mem.head _ | apply List.Mem.tail)) ?_)) ?_
  rintro x2 _ _ ⟨rfl, rfl⟩
  refine alloc_rule (d := I false []) fun b2 h2 => ?_
  refine store_box (d := zd Y) 0 rfl h2 rfl (by kernel_rfl) ?_ ?_; exact Reads.fact (by repeat (first | exact List.Mem.head _ | apply List.Mem.tail))
  refine call_fn (d1) (Seals.refl _ _) (by repeat (first | exact Sub.nil _ | refine Sub.cons (by repeat (first | exact List.Mem.head _ | apply List.Mem.tail)) ?_)) ?_
  rintro _ _ _ ⟨rfl, rfl, rfl⟩
  refine cmp_split _ rfl (fun hz => ?_) (fun hz => ?_)
  · obtain ⟨hX, hY⟩ := hz0 (by omega)
    refine load_box (d := zd X) 1 rfl h1 rfl (load_I _ _) fun y1 => ?_
    refine call_fn (rSignZ y1 X 17 s1 (by decide)) (Seals.refl _ _) (by repeat (first | exact Sub.nil _ | refine Sub.cons (by repeat (first | exact List.Mem.head _ | apply List.Mem.tail)) ?_)) ?_
    rintro _ _ _ ⟨rfl, rfl, rfl⟩
    refine cmp_true rfl (by rw [hX]; rfl) ?_
    refine load_box (d := zd Y) 0 rfl h2 rfl (load_I _ _) fun y2 => ?_
    refine call_fn (rSignZ y2 Y 17 s2 (by decide)) (Seals.refl _ _) (by repeat (first | exact Sub.nil _ | refine Sub.cons (by repeat (first | exact List.Mem.head _ | apply List.Mem.tail)) ?_)) ?_
    rintro _ _ _ ⟨rfl, rfl, rfl⟩
    refine cmp_true rfl (by rw [hY]; rfl) ?_
    exact fin ⟨rfl, rfl, rfl⟩ (Seals.trans (Seals.drop 0 _ _) (Seals.trans (Seals.drop 0 _ _) (Seals.nil _ _)))
  refine call_fn (d2) (Seals.refl _ _) (by repeat (first | exact Sub.nil _ | refine Sub.cons (by repeat (first | exact List.Mem.head _ | apply List.Mem.tail)) ?_)) ?_
  rintro _ _ _ ⟨rfl, rfl, rfl⟩
  refine cmp_split _ rfl (fun hz2 => ?_) (fun hz2 => ?_)
  · obtain ⟨hX, hY⟩ := hz0 (by omega)
    refine load_box (d := zd X) 1 rfl h1 rfl (load_I _ _) fun y1 => ?_
    refine call_fn (rSignZ y1 X 17 s1 (by decide)) (Seals.refl _ _) (by repeat (first | exact Sub.nil _ | refine Sub.cons (by repeat (first | exact List.Mem.head _ | apply List.Mem.tail)) ?_)) ?_
    rintro _ _ _ ⟨rfl, rfl, rfl⟩
    refine cmp_true rfl (by rw [hX]; rfl) ?_
    refine load_box (d := zd Y) 0 rfl h2 rfl (load_I _ _) fun y2 => ?_
    refine call_fn (rSignZ y2 Y 17 s2 (by decide)) (Seals.refl _ _) (by repeat (first | exact Sub.nil _ | refine Sub.cons (by repeat (first | exact List.Mem.head _ | apply List.Mem.tail)) ?_)) ?_
    rintro _ _ _ ⟨rfl, rfl, rfl⟩
    refine cmp_true rfl (by rw [hY]; rfl) ?_
    exact fin ⟨rfl, rfl, rfl⟩ (Seals.trans (Seals.drop 0 _ _) (Seals.trans (Seals.drop 0 _ _) (Seals.nil _ _)))
  have ht := ht (by omega) (by omega)
  have cg := cg (by omega) (by omega)
  have hW := hW (by omega) (by omega)
  have c5 := c5 (by omega)
  refine call_fn (d1) (Seals.refl _ _) (by repeat (first | exact Sub.nil _ | refine Sub.cons (by repeat (first | exact List.Mem.head _ | apply List.Mem.tail)) ?_)) ?_
  rintro _ _ _ ⟨rfl, rfl, rfl⟩
  refine rem_rule (by omega) (by omega) ?_
  refine cmp_split _ rfl (fun ho => ?_) (fun ho => ?_)
  ·
    refine call_fn (d2) (Seals.refl _ _) (by repeat (first | exact Sub.nil _ | refine Sub.cons (by repeat (first | exact List.Mem.head _ | apply List.Mem.tail)) ?_)) ?_
    rintro _ _ _ ⟨rfl, rfl, rfl⟩
    refine rem_rule (by omega) (by omega) ?_
    refine cmp_split _ rfl (fun ho2 => ?_) (fun ho2 => ?_)
    · rw [if_pos (by omega)] at ht
      have hn : - Y = X := by omega
      refine load_box (d := zd Y) 0 rfl h2 rfl (load_I _ _) fun y1 => ?_
      refine call_fn (rNegZ y1 Y 17 s2 (by decide)) (Seals.refl _ _) (by repeat (first | exact Sub.nil _ | refine Sub.cons (by repeat (first | exact List.Mem.head _ | apply List.Mem.tail)) ?_)) ?_
      rintro y2 _ _ ⟨rfl, rfl⟩
      rw [hn]
      refine store_box (d := zd X) 0 rfl h2 rfl (by kernel_rfl) ?_ ?_; exact Reads.fact (by repeat (first | exact List.Mem.head _ | apply List.Mem.tail))
      refine load_box (d := zd X) 1 rfl h1 rfl (load_I _ _) fun y1 => ?_
      refine load_box (d := zd X) 0 rfl h2 rfl (load_I _ _) fun y2 => ?_
      refine call_fn (exactE y1 y2 X X rfl) (Seals.refl _ _) (by repeat (first | exact Sub.nil _ | refine Sub.cons (by repeat (first | exact List.Mem.head _ | apply List.Mem.tail)) ?_)) ?_
      rintro _ _ _ ⟨rfl, rfl, rfl⟩
      refine load_box (d := zd X) 1 rfl h1 rfl (load_I _ _) fun y3 => ?_
      refine call_fn (rSignZ y3 X 17 s1 (by decide)) (Seals.refl _ _) (by repeat (first | exact Sub.nil _ | refine Sub.cons (by repeat (first | exact List.Mem.head _ | apply List.Mem.tail)) ?_)) ?_
      rintro _ _ _ ⟨rfl, rfl, rfl⟩
      refine cmp_split _ rfl (fun hs => ?_) (fun hs => ?_)
      · refine call_fn cg (Seals.refl _ _) (by repeat (first | exact Sub.nil _ | refine Sub.cons (by repeat (first | exact List.Mem.head _ | apply List.Mem.tail)) ?_)) ?_
        rintro y4 _ _ ⟨rfl, G, dG, hd, hG, rfl⟩
        have hG := hG.1 (Int.sign_eq_zero_iff_zero.1 hs)
        refine call_fn (hd y4) (Seals.refl _ _) (by repeat (first | exact Sub.nil _ | refine Sub.cons (by repeat (first | exact List.Mem.head _ | apply List.Mem.tail)) ?_)) ?_
        rintro _ _ _ ⟨rfl, rfl, rfl⟩
        refine cmp_true rfl (by omega) ?_
        refine bne_split (fun h => absurd rfl h) (fun _ => ?_)
        refine draw_rule [0, 1, 2, 3, 4, 5, 7, 9, 10, 11, 6, 8, 12, 13, 14, 15, 16] [0, 1, 2, 3, 4, 5, 6, 7, 8, 9, 10, 11, 12, 13, 14, 15, 16] (by kernel_rfl) (by kernel_rfl) ?_
        refine call_fn (d3) (Seals.refl _ _) (by repeat (first | exact Sub.nil _ | refine Sub.cons (by repeat (first | exact List.Mem.head _ | apply List.Mem.tail)) ?_)) ?_
        rintro _ _ _ ⟨rfl, rfl, rfl⟩
        refine cmp_split _ rfl (fun hr0 => ?_) (fun hr0 => ?_)
        · have e3 := hW (by omega)
          refine load_box (d := zd X) 1 rfl h1 rfl (load_I _ _) fun y5 => ?_
          refine call_fn (cm) (Seals.refl _ _) (by repeat (first | exact Sub.nil _ | refine Sub.cons (by repeat (first | exact List.Mem.head _ | apply List.Mem.tail)) ?_)) ?_
          rintro y6 _ _ ⟨rfl, rfl⟩
          refine call_fn (c3 y6) (Seals.refl _ _) (by repeat (first | exact Sub.nil _ | refine Sub.cons (by repeat (first | exact List.Mem.head _ | apply List.Mem.tail)) ?_)) ?_
          rintro y7 _ _ ⟨rfl, rfl⟩
          refine call_fn (c4) (Seals.refl _ _) (by repeat (first | exact Sub.nil _ | refine Sub.cons (by repeat (first | exact List.Mem.head _ | apply List.Mem.tail)) ?_)) ?_
          rintro y8 _ _ ⟨rfl, rfl⟩
          refine call_fn (rMulZZm y5 y8 X R 17 s1 s3 (by decide)) (Seals.refl _ _) (by repeat (first | exact Sub.nil _ | refine Sub.cons (by repeat (first | exact List.Mem.head _ | apply List.Mem.tail)) ?_)) ?_
          rintro y9 _ _ ⟨rfl, rfl⟩
          refine call_fn (exactE y7 y9 _ _ e3) (Seals.refl _ _) (by repeat (first | exact Sub.nil _ | refine Sub.cons (by repeat (first | exact List.Mem.head _ | apply List.Mem.tail)) ?_)) ?_
          rintro _ _ _ ⟨rfl, rfl, rfl⟩
          refine load_fact (d := J a) (by repeat (first | exact List.Mem.head _ | apply List.Mem.tail)) (load_J _) fun y10 => ?_
          refine call_fn (rNegJm y10 a ha (by omega)) (Seals.refl _ _) (by repeat (first | exact Sub.nil _ | refine Sub.cons (by repeat (first | exact List.Mem.head _ | apply List.Mem.tail)) ?_)) ?_
          rintro y11 _ _ ⟨rfl, rfl⟩
          refine call_fn (rOf_meets 1 (by decide) (by decide)) (Seals.refl _ _) (by repeat (first | exact Sub.nil _ | refine Sub.cons (by repeat (first | exact List.Mem.head _ | apply List.Mem.tail)) ?_)) ?_
          rintro y12 _ _ ⟨rfl, rfl⟩
          refine lit2_L (size := 2) (f := J) (z := z0) (e := 28) (cn (- jv a)) (cn 1) (by decide) (Reads.fact (by repeat (first | exact List.Mem.head _ | apply List.Mem.tail))) (Reads.fact (by repeat (first | exact List.Mem.head _ | apply List.Mem.tail))) rfl rfl fun y13 => ?_
          refine draw_rule [0, 1, 2, 3, 5, 6, 4, 7, 8, 9, 10] [0, 1, 2, 3, 4, 5, 6, 7, 8, 9, 10] (by kernel_rfl) (by kernel_rfl) ?_
          refine load_fact (d := J a) (by repeat (first | exact List.Mem.head _ | apply List.Mem.tail)) (load_J _) fun y14 => ?_
          refine call_fn (c5 y13) (Seals.refl _ _) (by repeat (first | exact Sub.nil _ | refine Sub.cons (by repeat (first | exact List.Mem.head _ | apply List.Mem.tail)) ?_)) ?_
          rintro y15 _ _ ⟨rfl, rfl⟩
          refine call_fn (c6 y14) (Seals.refl _ _) (by repeat (first | exact Sub.nil _ | refine Sub.cons (by repeat (first | exact List.Mem.head _ | apply List.Mem.tail)) ?_)) ?_
          rintro y16 _ _ ⟨rfl, rfl⟩
          refine call_fn (exactE y15 y16 Z Z rfl) (Seals.refl _ _) (by repeat (first | exact Sub.nil _ | refine Sub.cons (by repeat (first | exact List.Mem.head _ | apply List.Mem.tail)) ?_)) ?_
          rintro _ _ _ ⟨rfl, rfl, rfl⟩
          exact fin ⟨rfl, rfl, rfl⟩ (Seals.trans (Seals.drop 0 _ _) (Seals.trans (Seals.drop 0 _ _) (Seals.nil _ _)))
        ·
          refine load_fact (d := J a) (by repeat (first | exact List.Mem.head _ | apply List.Mem.tail)) (load_J _) fun y10 => ?_
          refine call_fn (rNegJm y10 a ha (by omega)) (Seals.refl _ _) (by repeat (first | exact Sub.nil _ | refine Sub.cons (by repeat (first | exact List.Mem.head _ | apply List.Mem.tail)) ?_)) ?_
          rintro y11 _ _ ⟨rfl, rfl⟩
          refine call_fn (rOf_meets 1 (by decide) (by decide)) (Seals.refl _ _) (by repeat (first | exact Sub.nil _ | refine Sub.cons (by repeat (first | exact List.Mem.head _ | apply List.Mem.tail)) ?_)) ?_
          rintro y12 _ _ ⟨rfl, rfl⟩
          refine lit2_L (size := 2) (f := J) (z := z0) (e := 28) (cn (- jv a)) (cn 1) (by decide) (Reads.fact (by repeat (first | exact List.Mem.head _ | apply List.Mem.tail))) (Reads.fact (by repeat (first | exact List.Mem.head _ | apply List.Mem.tail))) rfl rfl fun y13 => ?_
          refine draw_rule [0, 1, 2, 3, 5, 6, 4, 7, 8, 9, 10] [0, 1, 2, 3, 4, 5, 6, 7, 8, 9, 10] (by kernel_rfl) (by kernel_rfl) ?_
          refine load_fact (d := J a) (by repeat (first | exact List.Mem.head _ | apply List.Mem.tail)) (load_J _) fun y14 => ?_
          refine call_fn (c5 y13) (Seals.refl _ _) (by repeat (first | exact Sub.nil _ | refine Sub.cons (by repeat (first | exact List.Mem.head _ | apply List.Mem.tail)) ?_)) ?_
          rintro y15 _ _ ⟨rfl, rfl⟩
          refine call_fn (c6 y14) (Seals.refl _ _) (by repeat (first | exact Sub.nil _ | refine Sub.cons (by repeat (first | exact List.Mem.head _ | apply List.Mem.tail)) ?_)) ?_
          rintro y16 _ _ ⟨rfl, rfl⟩
          refine call_fn (exactE y15 y16 Z Z rfl) (Seals.refl _ _) (by repeat (first | exact Sub.nil _ | refine Sub.cons (by repeat (first | exact List.Mem.head _ | apply List.Mem.tail)) ?_)) ?_
          rintro _ _ _ ⟨rfl, rfl, rfl⟩
          exact fin ⟨rfl, rfl, rfl⟩ (Seals.trans (Seals.drop 0 _ _) (Seals.trans (Seals.drop 0 _ _) (Seals.nil _ _)))
      · refine call_fn cg (Seals.refl _ _) (by repeat (first | exact Sub.nil _ | refine Sub.cons (by repeat (first | exact List.Mem.head _ | apply List.Mem.tail)) ?_)) ?_
        rintro y4 _ _ ⟨rfl, G, dG, hd, hG, rfl⟩
        have hG : ¬ 2 ≤ dG := fun h => hs (Int.sign_eq_zero_iff_zero.2 (hG.2 h))
        refine call_fn (hd y4) (Seals.refl _ _) (by repeat (first | exact Sub.nil _ | refine Sub.cons (by repeat (first | exact List.Mem.head _ | apply List.Mem.tail)) ?_)) ?_
        rintro _ _ _ ⟨rfl, rfl, rfl⟩
        refine cmp_false rfl (by omega) ?_
        refine bne_split (fun h => absurd rfl h) (fun _ => ?_)
        refine draw_rule [0, 1, 2, 3, 4, 5, 7, 9, 10, 11, 6, 8, 12, 13, 14, 15, 16] [0, 1, 2, 3, 4, 5, 6, 7, 8, 9, 10, 11, 12, 13, 14, 15, 16] (by kernel_rfl) (by kernel_rfl) ?_
        refine call_fn (d3) (Seals.refl _ _) (by repeat (first | exact Sub.nil _ | refine Sub.cons (by repeat (first | exact List.Mem.head _ | apply List.Mem.tail)) ?_)) ?_
        rintro _ _ _ ⟨rfl, rfl, rfl⟩
        refine cmp_split _ rfl (fun hr0 => ?_) (fun hr0 => ?_)
        · have e3 := hW (by omega)
          refine load_box (d := zd X) 1 rfl h1 rfl (load_I _ _) fun y5 => ?_
          refine call_fn (cm) (Seals.refl _ _) (by repeat (first | exact Sub.nil _ | refine Sub.cons (by repeat (first | exact List.Mem.head _ | apply List.Mem.tail)) ?_)) ?_
          rintro y6 _ _ ⟨rfl, rfl⟩
          refine call_fn (c3 y6) (Seals.refl _ _) (by repeat (first | exact Sub.nil _ | refine Sub.cons (by repeat (first | exact List.Mem.head _ | apply List.Mem.tail)) ?_)) ?_
          rintro y7 _ _ ⟨rfl, rfl⟩
          refine call_fn (c4) (Seals.refl _ _) (by repeat (first | exact Sub.nil _ | refine Sub.cons (by repeat (first | exact List.Mem.head _ | apply List.Mem.tail)) ?_)) ?_
          rintro y8 _ _ ⟨rfl, rfl⟩
          refine call_fn (rMulZZm y5 y8 X R 17 s1 s3 (by decide)) (Seals.refl _ _) (by repeat (first | exact Sub.nil _ | refine Sub.cons (by repeat (first | exact List.Mem.head _ | apply List.Mem.tail)) ?_)) ?_
          rintro y9 _ _ ⟨rfl, rfl⟩
          refine call_fn (exactE y7 y9 _ _ e3) (Seals.refl _ _) (by repeat (first | exact Sub.nil _ | refine Sub.cons (by repeat (first | exact List.Mem.head _ | apply List.Mem.tail)) ?_)) ?_
          rintro _ _ _ ⟨rfl, rfl, rfl⟩
          refine load_fact (d := J a) (by repeat (first | exact List.Mem.head _ | apply List.Mem.tail)) (load_J _) fun y10 => ?_
          refine call_fn (rNegJm y10 a ha (by omega)) (Seals.refl _ _) (by repeat (first | exact Sub.nil _ | refine Sub.cons (by repeat (first | exact List.Mem.head _ | apply List.Mem.tail)) ?_)) ?_
          rintro y11 _ _ ⟨rfl, rfl⟩
          refine call_fn (rOf_meets 1 (by decide) (by decide)) (Seals.refl _ _) (by repeat (first | exact Sub.nil _ | refine Sub.cons (by repeat (first | exact List.Mem.head _ | apply List.Mem.tail)) ?_)) ?_
          rintro y12 _ _ ⟨rfl, rfl⟩
          refine lit2_L (size := 2) (f := J) (z := z0) (e := 28) (cn (- jv a)) (cn 1) (by decide) (Reads.fact (by repeat (first | exact List.Mem.head _ | apply List.Mem.tail))) (Reads.fact (by repeat (first | exact List.Mem.head _ | apply List.Mem.tail))) rfl rfl fun y13 => ?_
          refine draw_rule [0, 1, 2, 3, 5, 6, 4, 7, 8, 9, 10] [0, 1, 2, 3, 4, 5, 6, 7, 8, 9, 10] (by kernel_rfl) (by kernel_rfl) ?_
          refine load_fact (d := J a) (by repeat (first | exact List.Mem.head _ | apply List.Mem.tail)) (load_J _) fun y14 => ?_
          refine call_fn (c5 y13) (Seals.refl _ _) (by repeat (first | exact Sub.nil _ | refine Sub.cons (by repeat (first | exact List.Mem.head _ | apply List.Mem.tail)) ?_)) ?_
          rintro y15 _ _ ⟨rfl, rfl⟩
          refine call_fn (c6 y14) (Seals.refl _ _) (by repeat (first | exact Sub.nil _ | refine Sub.cons (by repeat (first | exact List.Mem.head _ | apply List.Mem.tail)) ?_)) ?_
          rintro y16 _ _ ⟨rfl, rfl⟩
          refine call_fn (exactE y15 y16 Z Z rfl) (Seals.refl _ _) (by repeat (first | exact Sub.nil _ | refine Sub.cons (by repeat (first | exact List.Mem.head _ | apply List.Mem.tail)) ?_)) ?_
          rintro _ _ _ ⟨rfl, rfl, rfl⟩
          exact fin ⟨rfl, rfl, rfl⟩ (Seals.trans (Seals.drop 0 _ _) (Seals.trans (Seals.drop 0 _ _) (Seals.nil _ _)))
        ·
          refine load_fact (d := J a) (by repeat (first | exact List.Mem.head _ | apply List.Mem.tail)) (load_J _) fun y10 => ?_
          refine call_fn (rNegJm y10 a ha (by omega)) (Seals.refl _ _) (by repeat (first | exact Sub.nil _ | refine Sub.cons (by repeat (first | exact List.Mem.head _ | apply List.Mem.tail)) ?_)) ?_
          rintro y11 _ _ ⟨rfl, rfl⟩
          refine call_fn (rOf_meets 1 (by decide) (by decide)) (Seals.refl _ _) (by repeat (first | exact Sub.nil _ | refine Sub.cons (by repeat (first | exact List.Mem.head _ | apply List.Mem.tail)) ?_)) ?_
          rintro y12 _ _ ⟨rfl, rfl⟩
          refine lit2_L (size := 2) (f := J) (z := z0) (e := 28) (cn (- jv a)) (cn 1) (by decide) (Reads.fact (by repeat (first | exact List.Mem.head _ | apply List.Mem.tail))) (Reads.fact (by repeat (first | exact List.Mem.head _ | apply List.Mem.tail))) rfl rfl fun y13 => ?_
          refine draw_rule [0, 1, 2, 3, 5, 6, 4, 7, 8, 9, 10] [0, 1, 2, 3, 4, 5, 6, 7, 8, 9, 10] (by kernel_rfl) (by kernel_rfl) ?_
          refine load_fact (d := J a) (by repeat (first | exact List.Mem.head _ | apply List.Mem.tail)) (load_J _) fun y14 => ?_
          refine call_fn (c5 y13) (Seals.refl _ _) (by repeat (first | exact Sub.nil _ | refine Sub.cons (by repeat (first | exact List.Mem.head _ | apply List.Mem.tail)) ?_)) ?_
          rintro y15 _ _ ⟨rfl, rfl⟩
          refine call_fn (c6 y14) (Seals.refl _ _) (by repeat (first | exact Sub.nil _ | refine Sub.cons (by repeat (first | exact List.Mem.head _ | apply List.Mem.tail)) ?_)) ?_
          rintro y16 _ _ ⟨rfl, rfl⟩
          refine call_fn (exactE y15 y16 Z Z rfl) (Seals.refl _ _) (by repeat (first | exact Sub.nil _ | refine Sub.cons (by repeat (first | exact List.Mem.head _ | apply List.Mem.tail)) ?_)) ?_
          rintro _ _ _ ⟨rfl, rfl, rfl⟩
          exact fin ⟨rfl, rfl, rfl⟩ (Seals.trans (Seals.drop 0 _ _) (Seals.trans (Seals.drop 0 _ _) (Seals.nil _ _)))
    · rw [if_neg (by omega)] at ht
      subst Y
      refine load_box (d := zd X) 1 rfl h1 rfl (load_I _ _) fun y1 => ?_
      refine load_box (d := zd X) 0 rfl h2 rfl (load_I _ _) fun y2 => ?_
      refine call_fn (exactE y1 y2 X X rfl) (Seals.refl _ _) (by repeat (first | exact Sub.nil _ | refine Sub.cons (by repeat (first | exact List.Mem.head _ | apply List.Mem.tail)) ?_)) ?_
      rintro _ _ _ ⟨rfl, rfl, rfl⟩
      refine load_box (d := zd X) 1 rfl h1 rfl (load_I _ _) fun y3 => ?_
      refine call_fn (rSignZ y3 X 17 s1 (by decide)) (Seals.refl _ _) (by repeat (first | exact Sub.nil _ | refine Sub.cons (by repeat (first | exact List.Mem.head _ | apply List.Mem.tail)) ?_)) ?_
      rintro _ _ _ ⟨rfl, rfl, rfl⟩
      refine cmp_split _ rfl (fun hs => ?_) (fun hs => ?_)
      · refine call_fn cg (Seals.refl _ _) (by repeat (first | exact Sub.nil _ | refine Sub.cons (by repeat (first | exact List.Mem.head _ | apply List.Mem.tail)) ?_)) ?_
        rintro y4 _ _ ⟨rfl, G, dG, hd, hG, rfl⟩
        have hG := hG.1 (Int.sign_eq_zero_iff_zero.1 hs)
        refine call_fn (hd y4) (Seals.refl _ _) (by repeat (first | exact Sub.nil _ | refine Sub.cons (by repeat (first | exact List.Mem.head _ | apply List.Mem.tail)) ?_)) ?_
        rintro _ _ _ ⟨rfl, rfl, rfl⟩
        refine cmp_true rfl (by omega) ?_
        refine bne_split (fun h => absurd rfl h) (fun _ => ?_)
        refine draw_rule [0, 1, 2, 3, 4, 5, 7, 9, 10, 11, 6, 8, 12, 13, 14, 15, 16] [0, 1, 2, 3, 4, 5, 6, 7, 8, 9, 10, 11, 12, 13, 14, 15, 16] (by kernel_rfl) (by kernel_rfl) ?_
        refine call_fn (d3) (Seals.refl _ _) (by repeat (first | exact Sub.nil _ | refine Sub.cons (by repeat (first | exact List.Mem.head _ | apply List.Mem.tail)) ?_)) ?_
        rintro _ _ _ ⟨rfl, rfl, rfl⟩
        refine cmp_split _ rfl (fun hr0 => ?_) (fun hr0 => ?_)
        · have e3 := hW (by omega)
          refine load_box (d := zd X) 1 rfl h1 rfl (load_I _ _) fun y5 => ?_
          refine call_fn (cm) (Seals.refl _ _) (by repeat (first | exact Sub.nil _ | refine Sub.cons (by repeat (first | exact List.Mem.head _ | apply List.Mem.tail)) ?_)) ?_
          rintro y6 _ _ ⟨rfl, rfl⟩
          refine call_fn (c3 y6) (Seals.refl _ _) (by repeat (first | exact Sub.nil _ | refine Sub.cons (by repeat (first | exact List.Mem.head _ | apply List.Mem.tail)) ?_)) ?_
          rintro y7 _ _ ⟨rfl, rfl⟩
          refine call_fn (c4) (Seals.refl _ _) (by repeat (first | exact Sub.nil _ | refine Sub.cons (by repeat (first | exact List.Mem.head _ | apply List.Mem.tail)) ?_)) ?_
          rintro y8 _ _ ⟨rfl, rfl⟩
          refine call_fn (rMulZZm y5 y8 X R 17 s1 s3 (by decide)) (Seals.refl _ _) (by repeat (first | exact Sub.nil _ | refine Sub.cons (by repeat (first | exact List.Mem.head _ | apply List.Mem.tail)) ?_)) ?_
          rintro y9 _ _ ⟨rfl, rfl⟩
          refine call_fn (exactE y7 y9 _ _ e3) (Seals.refl _ _) (by repeat (first | exact Sub.nil _ | refine Sub.cons (by repeat (first | exact List.Mem.head _ | apply List.Mem.tail)) ?_)) ?_
          rintro _ _ _ ⟨rfl, rfl, rfl⟩
          refine load_fact (d := J a) (by repeat (first | exact List.Mem.head _ | apply List.Mem.tail)) (load_J _) fun y10 => ?_
          refine call_fn (rNegJm y10 a ha (by omega)) (Seals.refl _ _) (by repeat (first | exact Sub.nil _ | refine Sub.cons (by repeat (first | exact List.Mem.head _ | apply List.Mem.tail)) ?_)) ?_
          rintro y11 _ _ ⟨rfl, rfl⟩
          refine call_fn (rOf_meets 1 (by decide) (by decide)) (Seals.refl _ _) (by repeat (first | exact Sub.nil _ | refine Sub.cons (by repeat (first | exact List.Mem.head _ | apply List.Mem.tail)) ?_)) ?_
          rintro y12 _ _ ⟨rfl, rfl⟩
          refine lit2_L (size := 2) (f := J) (z := z0) (e := 28) (cn (- jv a)) (cn 1) (by decide) (Reads.fact (by repeat (first | exact List.Mem.head _ | apply List.Mem.tail))) (Reads.fact (by repeat (first | exact List.Mem.head _ | apply List.Mem.tail))) rfl rfl fun y13 => ?_
          refine draw_rule [0, 1, 2, 3, 5, 6, 4, 7, 8, 9, 10] [0, 1, 2, 3, 4, 5, 6, 7, 8, 9, 10] (by kernel_rfl) (by kernel_rfl) ?_
          refine load_fact (d := J a) (by repeat (first | exact List.Mem.head _ | apply List.Mem.tail)) (load_J _) fun y14 => ?_
          refine call_fn (c5 y13) (Seals.refl _ _) (by repeat (first | exact Sub.nil _ | refine Sub.cons (by repeat (first | exact List.Mem.head _ | apply List.Mem.tail)) ?_)) ?_
          rintro y15 _ _ ⟨rfl, rfl⟩
          refine call_fn (c6 y14) (Seals.refl _ _) (by repeat (first | exact Sub.nil _ | refine Sub.cons (by repeat (first | exact List.Mem.head _ | apply List.Mem.tail)) ?_)) ?_
          rintro y16 _ _ ⟨rfl, rfl⟩
          refine call_fn (exactE y15 y16 Z Z rfl) (Seals.refl _ _) (by repeat (first | exact Sub.nil _ | refine Sub.cons (by repeat (first | exact List.Mem.head _ | apply List.Mem.tail)) ?_)) ?_
          rintro _ _ _ ⟨rfl, rfl, rfl⟩
          exact fin ⟨rfl, rfl, rfl⟩ (Seals.trans (Seals.drop 0 _ _) (Seals.trans (Seals.drop 0 _ _) (Seals.nil _ _)))
        ·
          refine load_fact (d := J a) (by repeat (first | exact List.Mem.head _ | apply List.Mem.tail)) (load_J _) fun y10 => ?_
          refine call_fn (rNegJm y10 a ha (by omega)) (Seals.refl _ _) (by repeat (first | exact Sub.nil _ | refine Sub.cons (by repeat (first | exact List.Mem.head _ | apply List.Mem.tail)) ?_)) ?_
          rintro y11 _ _ ⟨rfl, rfl⟩
          refine call_fn (rOf_meets 1 (by decide) (by decide)) (Seals.refl _ _) (by repeat (first | exact Sub.nil _ | refine Sub.cons (by repeat (first | exact List.Mem.head _ | apply List.Mem.tail)) ?_)) ?_
          rintro y12 _ _ ⟨rfl, rfl⟩
          refine lit2_L (size := 2) (f := J) (z := z0) (e := 28) (cn (- jv a)) (cn 1) (by decide) (Reads.fact (by repeat (first | exact List.Mem.head _ | apply List.Mem.tail))) (Reads.fact (by repeat (first | exact List.Mem.head _ | apply List.Mem.tail))) rfl rfl fun y13 => ?_
          refine draw_rule [0, 1, 2, 3, 5, 6, 4, 7, 8, 9, 10] [0, 1, 2, 3, 4, 5, 6, 7, 8, 9, 10] (by kernel_rfl) (by kernel_rfl) ?_
          refine load_fact (d := J a) (by repeat (first | exact List.Mem.head _ | apply List.Mem.tail)) (load_J _) fun y14 => ?_
          refine call_fn (c5 y13) (Seals.refl _ _) (by repeat (first | exact Sub.nil _ | refine Sub.cons (by repeat (first | exact List.Mem.head _ | apply List.Mem.tail)) ?_)) ?_
          rintro y15 _ _ ⟨rfl, rfl⟩
          refine call_fn (c6 y14) (Seals.refl _ _) (by repeat (first | exact Sub.nil _ | refine Sub.cons (by repeat (first | exact List.Mem.head _ | apply List.Mem.tail)) ?_)) ?_
          rintro y16 _ _ ⟨rfl, rfl⟩
          refine call_fn (exactE y15 y16 Z Z rfl) (Seals.refl _ _) (by repeat (first | exact Sub.nil _ | refine Sub.cons (by repeat (first | exact List.Mem.head _ | apply List.Mem.tail)) ?_)) ?_
          rintro _ _ _ ⟨rfl, rfl, rfl⟩
          exact fin ⟨rfl, rfl, rfl⟩ (Seals.trans (Seals.drop 0 _ _) (Seals.trans (Seals.drop 0 _ _) (Seals.nil _ _)))
      · refine call_fn cg (Seals.refl _ _) (by repeat (first | exact Sub.nil _ | refine Sub.cons (by repeat (first | exact List.Mem.head _ | apply List.Mem.tail)) ?_)) ?_
        rintro y4 _ _ ⟨rfl, G, dG, hd, hG, rfl⟩
        have hG : ¬ 2 ≤ dG := fun h => hs (Int.sign_eq_zero_iff_zero.2 (hG.2 h))
        refine call_fn (hd y4) (Seals.refl _ _) (by repeat (first | exact Sub.nil _ | refine Sub.cons (by repeat (first | exact List.Mem.head _ | apply List.Mem.tail)) ?_)) ?_
        rintro _ _ _ ⟨rfl, rfl, rfl⟩
        refine cmp_false rfl (by omega) ?_
        refine bne_split (fun h => absurd rfl h) (fun _ => ?_)
        refine draw_rule [0, 1, 2, 3, 4, 5, 7, 9, 10, 11, 6, 8, 12, 13, 14, 15, 16] [0, 1, 2, 3, 4, 5, 6, 7, 8, 9, 10, 11, 12, 13, 14, 15, 16] (by kernel_rfl) (by kernel_rfl) ?_
        refine call_fn (d3) (Seals.refl _ _) (by repeat (first | exact Sub.nil _ | refine Sub.cons (by repeat (first | exact List.Mem.head _ | apply List.Mem.tail)) ?_)) ?_
        rintro _ _ _ ⟨rfl, rfl, rfl⟩
        refine cmp_split _ rfl (fun hr0 => ?_) (fun hr0 => ?_)
        · have e3 := hW (by omega)
          refine load_box (d := zd X) 1 rfl h1 rfl (load_I _ _) fun y5 => ?_
          refine call_fn (cm) (Seals.refl _ _) (by repeat (first | exact Sub.nil _ | refine Sub.cons (by repeat (first | exact List.Mem.head _ | apply List.Mem.tail)) ?_)) ?_
          rintro y6 _ _ ⟨rfl, rfl⟩
          refine call_fn (c3 y6) (Seals.refl _ _) (by repeat (first | exact Sub.nil _ | refine Sub.cons (by repeat (first | exact List.Mem.head _ | apply List.Mem.tail)) ?_)) ?_
          rintro y7 _ _ ⟨rfl, rfl⟩
          refine call_fn (c4) (Seals.refl _ _) (by repeat (first | exact Sub.nil _ | refine Sub.cons (by repeat (first | exact List.Mem.head _ | apply List.Mem.tail)) ?_)) ?_
          rintro y8 _ _ ⟨rfl, rfl⟩
          refine call_fn (rMulZZm y5 y8 X R 17 s1 s3 (by decide)) (Seals.refl _ _) (by repeat (first | exact Sub.nil _ | refine Sub.cons (by repeat (first | exact List.Mem.head _ | apply List.Mem.tail)) ?_)) ?_
          rintro y9 _ _ ⟨rfl, rfl⟩
          refine call_fn (exactE y7 y9 _ _ e3) (Seals.refl _ _) (by repeat (first | exact Sub.nil _ | refine Sub.cons (by repeat (first | exact List.Mem.head _ | apply List.Mem.tail)) ?_)) ?_
          rintro _ _ _ ⟨rfl, rfl, rfl⟩
          refine load_fact (d := J a) (by repeat (first | exact List.Mem.head _ | apply List.Mem.tail)) (load_J _) fun y10 => ?_
          refine call_fn (rNegJm y10 a ha (by omega)) (Seals.refl _ _) (by repeat (first | exact Sub.nil _ | refine Sub.cons (by repeat (first | exact List.Mem.head _ | apply List.Mem.tail)) ?_)) ?_
          rintro y11 _ _ ⟨rfl, rfl⟩
          refine call_fn (rOf_meets 1 (by decide) (by decide)) (Seals.refl _ _) (by repeat (first | exact Sub.nil _ | refine Sub.cons (by repeat (first | exact List.Mem.head _ | apply List.Mem.tail)) ?_)) ?_
          rintro y12 _ _ ⟨rfl, rfl⟩
          refine lit2_L (size := 2) (f := J) (z := z0) (e := 28) (cn (- jv a)) (cn 1) (by decide) (Reads.fact (by repeat (first | exact List.Mem.head _ | apply List.Mem.tail))) (Reads.fact (by repeat (first | exact List.Mem.head _ | apply List.Mem.tail))) rfl rfl fun y13 => ?_
          refine draw_rule [0, 1, 2, 3, 5, 6, 4, 7, 8, 9, 10] [0, 1, 2, 3, 4, 5, 6, 7, 8, 9, 10] (by kernel_rfl) (by kernel_rfl) ?_
          refine load_fact (d := J a) (by repeat (first | exact List.Mem.head _ | apply List.Mem.tail)) (load_J _) fun y14 => ?_
          refine call_fn (c5 y13) (Seals.refl _ _) (by repeat (first | exact Sub.nil _ | refine Sub.cons (by repeat (first | exact List.Mem.head _ | apply List.Mem.tail)) ?_)) ?_
          rintro y15 _ _ ⟨rfl, rfl⟩
          refine call_fn (c6 y14) (Seals.refl _ _) (by repeat (first | exact Sub.nil _ | refine Sub.cons (by repeat (first | exact List.Mem.head _ | apply List.Mem.tail)) ?_)) ?_
          rintro y16 _ _ ⟨rfl, rfl⟩
          refine call_fn (exactE y15 y16 Z Z rfl) (Seals.refl _ _) (by repeat (first | exact Sub.nil _ | refine Sub.cons (by repeat (first | exact List.Mem.head _ | apply List.Mem.tail)) ?_)) ?_
          rintro _ _ _ ⟨rfl, rfl, rfl⟩
          exact fin ⟨rfl, rfl, rfl⟩ (Seals.trans (Seals.drop 0 _ _) (Seals.trans (Seals.drop 0 _ _) (Seals.nil _ _)))
        ·
          refine load_fact (d := J a) (by repeat (first | exact List.Mem.head _ | apply List.Mem.tail)) (load_J _) fun y10 => ?_
          refine call_fn (rNegJm y10 a ha (by omega)) (Seals.refl _ _) (by repeat (first | exact Sub.nil _ | refine Sub.cons (by repeat (first | exact List.Mem.head _ | apply List.Mem.tail)) ?_)) ?_
          rintro y11 _ _ ⟨rfl, rfl⟩
          refine call_fn (rOf_meets 1 (by decide) (by decide)) (Seals.refl _ _) (by repeat (first | exact Sub.nil _ | refine Sub.cons (by repeat (first | exact List.Mem.head _ | apply List.Mem.tail)) ?_)) ?_
          rintro y12 _ _ ⟨rfl, rfl⟩
          refine lit2_L (size := 2) (f := J) (z := z0) (e := 28) (cn (- jv a)) (cn 1) (by decide) (Reads.fact (by repeat (first | exact List.Mem.head _ | apply List.Mem.tail))) (Reads.fact (by repeat (first | exact List.Mem.head _ | apply List.Mem.tail))) rfl rfl fun y13 => ?_
          refine draw_rule [0, 1, 2, 3, 5, 6, 4, 7, 8, 9, 10] [0, 1, 2, 3, 4, 5, 6, 7, 8, 9, 10] (by kernel_rfl) (by kernel_rfl) ?_
          refine load_fact (d := J a) (by repeat (first | exact List.Mem.head _ | apply List.Mem.tail)) (load_J _) fun y14 => ?_
          refine call_fn (c5 y13) (Seals.refl _ _) (by repeat (first | exact Sub.nil _ | refine Sub.cons (by repeat (first | exact List.Mem.head _ | apply List.Mem.tail)) ?_)) ?_
          rintro y15 _ _ ⟨rfl, rfl⟩
          refine call_fn (c6 y14) (Seals.refl _ _) (by repeat (first | exact Sub.nil _ | refine Sub.cons (by repeat (first | exact List.Mem.head _ | apply List.Mem.tail)) ?_)) ?_
          rintro y16 _ _ ⟨rfl, rfl⟩
          refine call_fn (exactE y15 y16 Z Z rfl) (Seals.refl _ _) (by repeat (first | exact Sub.nil _ | refine Sub.cons (by repeat (first | exact List.Mem.head _ | apply List.Mem.tail)) ?_)) ?_
          rintro _ _ _ ⟨rfl, rfl, rfl⟩
          exact fin ⟨rfl, rfl, rfl⟩ (Seals.trans (Seals.drop 0 _ _) (Seals.trans (Seals.drop 0 _ _) (Seals.nil _ _)))
  · rw [if_neg (by omega)] at ht
    subst Y
    refine load_box (d := zd X) 1 rfl h1 rfl (load_I _ _) fun y1 => ?_
    refine load_box (d := zd X) 0 rfl h2 rfl (load_I _ _) fun y2 => ?_
    refine call_fn (exactE y1 y2 X X rfl) (Seals.refl _ _) (by repeat (first | exact Sub.nil _ | refine Sub.cons (by repeat (first | exact List.Mem.head _ | apply List.Mem.tail)) ?_)) ?_
    rintro _ _ _ ⟨rfl, rfl, rfl⟩
    refine load_box (d := zd X) 1 rfl h1 rfl (load_I _ _) fun y3 => ?_
    refine call_fn (rSignZ y3 X 17 s1 (by decide)) (Seals.refl _ _) (by repeat (first | exact Sub.nil _ | refine Sub.cons (by repeat (first | exact List.Mem.head _ | apply List.Mem.tail)) ?_)) ?_
    rintro _ _ _ ⟨rfl, rfl, rfl⟩
    refine cmp_split _ rfl (fun hs => ?_) (fun hs => ?_)
    · refine call_fn cg (Seals.refl _ _) (by repeat (first | exact Sub.nil _ | refine Sub.cons (by repeat (first | exact List.Mem.head _ | apply List.Mem.tail)) ?_)) ?_
      rintro y4 _ _ ⟨rfl, G, dG, hd, hG, rfl⟩
      have hG := hG.1 (Int.sign_eq_zero_iff_zero.1 hs)
      refine call_fn (hd y4) (Seals.refl _ _) (by repeat (first | exact Sub.nil _ | refine Sub.cons (by repeat (first | exact List.Mem.head _ | apply List.Mem.tail)) ?_)) ?_
      rintro _ _ _ ⟨rfl, rfl, rfl⟩
      refine cmp_true rfl (by omega) ?_
      refine bne_split (fun h => absurd rfl h) (fun _ => ?_)
      refine draw_rule [0, 1, 2, 3, 4, 5, 7, 9, 10, 11, 6, 8, 12, 13, 14, 15, 16] [0, 1, 2, 3, 4, 5, 6, 7, 8, 9, 10, 11, 12, 13, 14, 15, 16] (by kernel_rfl) (by kernel_rfl) ?_
      refine call_fn (d3) (Seals.refl _ _) (by repeat (first | exact Sub.nil _ | refine Sub.cons (by repeat (first | exact List.Mem.head _ | apply List.Mem.tail)) ?_)) ?_
      rintro _ _ _ ⟨rfl, rfl, rfl⟩
      refine cmp_split _ rfl (fun hr0 => ?_) (fun hr0 => ?_)
      · have e3 := hW (by omega)
        refine load_box (d := zd X) 1 rfl h1 rfl (load_I _ _) fun y5 => ?_
        refine call_fn (cm) (Seals.refl _ _) (by repeat (first | exact Sub.nil _ | refine Sub.cons (by repeat (first | exact List.Mem.head _ | apply List.Mem.tail)) ?_)) ?_
        rintro y6 _ _ ⟨rfl, rfl⟩
        refine call_fn (c3 y6) (Seals.refl _ _) (by repeat (first | exact Sub.nil _ | refine Sub.cons (by repeat (first | exact List.Mem.head _ | apply List.Mem.tail)) ?_)) ?_
        rintro y7 _ _ ⟨rfl, rfl⟩
        refine call_fn (c4) (Seals.refl _ _) (by repeat (first | exact Sub.nil _ | refine Sub.cons (by repeat (first | exact List.Mem.head _ | apply List.Mem.tail)) ?_)) ?_
        rintro y8 _ _ ⟨rfl, rfl⟩
        refine call_fn (rMulZZm y5 y8 X R 17 s1 s3 (by decide)) (Seals.refl _ _) (by repeat (first | exact Sub.nil _ | refine Sub.cons (by repeat (first | exact List.Mem.head _ | apply List.Mem.tail)) ?_)) ?_
        rintro y9 _ _ ⟨rfl, rfl⟩
        refine call_fn (exactE y7 y9 _ _ e3) (Seals.refl _ _) (by repeat (first | exact Sub.nil _ | refine Sub.cons (by repeat (first | exact List.Mem.head _ | apply List.Mem.tail)) ?_)) ?_
        rintro _ _ _ ⟨rfl, rfl, rfl⟩
        refine load_fact (d := J a) (by repeat (first | exact List.Mem.head _ | apply List.Mem.tail)) (load_J _) fun y10 => ?_
        refine call_fn (rNegJm y10 a ha (by omega)) (Seals.refl _ _) (by repeat (first | exact Sub.nil _ | refine Sub.cons (by repeat (first | exact List.Mem.head _ | apply List.Mem.tail)) ?_)) ?_
        rintro y11 _ _ ⟨rfl, rfl⟩
        refine call_fn (rOf_meets 1 (by decide) (by decide)) (Seals.refl _ _) (by repeat (first | exact Sub.nil _ | refine Sub.cons (by repeat (first | exact List.Mem.head _ | apply List.Mem.tail)) ?_)) ?_
        rintro y12 _ _ ⟨rfl, rfl⟩
        refine lit2_L (size := 2) (f := J) (z := z0) (e := 28) (cn (- jv a)) (cn 1) (by decide) (Reads.fact (by repeat (first | exact List.Mem.head _ | apply List.Mem.tail))) (Reads.fact (by repeat (first | exact List.Mem.head _ | apply List.Mem.tail))) rfl rfl fun y13 => ?_
        refine draw_rule [0, 1, 2, 3, 5, 6, 4, 7, 8, 9, 10] [0, 1, 2, 3, 4, 5, 6, 7, 8, 9, 10] (by kernel_rfl) (by kernel_rfl) ?_
        refine load_fact (d := J a) (by repeat (first | exact List.Mem.head _ | apply List.Mem.tail)) (load_J _) fun y14 => ?_
        refine call_fn (c5 y13) (Seals.refl _ _) (by repeat (first | exact Sub.nil _ | refine Sub.cons (by repeat (first | exact List.Mem.head _ | apply List.Mem.tail)) ?_)) ?_
        rintro y15 _ _ ⟨rfl, rfl⟩
        refine call_fn (c6 y14) (Seals.refl _ _) (by repeat (first | exact Sub.nil _ | refine Sub.cons (by repeat (first | exact List.Mem.head _ | apply List.Mem.tail)) ?_)) ?_
        rintro y16 _ _ ⟨rfl, rfl⟩
        refine call_fn (exactE y15 y16 Z Z rfl) (Seals.refl _ _) (by repeat (first | exact Sub.nil _ | refine Sub.cons (by repeat (first | exact List.Mem.head _ | apply List.Mem.tail)) ?_)) ?_
        rintro _ _ _ ⟨rfl, rfl, rfl⟩
        exact fin ⟨rfl, rfl, rfl⟩ (Seals.trans (Seals.drop 0 _ _) (Seals.trans (Seals.drop 0 _ _) (Seals.nil _ _)))
      ·
        refine load_fact (d := J a) (by repeat (first | exact List.Mem.head _ | apply List.Mem.tail)) (load_J _) fun y10 => ?_
        refine call_fn (rNegJm y10 a ha (by omega)) (Seals.refl _ _) (by repeat (first | exact Sub.nil _ | refine Sub.cons (by repeat (first | exact List.Mem.head _ | apply List.Mem.tail)) ?_)) ?_
        rintro y11 _ _ ⟨rfl, rfl⟩
        refine call_fn (rOf_meets 1 (by decide) (by decide)) (Seals.refl _ _) (by repeat (first | exact Sub.nil _ | refine Sub.cons (by repeat (first | exact List.Mem.head _ | apply List.Mem.tail)) ?_)) ?_
        rintro y12 _ _ ⟨rfl, rfl⟩
        refine lit2_L (size := 2) (f := J) (z := z0) (e := 28) (cn (- jv a)) (cn 1) (by decide) (Reads.fact (by repeat (first | exact List.Mem.head _ | apply List.Mem.tail))) (Reads.fact (by repeat (first | exact List.Mem.head _ | apply List.Mem.tail))) rfl rfl fun y13 => ?_
        refine draw_rule [0, 1, 2, 3, 5, 6, 4, 7, 8, 9, 10] [0, 1, 2, 3, 4, 5, 6, 7, 8, 9, 10] (by kernel_rfl) (by kernel_rfl) ?_
        refine load_fact (d := J a) (by repeat (first | exact List.Mem.head _ | apply List.Mem.tail)) (load_J _) fun y14 => ?_
        refine call_fn (c5 y13) (Seals.refl _ _) (by repeat (first | exact Sub.nil _ | refine Sub.cons (by repeat (first | exact List.Mem.head _ | apply List.Mem.tail)) ?_)) ?_
        rintro y15 _ _ ⟨rfl, rfl⟩
        refine call_fn (c6 y14) (Seals.refl _ _) (by repeat (first | exact Sub.nil _ | refine Sub.cons (by repeat (first | exact List.Mem.head _ | apply List.Mem.tail)) ?_)) ?_
        rintro y16 _ _ ⟨rfl, rfl⟩
        refine call_fn (exactE y15 y16 Z Z rfl) (Seals.refl _ _) (by repeat (first | exact Sub.nil _ | refine Sub.cons (by repeat (first | exact List.Mem.head _ | apply List.Mem.tail)) ?_)) ?_
        rintro _ _ _ ⟨rfl, rfl, rfl⟩
        exact fin ⟨rfl, rfl, rfl⟩ (Seals.trans (Seals.drop 0 _ _) (Seals.trans (Seals.drop 0 _ _) (Seals.nil _ _)))
    · refine call_fn cg (Seals.refl _ _) (by repeat (first | exact Sub.nil _ | refine Sub.cons (by repeat (first | exact List.Mem.head _ | apply List.Mem.tail)) ?_)) ?_
      rintro y4 _ _ ⟨rfl, G, dG, hd, hG, rfl⟩
      have hG : ¬ 2 ≤ dG := fun h => hs (Int.sign_eq_zero_iff_zero.2 (hG.2 h))
      refine call_fn (hd y4) (Seals.refl _ _) (by repeat (first | exact Sub.nil _ | refine Sub.cons (by repeat (first | exact List.Mem.head _ | apply List.Mem.tail)) ?_)) ?_
      rintro _ _ _ ⟨rfl, rfl, rfl⟩
      refine cmp_false rfl (by omega) ?_
      refine bne_split (fun h => absurd rfl h) (fun _ => ?_)
      refine draw_rule [0, 1, 2, 3, 4, 5, 7, 9, 10, 11, 6, 8, 12, 13, 14, 15, 16] [0, 1, 2, 3, 4, 5, 6, 7, 8, 9, 10, 11, 12, 13, 14, 15, 16] (by kernel_rfl) (by kernel_rfl) ?_
      refine call_fn (d3) (Seals.refl _ _) (by repeat (first | exact Sub.nil _ | refine Sub.cons (by repeat (first | exact List.Mem.head _ | apply List.Mem.tail)) ?_)) ?_
      rintro _ _ _ ⟨rfl, rfl, rfl⟩
      refine cmp_split _ rfl (fun hr0 => ?_) (fun hr0 => ?_)
      · have e3 := hW (by omega)
        refine load_box (d := zd X) 1 rfl h1 rfl (load_I _ _) fun y5 => ?_
        refine call_fn (cm) (Seals.refl _ _) (by repeat (first | exact Sub.nil _ | refine Sub.cons (by repeat (first | exact List.Mem.head _ | apply List.Mem.tail)) ?_)) ?_
        rintro y6 _ _ ⟨rfl, rfl⟩
        refine call_fn (c3 y6) (Seals.refl _ _) (by repeat (first | exact Sub.nil _ | refine Sub.cons (by repeat (first | exact List.Mem.head _ | apply List.Mem.tail)) ?_)) ?_
        rintro y7 _ _ ⟨rfl, rfl⟩
        refine call_fn (c4) (Seals.refl _ _) (by repeat (first | exact Sub.nil _ | refine Sub.cons (by repeat (first | exact List.Mem.head _ | apply List.Mem.tail)) ?_)) ?_
        rintro y8 _ _ ⟨rfl, rfl⟩
        refine call_fn (rMulZZm y5 y8 X R 17 s1 s3 (by decide)) (Seals.refl _ _) (by repeat (first | exact Sub.nil _ | refine Sub.cons (by repeat (first | exact List.Mem.head _ | apply List.Mem.tail)) ?_)) ?_
        rintro y9 _ _ ⟨rfl, rfl⟩
        refine call_fn (exactE y7 y9 _ _ e3) (Seals.refl _ _) (by repeat (first | exact Sub.nil _ | refine Sub.cons (by repeat (first | exact List.Mem.head _ | apply List.Mem.tail)) ?_)) ?_
        rintro _ _ _ ⟨rfl, rfl, rfl⟩
        refine load_fact (d := J a) (by repeat (first | exact List.Mem.head _ | apply List.Mem.tail)) (load_J _) fun y10 => ?_
        refine call_fn (rNegJm y10 a ha (by omega)) (Seals.refl _ _) (by repeat (first | exact Sub.nil _ | refine Sub.cons (by repeat (first | exact List.Mem.head _ | apply List.Mem.tail)) ?_)) ?_
        rintro y11 _ _ ⟨rfl, rfl⟩
        refine call_fn (rOf_meets 1 (by decide) (by decide)) (Seals.refl _ _) (by repeat (first | exact Sub.nil _ | refine Sub.cons (by repeat (first | exact List.Mem.head _ | apply List.Mem.tail)) ?_)) ?_
        rintro y12 _ _ ⟨rfl, rfl⟩
        refine lit2_L (size := 2) (f := J) (z := z0) (e := 28) (cn (- jv a)) (cn 1) (by decide) (Reads.fact (by repeat (first | exact List.Mem.head _ | apply List.Mem.tail))) (Reads.fact (by repeat (first | exact List.Mem.head _ | apply List.Mem.tail))) rfl rfl fun y13 => ?_
        refine draw_rule [0, 1, 2, 3, 5, 6, 4, 7, 8, 9, 10] [0, 1, 2, 3, 4, 5, 6, 7, 8, 9, 10] (by kernel_rfl) (by kernel_rfl) ?_
        refine load_fact (d := J a) (by repeat (first | exact List.Mem.head _ | apply List.Mem.tail)) (load_J _) fun y14 => ?_
        refine call_fn (c5 y13) (Seals.refl _ _) (by repeat (first | exact Sub.nil _ | refine Sub.cons (by repeat (first | exact List.Mem.head _ | apply List.Mem.tail)) ?_)) ?_
        rintro y15 _ _ ⟨rfl, rfl⟩
        refine call_fn (c6 y14) (Seals.refl _ _) (by repeat (first | exact Sub.nil _ | refine Sub.cons (by repeat (first | exact List.Mem.head _ | apply List.Mem.tail)) ?_)) ?_
        rintro y16 _ _ ⟨rfl, rfl⟩
        refine call_fn (exactE y15 y16 Z Z rfl) (Seals.refl _ _) (by repeat (first | exact Sub.nil _ | refine Sub.cons (by repeat (first | exact List.Mem.head _ | apply List.Mem.tail)) ?_)) ?_
        rintro _ _ _ ⟨rfl, rfl, rfl⟩
        exact fin ⟨rfl, rfl, rfl⟩ (Seals.trans (Seals.drop 0 _ _) (Seals.trans (Seals.drop 0 _ _) (Seals.nil _ _)))
      ·
        refine load_fact (d := J a) (by repeat (first | exact List.Mem.head _ | apply List.Mem.tail)) (load_J _) fun y10 => ?_
        refine call_fn (rNegJm y10 a ha (by omega)) (Seals.refl _ _) (by repeat (first | exact Sub.nil _ | refine Sub.cons (by repeat (first | exact List.Mem.head _ | apply List.Mem.tail)) ?_)) ?_
        rintro y11 _ _ ⟨rfl, rfl⟩
        refine call_fn (rOf_meets 1 (by decide) (by decide)) (Seals.refl _ _) (by repeat (first | exact Sub.nil _ | refine Sub.cons (by repeat (first | exact List.Mem.head _ | apply List.Mem.tail)) ?_)) ?_
        rintro y12 _ _ ⟨rfl, rfl⟩
        refine lit2_L (size := 2) (f := J) (z := z0) (e := 28) (cn (- jv a)) (cn 1) (by decide) (Reads.fact (by repeat (first | exact List.Mem.head _ | apply List.Mem.tail))) (Reads.fact (by repeat (first | exact List.Mem.head _ | apply List.Mem.tail))) rfl rfl fun y13 => ?_
        refine draw_rule [0, 1, 2, 3, 5, 6, 4, 7, 8, 9, 10] [0, 1, 2, 3, 4, 5, 6, 7, 8, 9, 10] (by kernel_rfl) (by kernel_rfl) ?_
        refine load_fact (d := J a) (by repeat (first | exact List.Mem.head _ | apply List.Mem.tail)) (load_J _) fun y14 => ?_
        refine call_fn (c5 y13) (Seals.refl _ _) (by repeat (first | exact Sub.nil _ | refine Sub.cons (by repeat (first | exact List.Mem.head _ | apply List.Mem.tail)) ?_)) ?_
        rintro y15 _ _ ⟨rfl, rfl⟩
        refine call_fn (c6 y14) (Seals.refl _ _) (by repeat (first | exact Sub.nil _ | refine Sub.cons (by repeat (first | exact List.Mem.head _ | apply List.Mem.tail)) ?_)) ?_
        rintro y16 _ _ ⟨rfl, rfl⟩
        refine call_fn (exactE y15 y16 Z Z rfl) (Seals.refl _ _) (by repeat (first | exact Sub.nil _ | refine Sub.cons (by repeat (first | exact List.Mem.head _ | apply List.Mem.tail)) ?_)) ?_
        rintro _ _ _ ⟨rfl, rfl, rfl⟩
        exact fin ⟨rfl, rfl, rfl⟩ (Seals.trans (Seals.drop 0 _ _) (Seals.trans (Seals.drop 0 _ _) (Seals.nil _ _)))
theorem matrixResultants_meets (u v w z : Value) (p q r : Row) (a : Bool × List Nat) (hp : limR p) (hq : limR q) (hr : limR r) (ha : Lim a.2) :
    Meets Try.prog 12 [u, v, w, z] [(u, V p), (v, V q), (w, V r), (z, J a)] (fun r os fs => os = [] ∧ fs = [] ∧ r = .bool true) := by
  by_cases sp : smallR 4 1 p
  case neg =>
    refine meets_of_vc Try.func12 (by kernel_rfl) rfl (by kernel_rfl) (Nat.le_of_ble_eq_true rfl) ?_
    refine box_fact (Reads.fact (d := J a) (by repeat (first | exact List.Mem.head _ | apply List.Mem.tail))) fun pa => ?_
    refine call_fn shown_meets (Seals.refl _ _) (by repeat (first | exact Sub.nil _ | refine Sub.cons (by repeat (first | exact List.Mem.head _ | apply List.Mem.tail)) ?_)) ?_
    rintro _ _ _ ⟨rfl, rfl, rfl⟩
    refine call_fn (rFitsN u p 4 1 sp) (Seals.refl _ _) (by repeat (first | exact Sub.nil _ | refine Sub.cons (by repeat (first | exact List.Mem.head _ | apply List.Mem.tail)) ?_)) ?_
    rintro _ _ _ ⟨rfl, rfl, rfl⟩
    exact fin ⟨rfl, rfl, rfl⟩ (Seals.nil _ _)
  by_cases sq : smallR 4 1 q
  case neg =>
    refine meets_of_vc Try.func12 (by kernel_rfl) rfl (by kernel_rfl) (Nat.le_of_ble_eq_true rfl) ?_
    refine box_fact (Reads.fact (d := J a) (by repeat (first | exact List.Mem.head _ | apply List.Mem.tail))) fun pa => ?_
    refine call_fn shown_meets (Seals.refl _ _) (by repeat (first | exact Sub.nil _ | refine Sub.cons (by repeat (first | exact List.Mem.head _ | apply List.Mem.tail)) ?_)) ?_
    rintro _ _ _ ⟨rfl, rfl, rfl⟩
    refine call_fn (rFitsY u p 4 1 sp) (Seals.refl _ _) (by repeat (first | exact Sub.nil _ | refine Sub.cons (by repeat (first | exact List.Mem.head _ | apply List.Mem.tail)) ?_)) ?_
    rintro _ _ _ ⟨rfl, rfl, rfl⟩
    refine call_fn (rFitsN v q 4 1 sq) (Seals.refl _ _) (by repeat (first | exact Sub.nil _ | refine Sub.cons (by repeat (first | exact List.Mem.head _ | apply List.Mem.tail)) ?_)) ?_
    rintro _ _ _ ⟨rfl, rfl, rfl⟩
    exact fin ⟨rfl, rfl, rfl⟩ (Seals.nil _ _)
  by_cases sr : smallR 4 1 r
  case neg =>
    refine meets_of_vc Try.func12 (by kernel_rfl) rfl (by kernel_rfl) (Nat.le_of_ble_eq_true rfl) ?_
    refine box_fact (Reads.fact (d := J a) (by repeat (first | exact List.Mem.head _ | apply List.Mem.tail))) fun pa => ?_
    refine call_fn shown_meets (Seals.refl _ _) (by repeat (first | exact Sub.nil _ | refine Sub.cons (by repeat (first | exact List.Mem.head _ | apply List.Mem.tail)) ?_)) ?_
    rintro _ _ _ ⟨rfl, rfl, rfl⟩
    refine call_fn (rFitsY u p 4 1 sp) (Seals.refl _ _) (by repeat (first | exact Sub.nil _ | refine Sub.cons (by repeat (first | exact List.Mem.head _ | apply List.Mem.tail)) ?_)) ?_
    rintro _ _ _ ⟨rfl, rfl, rfl⟩
    refine call_fn (rFitsY v q 4 1 sq) (Seals.refl _ _) (by repeat (first | exact Sub.nil _ | refine Sub.cons (by repeat (first | exact List.Mem.head _ | apply List.Mem.tail)) ?_)) ?_
    rintro _ _ _ ⟨rfl, rfl, rfl⟩
    refine call_fn (rFitsN w r 4 1 sr) (Seals.refl _ _) (by repeat (first | exact Sub.nil _ | refine Sub.cons (by repeat (first | exact List.Mem.head _ | apply List.Mem.tail)) ?_)) ?_
    rintro _ _ _ ⟨rfl, rfl, rfl⟩
    exact fin ⟨rfl, rfl, rfl⟩ (Seals.nil _ _)
  by_cases hal : a.2.length ≤ 1
  case neg =>
    refine meets_of_vc Try.func12 (by kernel_rfl) rfl (by kernel_rfl) (Nat.le_of_ble_eq_true rfl) ?_
    refine box_fact (Reads.fact (d := J a) (by repeat (first | exact List.Mem.head _ | apply List.Mem.tail))) fun pa => ?_
    refine call_fn shown_meets (Seals.refl _ _) (by repeat (first | exact Sub.nil _ | refine Sub.cons (by repeat (first | exact List.Mem.head _ | apply List.Mem.tail)) ?_)) ?_
    rintro _ _ _ ⟨rfl, rfl, rfl⟩
    refine call_fn (rFitsY u p 4 1 sp) (Seals.refl _ _) (by repeat (first | exact Sub.nil _ | refine Sub.cons (by repeat (first | exact List.Mem.head _ | apply List.Mem.tail)) ?_)) ?_
    rintro _ _ _ ⟨rfl, rfl, rfl⟩
    refine call_fn (rFitsY v q 4 1 sq) (Seals.refl _ _) (by repeat (first | exact Sub.nil _ | refine Sub.cons (by repeat (first | exact List.Mem.head _ | apply List.Mem.tail)) ?_)) ?_
    rintro _ _ _ ⟨rfl, rfl, rfl⟩
    refine call_fn (rFitsY w r 4 1 sr) (Seals.refl _ _) (by repeat (first | exact Sub.nil _ | refine Sub.cons (by repeat (first | exact List.Mem.head _ | apply List.Mem.tail)) ?_)) ?_
    rintro _ _ _ ⟨rfl, rfl, rfl⟩
    refine field_fact (off := 1) (d := J a) (d' := U a.2) (by repeat (first | exact List.Mem.head _ | apply List.Mem.tail)) (Part.right (Part.refl _)) fun _ => ?_
    refine load_fact (d := U a.2) (by repeat (first | exact List.Mem.head _ | apply List.Mem.tail)) (load_L _) fun _ => ?_
    refine len_fact (by repeat (first | exact List.Mem.head _ | apply List.Mem.tail)) fun _ => ?_
    refine cmp_true rfl (by omega) ?_
    exact fin ⟨rfl, rfl, rfl⟩ (Seals.nil _ _)
  have fp := sp.fit hp
  have fq := sq.fit hq
  have fr := sr.fit hr
  have lp := sp.1
  have lq := sq.1
  have lr := sr.1
  have L := resLaw (vv p) (vv q) (vv r) (jv a)
  have hja : sz (jv a) 1 := sz_jv ha hal
  have gp : dg (vv p) ≤ 4 := Nat.le_trans (dg_le_len _) (by rw [vv_len]; exact lp)
  have gq : dg (vv q) ≤ 4 := Nat.le_trans (dg_le_len _) (by rw [vv_len]; exact lq)
  have gr : dg (vv r) ≤ 4 := Nat.le_trans (dg_le_len _) (by rw [vv_len]; exact lr)
  have s1 : sz (mres (vv p) (vv q)) 17 := (mres_sz (k := 1) (a := 4) (b := 4) fp.szR fq.szR gp gq (by decide)).mono (by decide)
  have s2 : sz (mres (vv q) (vv p)) 17 := (mres_sz (k := 1) (a := 4) (b := 4) fq.szR fp.szR gq gp (by decide)).mono (by decide)
  have s3 : sz (mres (vv r) (vv q)) 17 := (mres_sz (k := 1) (a := 4) (b := 4) fr.szR fq.szR gr gq (by decide)).mono (by decide)
  have c1 := mResultant_meets u v p q 1 fp fq (by omega) (by omega) (Nat.le_trans (Eb_mono 1 (show p.length + q.length ≤ 8 by omega)) (by decide))
  have c2 := mResultant_meets v u q p 1 fq fp (by omega) (by omega) (Nat.le_trans (Eb_mono 1 (show q.length + p.length ≤ 8 by omega)) (by decide))
  have d1 := pDegreeN u p (fp.mono (by decide))
  have d2 := pDegreeN v q (fq.mono (by decide))
  have d3 := pDegreeN w r (fr.mono (by decide))
  have cg := pGcd_meets u v p q 1 4 fp fq (by decide) lp lq (by decide) (by decide)
  have cm := pMul_meets u w p r 1 1 fp fr (by decide) (by omega) (by omega)
  have sm : szR 3 (pmul (vv p) (vv r)) := pmul_szM (k := 1) (j := 1) fp.szR fr.szR (by rw [vv_len]; omega)
  have lm : (pmul (vv p) (vv r)).length ≤ 8 := pmul_lenM (vv p) (vv r) (a := 4) (b := 4) (by rw [vv_len]; exact lp) (by rw [vv_len]; exact lr)
  have c3 := fun t => mResultant_meets t v ((pmul (vv p) (vv r)).map cn) q 3 sm.fit (fq.mono (by decide)) (by rw [List.length_map]; omega) (by omega) (Nat.le_trans (Eb_mono 3 (show ((pmul (vv p) (vv r)).map cn).length + q.length ≤ 12 by rw [List.length_map]; omega)) (by decide))
  simp only [vv_cn] at c3
  have c4 := mResultant_meets w v r q 1 fr fq (by omega) (by omega) (Nat.le_trans (Eb_mono 1 (show r.length + q.length ≤ 8 by omega)) (by decide))
  have sl : szR 1 [- jv a, 1] := fun x hx => by
    simp only [List.mem_cons, List.not_mem_nil, or_false] at hx
    rcases hx with rfl | rfl
    · exact hja.neg
    · exact sz_one 1 (by decide)
  have c5 := fun t => mResultant_meets t v ([- jv a, 1].map cn) q 1 sl.fit fq (by simp) (by omega) (Nat.le_trans (Eb_mono 1 (show ([- jv a, 1].map cn).length + q.length ≤ 6 by simp; omega)) (by decide))
  simp only [vv_cn] at c5
  have c6 := fun t => pValueJ v t q a 1 1 fq ha hal (by have : (q.length + 1) * 2 ≤ 5 * 2 := Nat.mul_le_mul_right _ (by omega); omega) (by omega)
  refine resultants_walk u v w z p q r a (mres (vv p) (vv q)) (mres (vv q) (vv p)) (pev (vv q) (jv a)) (mres (vv r) (vv q)) (mres (pmul (vv p) (vv r)) (vv q)) (dg (vv p)) (dg (vv q)) (dg (vv r)) (pmul (vv p) (vv r)) ha sp sq sr hal
    c1 c2 d1 d2 d3 (fun h => ⟨mres_zero h, mres_zero h.symm⟩) s1 s2 s3 L.turn (fun h1 h2 => ?_) cm c3 c4 L.mul (fun h t => ?_) c6
  · exact cg.mono fun r os fs ⟨g1, G, nG, gG, g2⟩ => ⟨g1, G, dg G, fun t => pDegreeT4 t G gG.1 h1 gp fp.szR nG, L.common G h1 h2 gG, g2⟩
  · rw [← L.line h]; exact c5 t
end Go.Proofs.Ytajkjlgddmkkaaa

namespace Go.Proofs.Ytajkjlgddmkkaaa
open Go.ChangeShapes Go.WideShapes Go.ChangeAt Go.RowKit
open Go.Joins (open_agg2)
set_option maxRecDepth 100000 in
theorem matrixResultants_lifted (os : Os) (started : os.Started) (H : Type) (enc : TypeId × Value → H) :
    ReturnsInHanded {} Try.checked os 12 .any (Rows.matrixResultantsSpec.pre6 enc Try.prog Try.f12 Rows.matrixResultantsRow.domain false) (Rows.matrixResultantsSpec.post enc Try.prog Try.f12 false true false false) := by
  refine returnsInHanded_of_change (C := Try.checked) own0 started (by kernel_rfl) Try.func12
    (ChangeSpec.witness6 (enc := enc) (C := Try.checked) false ⟨#[], #[.slice none 0 0, .slice none 0 0, .slice none 0 0, .agg #[.bool false, .slice none 0 0]], []⟩ 8 (by kernel_rfl) (by kernel_rfl) (by kernel_rfl) (by kernel_rfl)) ?_
  intro Wd base args ds gs before hval0 hW hcnd _
  have hval : ∀ (j : Nat) t v, Try.f12.params[j]? = some t → args[j]? = some v → Value.okWide Try.prog Wd .any base t v := hval0
  have hW' := hW
  obtain ⟨p, q, hA0, hV, rfl, hfz, hnd⟩ := hW
  have hA : DataW.TrodAll enc Try.prog Wd 0 (fun _ => true) true Try.f12.params.toList args.toList ds p := hA0
  rw [Try.params12] at hA hval
  obtain ⟨v0, vs0, d0, ds0, p0, q0, hargs, rfl, rfl, h0, r0⟩ := trodAll_cons hA
  obtain ⟨v1, vs1, d1, ds1, p1, q1, rfl, rfl, rfl, h1, r1⟩ := trodAll_cons r0
  obtain ⟨v2, vs2, d2, ds2, p2, q2, rfl, rfl, rfl, h2, r2⟩ := trodAll_cons r1
  obtain ⟨v3, vs3, d3, ds3, p3, q3, rfl, rfl, rfl, h3, r3⟩ := trodAll_cons r2
  obtain ⟨rfl, rfl, rfl⟩ := trodAll_nil r3
  obtain rfl : args = #[v0, v1, v2, v3] := by cases args; simp_all
  obtain ⟨rfl, rfl⟩ := trodVars_none hV
  obtain ⟨a0, n0, c0, rfl⟩ := okWide_slice Try.underlying46 (hval 0 46 v0 rfl rfl)
  have k0 := h0
  have lt0 : ∀ x ∈ p0, x.block < Wd.heap.size := by obtain ⟨m, hm⟩ := k0; exact DataW.trod_lt m _ _ _ hm
  obtain ⟨m0, lm0, rd0⟩ : ∃ m, limR m ∧ Rd (fun b => b < Wd.heap.size) Wd (.slice a0 n0 c0) (V m) := by
    obtain ⟨fuel, hf⟩ := h0
    obtain ⟨m, e1, e2⟩ := rd_poly hf
    exact ⟨m, e1, rd_val rfl e2⟩
  obtain ⟨a1, n1, c1, rfl⟩ := okWide_slice Try.underlying46 (hval 1 46 v1 rfl rfl)
  have k1 := h1
  have lt1 : ∀ x ∈ p1, x.block < Wd.heap.size := by obtain ⟨m, hm⟩ := k1; exact DataW.trod_lt m _ _ _ hm
  obtain ⟨m1, lm1, rd1⟩ : ∃ m, limR m ∧ Rd (fun b => b < Wd.heap.size) Wd (.slice a1 n1 c1) (V m) := by
    obtain ⟨fuel, hf⟩ := h1
    obtain ⟨m, e1, e2⟩ := rd_poly hf
    exact ⟨m, e1, rd_val rfl e2⟩
  obtain ⟨a2, n2, c2, rfl⟩ := okWide_slice Try.underlying46 (hval 2 46 v2 rfl rfl)
  have k2 := h2
  have lt2 : ∀ x ∈ p2, x.block < Wd.heap.size := by obtain ⟨m, hm⟩ := k2; exact DataW.trod_lt m _ _ _ hm
  obtain ⟨m2, lm2, rd2⟩ : ∃ m, limR m ∧ Rd (fun b => b < Wd.heap.size) Wd (.slice a2 n2 c2) (V m) := by
    obtain ⟨fuel, hf⟩ := h2
    obtain ⟨m, e1, e2⟩ := rd_poly hf
    exact ⟨m, e1, rd_val rfl e2⟩
  have k3 := h3
  have lt3 : ∀ x ∈ p3, x.block < Wd.heap.size := by obtain ⟨m, hm⟩ := k3; exact DataW.trod_lt m _ _ _ hm
  obtain ⟨m3, lm3, rd3⟩ : ∃ m : Bool × List Nat, Lim m.2 ∧ Rd (fun b => b < Wd.heap.size) Wd v3 (J m) := rd_arg (hval 3 28 v3 rfl rfl) h3
  clear hA0 hval0
  refine (calls_of_meets (w := Wd) (matrixResultants_meets (.slice a0 n0 c0) (.slice a1 n1 c1) (.slice a2 n2 c2) v3 m0 m1 m2 m3 lm0 lm1 lm2 lm3) ?_).mono fun e W2 ⟨he, bel⟩ => ?_
  · intro F hF
    simp only [List.mem_cons, List.not_mem_nil, or_false] at hF
    rcases hF with rfl | rfl | rfl | rfl
    · exact rd0
    · exact rd1
    · exact rd2
    · exact rd3
  subst he
  exact ⟨_, rfl, _, _, _, [], _, [], hW', trodAll_mk1 (shut_bool Try.underlying4 _), (trodAll_cons_mk (Below.trod laid0 (by kernel_rfl) (of_decide_eq_true (by kernel_rfl)) k0 bel lt0) (trodAll_cons_mk (Below.trod laid0 (by kernel_rfl) (of_decide_eq_true (by kernel_rfl)) k1 bel lt1) (trodAll_cons_mk (Below.trod laid0 (by kernel_rfl) (of_decide_eq_true (by kernel_rfl)) k2 bel lt2) (trodAll_cons_mk (Below.trod laid0 (by kernel_rfl) (of_decide_eq_true (by kernel_rfl)) k3 bel lt3) trodAll_mk0)))), rfl, bel.frame _, fun h => by cases h⟩
theorem matrixResultants_holds : Rows.MatrixResultantsSaid :=
  OpenClaim.holds_of_wide 12 Try.f12 rfl rfl rfl rfl rfl rfl rfl ⟨rfl, rfl, rfl, rfl, rfl⟩ rfl rfl rfl rfl rfl (by kernel_rfl) Try.func12 (by kernel_rfl)
    (of_decide_eq_true (by kernel_rfl)) (by unfold Func.isWrapper; first | (rw [if_pos (by decide +kernel)]; kernel_rfl) | (rw [if_neg (by decide +kernel)]; exact ⟨rfl, rfl⟩))
    (fun os started H enc _ => matrixResultants_lifted os started H enc)
#print axioms matrixResultants_holds
end Go.Proofs.Ytajkjlgddmkkaaa
