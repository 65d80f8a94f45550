/- Towards the statement, part 4 of 5: contracts of functions, and what they rest on. Conditions: each theorem names its own. -/
import Derived.Test.YtfkeohlpcjpkbaaM3
import Derived.ProofKit
import Derived.Deep.Slices
import Derived.Maps.Range
import Derived.DeepKeys4
set_option linter.unusedVariables false
set_option linter.unusedSimpArgs false

namespace Go.Proofs.Ytfkeohlpcjpkbaa
open Go.RowKit Go.ChangeShapes Go.WideShapes Go.ChangeAt Go.Deep
section
variable {H : Type} {enc : TypeId × Value → H} {w : World} {base : Nat} {spare : Nat → Bool} {held : Bool}
theorem rd_u64 {fuel : Nat} {cs : List Value} {x : DataW H × List MemPlace} (h : DataW.trod enc Try.prog w base spare held fuel 74 cs = some x) : ∃ n : Nat, n < 18446744073709551616 ∧ cs = [.int .u64 (n : Int)] := by
  obtain ⟨n, rfl, _, hw⟩ := DataW.trod_int Try.underlying74 h
  have : 0 ≤ n ∧ n < 18446744073709551616 := by
    simp [Lit.wf, IntKind.min, IntKind.max, IntKind.signed, IntKind.bits] at hw
    omega
  exact ⟨n.toNat, by omega, by rw [Int.toNat_of_nonneg this.1]⟩
/-- A slice, if each element reads. -/
theorem rd_slice {α : Type} (f : α → Dat) (z : α) (ok : α → Prop) {t e : TypeId} {size : Nat} (ht : Try.prog.underlying t = some (.slice e)) (hc : Try.prog.cellsOf e = size) (hs : 0 < size)
    (el : ∀ n cs x, cs.length = size → DataW.trod enc Try.prog w base spare held n e cs = some x → ∃ a, ok a ∧ RdC (fun b => b < w.heap.size) w (f a) cs)
    {fuel : Nat} {cs : List Value} {x : DataW H × List MemPlace} (h : DataW.trod enc Try.prog w base spare held fuel t cs = some x) :
    ∃ l : List α, (∀ a, a ∈ l → ok a) ∧ RdC (fun b => b < w.heap.size) w (LD size f z l) cs := by
  rcases open_slice ht h with ⟨rfl, _⟩ | ⟨a, len, cap, m, n, D, Pl, rfl, hb, hl, hm, hmm, _, hx⟩
  · exact ⟨[], (fun _ h => by simp at h), rd_nil _ _ _ _⟩
  · have hle : len ≤ m := by rw [hmm]; split <;> omega
    rw [hc] at hx
    have hspot : 0 < len → a.spot = none := fun h0 => by
      obtain ⟨cs', h1, h2⟩ := hx 0 (by omega)
      obtain ⟨_, hlen, hcell⟩ := World.cells?_some h1
      have h0 := hcell 0 hs
      rw [List.getElem?_eq_getElem (by omega)] at h0
      have := World.cell?_spot h0
      simpa [Addr.add] using this
    have hel : ∀ i, ∃ y : α, i < len → ok y ∧ ∃ cs', RdC (fun b => b < w.heap.size) w (f y) cs' ∧ cs'.length = size ∧ a.spot = none ∧ CellsAt (fun b => b < w.heap.size) w a.block (a.off + i * size) cs' := by
      intro i
      by_cases hi : i < len
      · obtain ⟨cs', h1, h2⟩ := hx i (by omega)
        obtain ⟨_, hlen, hcell⟩ := World.cells?_some h1
        obtain ⟨y, hy1, hy2⟩ := el n cs' _ hlen h2
        have hsp := hspot (by omega)
        refine ⟨y, fun _ => ⟨hy1, cs', hy2, hlen, hsp, fun j hj => ?_⟩⟩
        have h0 := hcell j (by omega)
        have ha : (a.add (i * size)).add j = ⟨a.block, a.off + i * size + j, none⟩ := by
          obtain ⟨b, o, s⟩ := a
          simp only at hsp
          subst hsp
          rw [add_none, add_none]
        rw [ha] at h0
        refine ⟨?_, h0⟩
        rw [List.getElem?_eq_getElem hj] at h0
        unfold World.cell? at h0
        simp only at h0
        split at h0
        · rename_i heq
          exact (Array.getElem?_eq_some_iff.1 heq).1
        · simp at h0
      · exact ⟨z, fun h => absurd h hi⟩
    have hch := fun i => Classical.choose_spec (hel i)
    let g : Nat → α := fun i => Classical.choose (hel i)
    have hg : ∀ i, i < len → ((List.range len).map g).getD i z = g i := fun i hi => by simp [List.getD_eq_getElem?_getD, hi]
    refine ⟨(List.range len).map g, fun y hy => ?_, ?_⟩
    · obtain ⟨i, hi, rfl⟩ := List.mem_map.1 hy
      exact (hch i (List.mem_range.1 hi)).1
    · unfold LD
      rw [List.length_map, List.length_range]
      refine ⟨some a, cap, rfl, hl, hm, fun h => by simp at h, fun b hb' hpos => ?_, fun i hi => ?_⟩
      · simp only [Option.some.injEq] at hb'
        subst hb'
        obtain ⟨_, _, _, _, hsp, _⟩ := hch 0 hpos
        exact hsp
      · obtain ⟨_, cs', q1, q2, _, q3⟩ := hch i hi
        refine ⟨a, cs', rfl, ?_, q2, q3⟩
        show RdC _ _ (f (((List.range len).map g).getD i z)) cs'
        rw [hg i hi]; exact q1
theorem rd_limbs {fuel : Nat} {cs : List Value} {x : DataW H × List MemPlace} (h : DataW.trod enc Try.prog w base spare held fuel 37 cs = some x) : ∃ l : List Nat, Lim l ∧ RdC (fun b => b < w.heap.size) w (U l) cs := by
  obtain ⟨l, h1, h2⟩ := rd_slice (size := 1) (fun n : Nat => .one (.int .u64 (n : Int))) 0 (fun n => n < 18446744073709551616) Try.underlying37 (by kernel_rfl) (by decide) (fun n cs x _ h => by
    obtain ⟨n, hn, rfl⟩ := rd_u64 h
    exact ⟨n, hn, rfl, rfl⟩) h
  exact ⟨l, h1, h2⟩
theorem rd_int2 {P : Program} {t tb tl : TypeId} {f0 f1 : Field} (ht : P.underlying t = some (.struct #[f0, f1])) (h0t : f0.type = tb) (h0o : f0.offset = 0) (h1t : f1.type = tl) (h1o : f1.offset = 1)
    (cb : P.cellsOf tb = 1) (cl : P.cellsOf tl = 1) (hb : P.underlying tb = some .bool) (el : ∀ (n : Nat) (cs : List Value) (x : DataW H × List MemPlace), DataW.trod enc P w base spare held n tl cs = some x → ∃ l : List Nat, Lim l ∧ RdC (fun b => b < w.heap.size) w (U l) cs)
    {fuel : Nat} {cs : List Value} {x : DataW H × List MemPlace} (hl : cs.length = 2) (h : DataW.trod enc P w base spare held fuel t cs = some x) : ∃ y : Bool × List Nat, Lim y.2 ∧ RdC (fun b => b < w.heap.size) w (J y) cs := by
  obtain ⟨y0, y1, n, _, hlen, h0, h1⟩ := trod_struct2 ht h
  rw [h0t, h0o, cb] at h0
  rw [h1t, h1o, cl] at h1
  match cs, hl with
  | [c0, c1], _ =>
    obtain ⟨s, hs, _⟩ := DataW.trod_bool hb h0
    obtain ⟨l, hl1, hl2⟩ := el _ _ _ h1
    have hc0 : c0 = .bool s := by simpa using hs
    subst hc0
    exact ⟨(s, l), hl1, [.bool s], [c1], rfl, ⟨rfl, rfl⟩, hl2⟩
theorem rd_int {fuel : Nat} {cs : List Value} {x : DataW H × List MemPlace} (hl : cs.length = 2) (h : DataW.trod enc Try.prog w base spare held fuel 39 cs = some x) : ∃ y : Bool × List Nat, Lim y.2 ∧ RdC (fun b => b < w.heap.size) w (J y) cs :=
  rd_int2 Try.underlying39 rfl rfl rfl rfl (tb := 4) (tl := 37) (by kernel_rfl) (by kernel_rfl) Try.underlying4 (fun _ _ _ h => rd_limbs h) hl h
theorem rd_row {fuel : Nat} {cs : List Value} {x : DataW H × List MemPlace} (h : DataW.trod enc Try.prog w base spare held fuel 27 cs = some x) : ∃ r : Row, (∀ y, y ∈ r → Lim y.2) ∧ RdC (fun b => b < w.heap.size) w (V r) cs := by
  obtain ⟨l, h1, h2⟩ := rd_slice (size := 2) J z0 (fun y => Lim y.2) Try.underlying27 (by kernel_rfl) (by decide) (fun n cs x hl h => rd_int hl h) h
  exact ⟨l, h1, h2⟩
end
theorem rd_val {S : Nat → Prop} {w : World} {a : Option Addr} {n c : Nat} {d : Dat} (hd : d.flat = true) (h : RdC S w d (Value.slice a n c).cells.toList) : Rd S w (.slice a n c) d := by
  refine ⟨_, h, ?_⟩
  obtain ⟨v, h1, _, h3⟩ := RdC.single hd h
  rw [h3]
  simpa [Value.cells] using h1
theorem rd_arg2 {P : Program} {t : TypeId} {fs : Array Field} {H : Type} {enc : TypeId × Value → H} {w : World} {r : Reach} {base base' : Nat} {spare : Nat → Bool} {held : Bool} {v : Value} {d : DataW H} {p : List MemPlace} (ht : P.underlying t = some (.struct fs)) (hc : P.cellsOf t = 2)
    (el : ∀ (n : Nat) (cs : List Value) (x : DataW H × List MemPlace), cs.length = 2 → DataW.trod enc P w base spare held n t cs = some x → ∃ y : Bool × List Nat, Lim y.2 ∧ RdC (fun b => b < w.heap.size) w (J y) cs)
    (hv : Value.okWide P w r base' t v) (h : DataW.Trod enc P w base spare held t v d p) : ∃ m : Bool × List Nat, Lim m.2 ∧ Rd (fun b => b < w.heap.size) w v (J m) := by
  obtain ⟨cs, rfl, hsz⟩ := okWide_struct ht hv
  obtain ⟨fuel, hf⟩ := h
  have hcs : (Value.agg cs).cells.toList = cs.toList := by simp [Value.cells]
  rw [hcs] at hf
  obtain ⟨y, h1, h2⟩ := el _ _ _ (by simpa using hsz.trans hc) hf
  exact ⟨y, h1, cs.toList, h2, by unfold J I pack; simp⟩
set_option maxRecDepth 100000 in
/-- A whole number that is handed in. -/
theorem rd_arg {H : Type} {enc : TypeId × Value → H} {w : World} {r : Reach} {base base' : Nat} {spare : Nat → Bool} {held : Bool} {v : Value} {d : DataW H} {p : List MemPlace} (hv : Value.okWide Try.prog w r base' 39 v)
    (h : DataW.Trod enc Try.prog w base spare held 39 v d p) : ∃ m : Bool × List Nat, Lim m.2 ∧ Rd (fun b => b < w.heap.size) w v (J m) :=
  have hc : Try.prog.cellsOf 39 = 2 := by kernel_rfl
  have el : ∀ (n : Nat) (cs : List Value) (x : DataW H × List MemPlace), cs.length = 2 → DataW.trod enc Try.prog w base spare held n 39 cs = some x → ∃ y : Bool × List Nat, Lim y.2 ∧ RdC (fun b => b < w.heap.size) w (J y) cs := fun _ _ _ hl h => rd_int hl h
  rd_arg2 (P := Try.prog) (t := 39) (v := v) (r := r) (base := base) (base' := base') Try.underlying39 hc el hv h
theorem calls_of_meets {g : FuncId} {args : List Value} {fs : List Fact} {w : World} (h : Meets Try.prog g args fs (fun r os fs' => os = [] ∧ fs' = [] ∧ r = .bool true)) (hf : HF (fun b => b < w.heap.size) w fs) :
    Calls Try.prog g args.toArray w fun e w' => e = .returned (.bool true) ∧ Below w.heap.size w w' := by
  refine (h.calls (fun _ => False) w (fun _ h => h.elim) (hf.mono (fun _ _ => rfl) fun b hb => ⟨hb, id⟩)).mono ?_
  rintro e w' ⟨v, os', fs', rfl, ⟨rfl, rfl, rfl⟩, hh⟩
  exact ⟨rfl, hh.below⟩
theorem own0 : ownKnob Try.prog.godebug = none := by kernel_rfl
theorem laid0 : laidOutB Try.prog = true := by kernel_rfl
end Go.Proofs.Ytfkeohlpcjpkbaa

namespace Go.Proofs.Ytfkeohlpcjpkbaa
open Go.RowKit
class TMap (P : Program) (t : TypeId) (k e : outParam TypeId) : Prop where
  und : P.underlying t = some (.map k e)
  keyed : Maps.Keyed P k
/-- A map of one's own, of n entries. -/
def ownM (v : Value) (n : Nat) (k : Nat → Value) (d : Nat → Dat) : Own := own1 v 0 0 (fun _ => .mp n k d)
/-- A walk over a map, with n entries left; c: the entry at which it stands. -/
def ownW (p : Value) (n : Nat) (k : Nat → Value) (d : Nat → Dat) (c : Value) : Own := own1 p 0 0 (fun i => if i = 0 then .mp n k d else .one c)
def isKey (P : Program) (t : TypeId) (v : Value) : Prop := ∃ l, keyOf P t v = some l
def skip {α : Type} (j : Nat) (f : Nat → α) (i : Nat) : α := if i < j then f i else f (i + 1)
theorem map_make {P : Program} {t : TypeId} {os : List Own} {fs : List Fact} {K : Cont} (ks : Nat → Value) (d : Nat → Dat)
    (k : ∀ v, (∃ r, v = .map (some r)) → K v (ownM v 0 ks d :: os) fs) : MapMakeK P t os fs K := by
  refine ⟨fun G w hw => ?_⟩
  have hrun : (val (Instr.makeMap t none)).run P w = .ok (.value (.map (some w.heap.size))) (w.alloc (.map #[] 0)) := by
    simp [val, Instr.makeMap, newObj]
    rfl
  rw [hrun]
  have hb : Below w.heap.size w (w.alloc (.map #[] 0)) := (Below.refl _ _).alloc (Nat.le_refl _) _
  have hnew : (w.alloc (.map #[] 0)).heap[w.heap.size]? = some (.map #[] 0) := by show (w.heap.push _)[w.heap.size]? = _; simp
  exact ⟨hb, _, fs, k _ ⟨_, rfl⟩, hw.alloc _ (.map #[] 0) _ hb rfl (.inr rfl) (.inr (.inr (.inr ⟨rfl, rfl, 0, ks, d, rfl, .inl ⟨_, #[], 0, rfl, hw.size, hnew, ⟨by simp, by simp⟩, Nat.zero_le _, rfl, fun i hi => absurd hi (Nat.not_lt_zero _)⟩⟩)))⟩
/-- Holds.step, with what the new world's good blocks are. -/
theorem Holds.step2 {G : Ctx} {os : List Own} {fs : List Fact} {w w' : World} (h : Holds G os fs w) {pos : Nat} {o o' : Own} (hp : nthOwn os pos = some o)
    (ho : w'.os = w.os) (htp : w'.tape = w.tape) (hou : w'.output = w.output) (hsz : w.heap.size ≤ w'.heap.size)
    (hblk : ∀ k, k < w.heap.size → ¬ o.has k → w'.heap[k]? = w.heap[k]?)
    (hnew : ∀ b, o'.has b → o.has b ∨ (w.heap.size ≤ b))
    (hinj : ∀ i j b, i < o'.m → j < o'.m → vblk (o'.v i) = some b → vblk (o'.v j) = some b → i = j)
    (hown : Agree (Good G.A os w) w w' → (∀ b, Good G.A os w b → Good G.A (setOwn os pos o') w' b) → ∀ i, i < o'.m → OwnVal (Good G.A (setOwn os pos o') w') G.B w' (o'.v i) o'.size (o'.n i) (o'.e i)) :
    Holds G (setOwn os pos o') fs w' := by
  have hmem : ∀ b, o.has b → owned os b := fun b hb => owned_mem.2 ⟨o, nthOwn_mem hp, hb⟩
  have hg : ∀ b, Good G.A os w b → Good G.A (setOwn os pos o') w' b := fun b ⟨g1, g2, g3⟩ => ⟨Nat.lt_of_lt_of_le g1 hsz, g2, fun hb => by
    rcases owned_setOwn hb with hb | hb
    · rcases hnew b hb with hb | hb
      · exact g3 (hmem b hb)
      · omega
    · exact g3 hb⟩
  have ha : Agree (Good G.A os w) w w' := fun b hb => hblk b hb.1 fun h' => hb.2.2 (hmem b h')
  exact h.step hp ho htp hou hsz hblk hnew hinj fun _ => hown ha hg
theorem Ents.get {S : Nat → Prop} {w : World} {es : Array MapEntry} {n : Nat} {k : Nat → Value} {e : Nat → Dat} (h : Ents S w es n k e) {x : MapEntry} {i : Nat} (hx : es.toList[i]? = some x) :
    i < n ∧ x.key = k i ∧ ∃ cs, RdC S w (e i) cs ∧ x.val = pack (e i) cs := by
  have hx' : es[i]? = some x := by simpa using hx
  have hi : i < n := by have := (Array.getElem?_eq_some_iff.1 hx').1; have := h.1; omega
  obtain ⟨y, h1, h2⟩ := h.2 i hi
  rw [hx'] at h1
  obtain rfl := Option.some.inj h1
  exact ⟨hi, h2⟩
theorem Ents.keys {P : Program} {t : TypeId} {S : Nat → Prop} {w : World} {es : Array MapEntry} {n : Nat} {k : Nat → Value} {e : Nat → Dat} (h : Ents S w es n k e) (hk : ∀ i, i < n → isKey P t (k i)) :
    ∀ x, x ∈ es.toList → ∃ l, keyOf P t x.key = some l := fun x hx => by
  obtain ⟨i, hi⟩ := List.getElem?_of_mem hx
  obtain ⟨h1, h2, _⟩ := h.get hi
  rw [h2]
  exact hk i h1
theorem Stp.push {es : Array MapEntry} {clock : Nat} (h : Stp es clock) (key val : Value) : Stp (es.push { key, val, born := clock }) (clock + 1) := by
  refine ⟨fun x hx => ?_, ?_⟩
  · simp only [Array.toList_push, List.mem_append, List.mem_singleton] at hx
    rcases hx with hx | rfl
    · exact Nat.lt_succ_of_lt (h.1 x hx)
    · exact Nat.lt_succ_self _
  · simp only [Array.toList_push, List.map_append, List.map_cons, List.map_nil]
    refine List.nodup_append.2 ⟨h.2, by simp, fun a ha b hb => ?_⟩
    simp only [List.mem_singleton] at hb
    obtain ⟨x, hx, rfl⟩ := List.mem_map.1 ha
    have := h.1 x hx
    omega
def mpu {α : Type} (j : Nat) (x : α) (f : Nat → α) (i : Nat) : α := if i = j then x else f i
theorem mpu_same {α : Type} (j : Nat) (x : α) (f : Nat → α) : mpu j x f j = x := by simp [mpu]
theorem mpu_other {α : Type} {j : Nat} (x : α) (f : Nat → α) {i : Nat} (h : i ≠ j) : mpu j x f i = f i := by simp [mpu, h]
/-- A new key is mpu in. -/
theorem map_new {P : Program} {t k e : TypeId} [ht : TMap P t k e] {v key x : Value} {n : Nat} {ks : Nat → Value} {d : Nat → Dat} {dx : Dat} {os : List Own} {fs : List Fact} {K : Cont} (pos : Nat) (h : nthOwn os pos = some (ownM v n ks d))
    (hv : ∃ r, v = .map (some r)) (hks : ∀ i, i < n → isKey P k (ks i)) (hkey : isKey P k key) (hno : ∀ i, i < n → ks i ≠ key) (hn : n < maxLen) (hx : Knw os fs x dx)
    (kk : K undef (setOwn os pos (ownM v (n + 1) (mpu n key ks) (mpu n dx d))) fs) : MapPutK P t v key x os fs K := by
  refine ⟨fun G w hw => ?_⟩
  obtain ⟨cs, hx1, rfl⟩ := hx G w hw
  obtain ⟨r, rfl⟩ := hv
  rcases hw.own _ (nthOwn_mem h) 0 Nat.zero_lt_one with ⟨h1, _⟩ | ⟨_, _, h1, _⟩ | ⟨_, h1, _⟩ | ⟨_, _, n', k', d', he, ⟨r', es, clock, h1, h2, h3, h4, h5, h6⟩ | ⟨_, _, _, _, _, _, _, h1, _⟩⟩
  · simp [ownM, own1] at h1
  · simp [ownM, own1] at h1
  · simp [ownM, own1] at h1
  · simp only [ownM, own1, Value.map.injEq, Option.some.injEq] at h1
    subst h1
    simp only [ownM, own1, Dat.mp.injEq] at he
    obtain ⟨rfl, rfl, rfl⟩ := he
    obtain ⟨l, hl⟩ := hkey
    have hfind : (Instr.findKey k key es.toList).run P w = .ok none w := by
      rcases ht.keyed.find w hl es.toList (h6.keys hks) with ⟨g1, _⟩ | ⟨j, e0, g1, g2, g3⟩
      · exact g1
      · obtain ⟨q1, q2, _⟩ := h6.get g2
        exact absurd (q2.symm.trans g3) (hno j q1)
    have hrun : (Instr.mapUpdate t (.map (some r)) key (pack dx cs)).run P w = .ok () (ChangeMaps.setBlock w r (.map (es.push ⟨key, pack dx cs, clock⟩) (clock + 1))) := by
      simp [Instr.mapUpdate, run_underlying ht.und, MapKept.run_getObj_map h3, ht.keyed.check w false hl, hfind, MapKept.run_setObj_map _ h3, Result.andThen, ChangeMaps.setBlock]
    rw [unt_run hrun]
    refine ⟨_, fs, kk, hw.step2 h rfl rfl rfl (by simp [ChangeMaps.setBlock]) (fun b _ hb => ?_) (fun b hb => .inl ?_) (fun i j b hi hj _ _ => by simp only [ownM, own1] at hi hj; omega) fun ha hg i hi => ?_⟩
    · exact (MapKept.heap_set h3).2 b fun e => hb ⟨0, Nat.zero_lt_one, by rw [e]; rfl⟩
    · obtain ⟨i, _, hb⟩ := hb; exact ⟨0, Nat.zero_lt_one, hb⟩
    · have hes := h6.mono ha hg
      have hdx := hx1.mono ha hg
      refine .inr (.inr (.inr ⟨rfl, rfl, n + 1, _, _, rfl, .inl ⟨r, _, _, rfl, h2, (MapKept.heap_set h3).1, h4.push _ _, by omega, by simp [h6.1], fun y hy => ?_⟩⟩))
      by_cases hyn : y = n
      · subst hyn
        rw [mpu_same, mpu_same]
        exact ⟨⟨key, pack dx cs, clock⟩, by rw [← h6.1]; simp, rfl, cs, hdx, rfl⟩
      · obtain ⟨u, u1, u2, u3⟩ := hes.2 y (by omega)
        rw [mpu_other _ _ hyn, mpu_other _ _ hyn]
        refine ⟨u, ?_, u2, u3⟩
        rw [Array.getElem?_push, if_neg (by rw [h6.1]; omega)]
        exact u1
  · simp [ownM, own1] at h1
theorem Stp.modify {es : Array MapEntry} {clock : Nat} (h : Stp es clock) (j : Nat) (key val : Value) : Stp (es.modify j fun e => { e with key := key, val := val }) clock := by
  have hm : (es.modify j fun e => { e with key := key, val := val }).toList.map (·.born) = es.toList.map (·.born) := by
    refine List.ext_getElem? fun i => ?_
    simp only [List.getElem?_map, Array.toList_modify]
    rw [List.getElem?_modify]
    by_cases hij : j = i
    · simp only [hij, if_true]; cases es.toList[i]? <;> rfl
    · simp [hij]
  refine ⟨fun x hx => ?_, by rw [hm]; exact h.2⟩
  have : x.born ∈ es.toList.map (·.born) := by rw [← hm]; exact List.mem_map.2 ⟨x, hx, rfl⟩
  obtain ⟨y, hy, hyb⟩ := List.mem_map.1 this
  rw [← hyb]
  exact h.1 y hy
/-- A key that is there gets another value. -/
theorem map_set {P : Program} {t k e : TypeId} [ht : TMap P t k e] {v key x : Value} {n : Nat} {ks : Nat → Value} {d : Nat → Dat} {dx : Dat} {os : List Own} {fs : List Fact} {K : Cont} (pos : Nat) (h : nthOwn os pos = some (ownM v n ks d))
    (hv : ∃ r, v = .map (some r)) (hks : ∀ i, i < n → isKey P k (ks i)) (hkey : isKey P k key) (j : Nat) (hj : j < n) (hjk : ks j = key) (hone : ∀ i, i < n → ks i = key → i = j) (hx : Knw os fs x dx)
    (kk : K undef (setOwn os pos (ownM v n ks (mpu j dx d))) fs) : MapPutK P t v key x os fs K := by
  refine ⟨fun G w hw => ?_⟩
  obtain ⟨cs, hx1, rfl⟩ := hx G w hw
  obtain ⟨r, rfl⟩ := hv
  rcases hw.own _ (nthOwn_mem h) 0 Nat.zero_lt_one with ⟨h1, _⟩ | ⟨_, _, h1, _⟩ | ⟨_, h1, _⟩ | ⟨_, _, n', k', d', he, ⟨r', es, clock, h1, h2, h3, h4, h5, h6⟩ | ⟨_, _, _, _, _, _, _, h1, _⟩⟩
  · simp [ownM, own1] at h1
  · simp [ownM, own1] at h1
  · simp [ownM, own1] at h1
  · simp only [ownM, own1, Value.map.injEq, Option.some.injEq] at h1
    subst h1
    simp only [ownM, own1, Dat.mp.injEq] at he
    obtain ⟨rfl, rfl, rfl⟩ := he
    obtain ⟨l, hl⟩ := hkey
    obtain ⟨e0, hfind, g2, g3⟩ : ∃ e0, (Instr.findKey k key es.toList).run P w = .ok (some (j, e0.val)) w ∧ es.toList[j]? = some e0 ∧ e0.key = key := by
      rcases ht.keyed.find w hl es.toList (h6.keys hks) with ⟨_, g2⟩ | ⟨j', e0, g1, g2, g3⟩
      · obtain ⟨u, u1, u2, _⟩ := h6.2 j hj
        exact absurd (u2.trans hjk) (g2 u (List.mem_of_getElem? (by simpa using u1)))
      · obtain ⟨q1, q2, _⟩ := h6.get g2
        obtain rfl := hone j' q1 (q2.symm.trans g3)
        exact ⟨e0, g1, g2, g3⟩
    have hes0 : es[j]? = some e0 := by simpa using g2
    have hrun : (Instr.mapUpdate t (.map (some r)) key (pack dx cs)).run P w = .ok () (ChangeMaps.setBlock w r (.map (es.modify j fun e => { e with key := key, val := pack dx cs }) clock)) := by
      simp [Instr.mapUpdate, run_underlying ht.und, MapKept.run_getObj_map h3, ht.keyed.check w false hl, hfind, hes0, g3, ht.keyed.stays w hl, MapKept.run_setObj_map _ h3, Result.andThen, ChangeMaps.setBlock]
    rw [unt_run hrun]
    refine ⟨_, fs, kk, hw.step2 h rfl rfl rfl (by simp [ChangeMaps.setBlock]) (fun b _ hb => ?_) (fun b hb => .inl ?_) (fun i j b hi hj _ _ => by simp only [ownM, own1] at hi hj; omega) fun ha hg i hi => ?_⟩
    · exact (MapKept.heap_set h3).2 b fun e => hb ⟨0, Nat.zero_lt_one, by rw [e]; rfl⟩
    · obtain ⟨i, _, hb⟩ := hb; exact ⟨0, Nat.zero_lt_one, hb⟩
    · have hes := h6.mono ha hg
      have hdx := hx1.mono ha hg
      refine .inr (.inr (.inr ⟨rfl, rfl, n, _, _, rfl, .inl ⟨r, _, _, rfl, h2, (MapKept.heap_set h3).1, h4.modify _ _ _, h5, by simp [h6.1], fun y hy => ?_⟩⟩))
      obtain ⟨u, u1, u2, u3⟩ := hes.2 y hy
      by_cases hyn : y = j
      · subst hyn
        rw [mpu_same]
        exact ⟨{ u with key := key, val := pack dx cs }, by rw [Array.getElem?_modify, if_pos rfl, u1]; rfl, hjk.symm, cs, hdx, rfl⟩
      · rw [mpu_other _ _ hyn]
        refine ⟨u, ?_, u2, u3⟩
        rw [Array.getElem?_modify, if_neg (fun h => hyn h.symm)]
        exact u1
  · simp [ownM, own1] at h1
theorem Rd.mp {S : Nat → Prop} {w : World} {v : Value} {n : Nat} {k : Nat → Value} {e : Nat → Dat} (h : Rd S w v (.mp n k e)) :
    ∃ r es clock, v = .map (some r) ∧ S r ∧ w.heap[r]? = some (.map es clock) ∧ Stp es clock ∧ n ≤ maxLen ∧ Ents S w es n k e := by
  obtain ⟨cs, ⟨r, es, clock, rfl, h2, h3, h4, h5, h6, h7⟩, rfl⟩ := h
  exact ⟨r, es, clock, rfl, h2, h3, h4, h6, h5, fun i hi => let ⟨x, cs', k1, k2, k3, k4⟩ := h7 i hi; ⟨x, k1, k2, cs', k3, k4⟩⟩
/-- What a key that is there has. -/
theorem map_get {P : Program} {t k e : TypeId} [ht : TMap P t k e] {v key : Value} {n : Nat} {ks : Nat → Value} {d : Nat → Dat} {os : List Own} {fs : List Fact} {K : Cont} (hm : (v, .mp n ks d) ∈ fs)
    (hks : ∀ i, i < n → isKey P k (ks i)) (hkey : isKey P k key) (j : Nat) (hj : j < n) (hjk : ks j = key) (hone : ∀ i, i < n → ks i = key → i = j)
    (kk : ∀ u, K u os ((u, d j) :: fs)) : MapGetK P t v key false os fs K := by
  refine ⟨fun G w hw => ?_⟩
  obtain ⟨r, es, clock, rfl, h2, h3, h4, h5, h6⟩ := (hw.facts _ hm).mp
  obtain ⟨l, hl⟩ := hkey
  obtain ⟨u, u1, u2, cs, u3, u4⟩ := h6.2 j hj
  refine ⟨u.val, _, fun w' hb => val_run ?_, kk _, hw.put ⟨cs, u3, u4⟩⟩
  have h3' : w'.heap[r]? = some (.map es clock) := (hb.block r h2.1).trans h3
  have hfind : (Instr.findKey k key es.toList).run P w' = .ok (some (j, u.val)) w' := by
    rcases ht.keyed.find w' hl es.toList (h6.keys hks) with ⟨_, g2⟩ | ⟨j', e0, g1, g2, g3⟩
    · exact absurd (u2.trans hjk) (g2 u (List.mem_of_getElem? (by simpa using u1)))
    · obtain ⟨q1, q2, _⟩ := h6.get g2
      obtain rfl := hone j' q1 (q2.symm.trans g3)
      have : es[j']? = some e0 := by simpa using g2
      rw [u1] at this
      obtain rfl := Option.some.inj this
      exact g1
  simp [Instr.lookup, run_underlying ht.und, MapKept.run_getObj_map h3', ht.keyed.check w' _ hl, hfind, Result.andThen]
/-- The zero of a type, as a value, reads as d. -/
class TZeroV (P : Program) (t : TypeId) (d : outParam Dat) : Prop where
  zero : ∃ i z, P.info? t = some i ∧ i.zero = some z ∧ (∀ S w, Rd S w z d)
theorem map_none {P : Program} {t k e : TypeId} [ht : TMap P t k e] {z : Dat} [hz : TZeroV P e z] {v key : Value} {n : Nat} {ks : Nat → Value} {d : Nat → Dat} {os : List Own} {fs : List Fact} {K : Cont} (hm : (v, .mp n ks d) ∈ fs)
    (hks : ∀ i, i < n → isKey P k (ks i)) (hkey : isKey P k key) (hno : ∀ i, i < n → ks i ≠ key)
    (kk : ∀ u, K u os ((u, z) :: fs)) : MapGetK P t v key false os fs K := by
  refine ⟨fun G w hw => ?_⟩
  obtain ⟨r, es, clock, rfl, h2, h3, h4, h5, h6⟩ := (hw.facts _ hm).mp
  obtain ⟨l, hl⟩ := hkey
  obtain ⟨i, zv, z1, z2, z3⟩ := hz.zero
  refine ⟨zv, _, fun w' hb => val_run ?_, kk _, hw.put (z3 _ _)⟩
  have h3' : w'.heap[r]? = some (.map es clock) := (hb.block r h2.1).trans h3
  have hfind : (Instr.findKey k key es.toList).run P w' = .ok none w' := by
    rcases ht.keyed.find w' hl es.toList (h6.keys hks) with ⟨g1, _⟩ | ⟨j, e0, g1, g2, g3⟩
    · exact g1
    · obtain ⟨q1, q2, _⟩ := h6.get g2
      exact absurd (q2.symm.trans g3) (hno j q1)
  simp [Instr.lookup, run_underlying ht.und, MapKept.run_getObj_map h3', ht.keyed.check w' _ hl, hfind, Result.andThen, zeroValue, typeInfo, z1, z2]
end Go.Proofs.Ytfkeohlpcjpkbaa

namespace Go.Proofs.Ytfkeohlpcjpkbaa
open Go.RowKit
theorem leftOf_none (es : Array MapEntry) : leftOf es #[] = es := by simp [leftOf]
theorem map_range {P : Program} {t k e : TypeId} [ht : TMap P t k e] {v : Value} {n : Nat} {ks : Nat → Value} {d : Nat → Dat} {os : List Own} {fs : List Fact} {K : Cont} (hm : (v, .mp n ks d) ∈ fs)
    (kk : ∀ p, isBox p → K p (ownW p n ks d (.bool false) :: os) fs) : RangeK P t v os fs K := by
  refine ⟨fun G w hw => ?_⟩
  obtain ⟨r, es, clock, rfl, h2, h3, h4, h5, h6⟩ := (hw.facts _ hm).mp
  have hrun : (val (Instr.range t (.map (some r)))).run P w = .ok (.value (.pointer (some ⟨w.heap.size, 0, none⟩))) (w.alloc (.mapIter (some r) clock #[] clock)) := val_run' (run_range_map w t k e r es clock ht.und h3)
  rw [hrun]
  have hb : Below w.heap.size w (w.alloc (.mapIter (some r) clock #[] clock)) := (Below.refl _ _).alloc (Nat.le_refl _) _
  have hnew : (w.alloc (.mapIter (some r) clock #[] clock)).heap[w.heap.size]? = some (.mapIter (some r) clock #[] clock) := by show (w.heap.push _)[w.heap.size]? = _; simp
  have hg : ∀ b, Good G.A os w b → Good G.A (ownW (.pointer (some ⟨w.heap.size, 0, none⟩)) n ks d (.bool false) :: os) (w.alloc (.mapIter (some r) clock #[] clock)) b := fun b ⟨g1, g2, g3⟩ =>
    ⟨Nat.lt_of_lt_of_le g1 hb.size, g2, fun ho => ho.elim (fun ⟨i, hi, hv⟩ => by
      simp only [ownW, own1, vblk, Option.some.injEq] at hv
      omega) g3⟩
  have ha : Agree (Good G.A os w) w (w.alloc (.mapIter (some r) clock #[] clock)) := agree_alloc _ Good.lt
  refine ⟨hb, _, fs, kk _ ⟨_, rfl⟩, hw.alloc _ (.mapIter (some r) clock #[] clock) _ hb rfl (.inr rfl) (.inr (.inr (.inr ⟨rfl, rfl, n, ks, d, rfl, .inr
    ⟨_, r, clock, #[], clock, es, clock, rfl, hw.size, hnew, hg r h2, (hb.block r h2.1).trans h3, h4, h4.1, Nat.le_refl _, Nat.le_refl _, by rw [leftOf_none]; exact h6.mono ha hg, fun c hc => ?_⟩⟩)))⟩
  simp only [ownW, own1, if_neg (show ¬ (1 : Nat) = 0 by decide), Dat.one.injEq] at hc
  cases hc
theorem leftOf_push {es : Array MapEntry} {seen : Array Nat} {x : MapEntry} {j : Nat} (hn : (es.toList.map (·.born)).Nodup) (hx : (leftOf es seen).toList[j]? = some x) :
    (leftOf es (seen.push x.born)).toList = (leftOf es seen).toList.eraseIdx j := by
  have h1 : (leftOf es (seen.push x.born)).toList = (leftOf es seen).toList.filter (fun y => !(y.born == x.born)) := by
    simp only [leftOf, Array.toList_filter, List.filter_filter]
    congr 1
    funext y
    rw [contains_push]
    cases seen.contains y.born <;> cases (y.born == x.born) <;> rfl
  rw [h1]
  refine ChangeMaps.filter_eq_eraseIdx (fun y => y.born == x.born) _ j x hx (by simp) ?_
  have h2 : ((leftOf es seen).toList.map (·.born)).Nodup := by
    refine List.Nodup.sublist ?_ hn
    simp only [leftOf, Array.toList_filter]
    exact List.Sublist.map _ List.filter_sublist
  rw [List.Nodup, List.pairwise_map] at h2
  refine h2.imp fun {a b} hab ⟨e1, e2⟩ => hab ?_
  simp only [beq_iff_eq] at e1 e2
  rw [e1, e2]
theorem walk_next {P : Program} {p : Value} {ty : TypeId} {n : Nat} {ks : Nat → Value} {d : Nat → Dat} {c : Value} {os : List Own} {fs : List Fact} {K : Cont} (pos : Nat) (h : nthOwn os pos = some (ownW p n ks d c)) (hp : isBox p)
    (h0 : n = 0 → K (.tuple #[.bool false]) os fs)
    (h1 : ∀ j x, j < n → K (.tuple #[.bool true, ks j, x]) (setOwn os pos (ownW p (n - 1) (skip j ks) (skip j d) (.tuple #[ks j, x]))) ((x, d j) :: fs)) : NextK P p false ty os fs K := by
  refine ⟨fun G w hw => ?_⟩
  obtain ⟨r0, rfl⟩ := hp
  rcases hw.own _ (nthOwn_mem h) 0 Nat.zero_lt_one with ⟨g1, _⟩ | ⟨_, _, g1, _⟩ | ⟨_, _, g1, _⟩ | ⟨_, _, n', k', d', he, ⟨r', es, clock, g1, _⟩ | ⟨r', b, since, seen, last, es, clock, g1, g2, g3, g4, g5, g6, g7, g8, g8', g9, _⟩⟩
  · simp [ownW, own1] at g1
  · simp [ownW, own1] at g1
  · simp [ownW, own1] at g1
  · simp [ownW, own1] at g1
  simp only [ownW, own1, Value.pointer.injEq, Option.some.injEq, Addr.mk.injEq, and_true] at g1
  subst g1
  simp only [ownW, own1, if_true, Dat.mp.injEq] at he
  obtain ⟨rfl, rfl, rfl⟩ := he
  rcases run_next_at (P := P) w ty r0 b since last seen es clock g3 g5 g7 g8 with ⟨q1, q2⟩ | ⟨x, q1, w1, q2, q3⟩
  · rw [val_run' q2]
    exact ⟨os, fs, h0 (by rw [← g9.1]; exact q1), hw⟩
  · obtain ⟨j, hj⟩ := List.getElem?_of_mem q1
    obtain ⟨hjn, hk, cs, hcs, hv⟩ := g9.get hj
    rw [val_run' q3]
    have hr1 : w1.heap[r0]? = some (.mapIter (some b) since seen last) := by rcases q2 with rfl | rfl <;> exact g3
    have hset := MapKept.heap_set (o' := .mapIter (some b) since (seen.push x.born) clock) hr1
    have hw1 : w1.heap = w.heap ∧ w1.os = w.os ∧ w1.tape = w.tape ∧ w1.output = w.output := by rcases q2 with rfl | rfl <;> exact ⟨rfl, rfl, rfl, rfl⟩
    have hne : ∀ y, y ≠ r0 → (ChangeMaps.setBlock w1 r0 (.mapIter (some b) since (seen.push x.born) clock)).heap[y]? = w.heap[y]? := fun y hy => (hset.2 y hy).trans (by rw [hw1.1])
    have hbr : b ≠ r0 := fun e => by rw [e, g3] at g5; cases g5
    have hkx := h1 j x.val hjn
    rw [← hk] at hkx
    refine ⟨_, _, hkx, Holds.put (hw.step2 h hw1.2.1 hw1.2.2.1 hw1.2.2.2 (by simp [ChangeMaps.setBlock, hw1.1]) (fun y _ hy => hne y fun e => hy ⟨0, Nat.zero_lt_one, by rw [e]; rfl⟩) (fun y hy => .inl ?_) (fun i j b hi hj _ _ => by simp only [ownW, own1] at hi hj; omega) fun ha hg i hi => ?_) ?_⟩
    · obtain ⟨i, _, hy⟩ := hy; exact ⟨0, Nat.zero_lt_one, hy⟩
    · refine .inr (.inr (.inr ⟨rfl, rfl, n - 1, _, _, rfl, .inr ⟨r0, b, since, seen.push x.born, clock, es, clock, rfl, g2, hset.1, hg b g4, (hne b hbr).trans g5, g6, g7, g8', g8', ?_, fun c hc => ?_⟩⟩))
      · have hl := leftOf_push g6.2 hj
        have hes := g9.mono ha hg
        have hlen : (leftOf es seen).toList.length = n := by simpa using g9.1
        refine ⟨?_, fun y hy => ?_⟩
        · have : (leftOf es (seen.push x.born)).toList.length = n - 1 := by rw [hl, List.length_eraseIdx, hlen, if_pos hjn]
          simpa using this
        · have hget : (leftOf es (seen.push x.born))[y]? = (leftOf es seen)[if y < j then y else y + 1]? := by
            rw [← Array.getElem?_toList, hl, List.getElem?_eraseIdx]
            split <;> simp
          obtain ⟨u, u1, u2, u3⟩ := hes.2 (if y < j then y else y + 1) (by split <;> omega)
          refine ⟨u, hget.trans u1, ?_, ?_⟩
          · rw [u2]; unfold skip; split <;> rfl
          · have e1 : skip j d y = d (if y < j then y else y + 1) := by unfold skip; split <;> rfl
            rw [e1]; exact u3
      · simp only [ownW, own1, if_neg (show ¬ (1 : Nat) = 0 by decide), Dat.one.injEq, Value.tuple.injEq] at hc
        exact ⟨x, seen, (mem_left q1).1, rfl, hc.symm, rfl⟩
    · have ha : Agree (Good G.A os w) w (ChangeMaps.setBlock w1 r0 (.mapIter (some b) since (seen.push x.born) clock)) := fun y hy => hne y fun e => hy.2.2 (by rw [e]; exact owned_mem.2 ⟨_, nthOwn_mem h, 0, Nat.zero_lt_one, rfl⟩)
      refine ⟨cs, hcs.mono ha fun y ⟨z1, z2, z3⟩ => ⟨by simpa [ChangeMaps.setBlock, hw1.1] using z1, z2, fun hy => ?_⟩, hv⟩
      rcases owned_setOwn hy with hy | hy
      · obtain ⟨i, hi, hy⟩ := hy
        exact z3 (owned_mem.2 ⟨_, nthOwn_mem h, 0, Nat.zero_lt_one, hy⟩)
      · exact z3 hy
theorem walk_entry {P : Program} {p : Value} {n : Nat} {ks : Nat → Value} {d : Nat → Dat} {c : Array Value} {os : List Own} {fs : List Fact} {K : Cont} (pos : Nat) (h : nthOwn os pos = some (ownW p n ks d (.tuple c))) (hp : isBox p)
    (kk : K (.tuple c) os fs) : EntryK P p os fs K := by
  refine ⟨fun G w hw => ?_⟩
  obtain ⟨r0, rfl⟩ := hp
  rcases hw.own _ (nthOwn_mem h) 0 Nat.zero_lt_one with ⟨g1, _⟩ | ⟨_, _, g1, _⟩ | ⟨_, _, g1, _⟩ | ⟨_, _, n', k', d', he, ⟨r', es, clock, g1, _⟩ | ⟨r', b, since, seen, last, es, clock, g1, g2, g3, g4, g5, g6, g7, g8, g8', g9, g10⟩⟩
  · simp [ownW, own1] at g1
  · simp [ownW, own1] at g1
  · simp [ownW, own1] at g1
  · simp [ownW, own1] at g1
  simp only [ownW, own1, Value.pointer.injEq, Option.some.injEq, Addr.mk.injEq, and_true] at g1
  subst g1
  obtain ⟨x, s0, q1, rfl, rfl, rfl⟩ := g10 c rfl
  rw [val_run' (run_entry_at (P := P) w r0 b since s0 es last x g3 g5 q1 g6.2)]
  exact ⟨os, fs, kk, hw⟩
/-- A map of one's own becomes a fact: from now on nobody writes it. -/
theorem Seals.map {os : List Own} {fs : List Fact} (pos : Nat) {v : Value} {n : Nat} {ks : Nat → Value} {d : Nat → Dat} (h : nthOwn os pos = some (ownM v n ks d)) (hv : ∃ r, v = .map (some r)) :
    Seals os fs (dropOwn os pos) ((v, .mp n ks d) :: fs) := by
  intro G w hw
  refine (hw.drop pos).put ?_
  have hg : ∀ b, Good G.A os w b → Good G.A (dropOwn os pos) w b := fun b ⟨h1, h2, h3⟩ => ⟨h1, h2, fun hb => h3 (by
    obtain ⟨x, hx, hxb⟩ := owned_mem.1 hb
    obtain ⟨i, _, hi⟩ := dropOwn_mem hx
    exact owned_mem.2 ⟨x, nthOwn_mem hi, hxb⟩)⟩
  obtain ⟨r, rfl⟩ := hv
  rcases hw.own _ (nthOwn_mem h) 0 Nat.zero_lt_one with ⟨h1, _⟩ | ⟨_, _, h1, _⟩ | ⟨_, h1, _⟩ | ⟨_, _, n', k', d', he, ⟨r', es, clock, h1, h2, h3, h4, h5, h6⟩ | ⟨_, _, _, _, _, _, _, h1, _⟩⟩
  · simp [ownM, own1] at h1
  · simp [ownM, own1] at h1
  · simp [ownM, own1] at h1
  · simp only [ownM, own1, Value.map.injEq, Option.some.injEq] at h1
    subst h1
    simp only [ownM, own1, Dat.mp.injEq] at he
    obtain ⟨rfl, rfl, rfl⟩ := he
    refine ⟨[.map (some r)], ⟨r, es, clock, rfl, good_drop hw h ⟨0, Nat.zero_lt_one, rfl⟩, h3, h4, h6.1, h5, fun i hi => ?_⟩, rfl⟩
    obtain ⟨x, x1, x2, cs, x3, x4⟩ := h6.2 i hi
    exact ⟨x, cs, x1, x2, x3.mono (fun _ _ => rfl) hg, x4⟩
  · simp [ownM, own1] at h1
end Go.Proofs.Ytfkeohlpcjpkbaa

namespace Go.Proofs.Ytfkeohlpcjpkbaa
open Go.RowKit
class TSpot (P : Program) (k : TypeId) : Prop where
  und : ∃ f0 f1, P.underlying k = some (.struct #[f0, f1]) ∧ f0.offset = 0 ∧ f1.offset = 1 ∧ (f0.name != "_") = true ∧ (f1.name != "_") = true ∧ P.underlying f0.type = some (.int .i64) ∧ P.underlying f1.type = some (.int .i64) ∧
    P.cellsOf k = 2 ∧ P.cellsOf f0.type = 1 ∧ P.cellsOf f1.type = 1
  kt : P.keyType k = true
  some : ∃ m, P.types.size = m + 1
def spot (x y : Int) : Value := .agg #[.int .i64 x, .int .i64 y]
def spotD (x y : Int) : Dat := .cat (.one (.int .i64 x)) (.one (.int .i64 y))
theorem spot_inj {x y x' y' : Int} (h : spot x y = spot x' y') : x = x' ∧ y = y' := by
  simp only [spot, Value.agg.injEq, Array.mk.injEq, List.cons.injEq, Value.int.injEq, true_and, and_true] at h
  exact h
theorem spot_key {P : Program} {k : TypeId} [ht : TSpot P k] {x y : Int} (hx : inK .i64 x) (hy : inK .i64 y) : isKey P k (spot x y) := by
  obtain ⟨f0, f1, h1, h2, h3, h4, h5, h6, h7, h8, h9, h10⟩ := ht.und
  obtain ⟨m, hm⟩ := ht.some
  simp only [inK] at hx hy
  have wx : (Lit.int .i64 x).wf = true := by simp [Lit.wf, IntKind.min, IntKind.max, IntKind.bits, IntKind.signed]; omega
  have wy : (Lit.int .i64 y).wf = true := by simp [Lit.wf, IntKind.min, IntKind.max, IntKind.bits, IntKind.signed]; omega
  refine ⟨.string (keyBytes [.int .i64 x, .int .i64 y]), ?_⟩
  unfold keyOf
  simp only [h1, ht.kt, spot, Value.formed, h8, Bool.true_and, List.size_toArray, List.length_cons, List.length_nil, beq_self_eq_true, if_true, hm, Value.cells]
  have e : P.keyLits (m + 1 + 1) k [.int .i64 x, .int .i64 y] = some [.int .i64 x, .int .i64 y] := by
    unfold Program.keyLits
    simp only [h1, h8, List.length_cons, List.length_nil]
    have k0 : P.keyLits (m + 1) f0.type [.int .i64 x] = some [.int .i64 x] := by unfold Program.keyLits; simp [h6, wx]
    have k1 : P.keyLits (m + 1) f1.type [.int .i64 y] = some [.int .i64 y] := by unfold Program.keyLits; simp [h7, wy]
    simp [h2, h3, h4, h5, h9, h10, k0, k1]
  rw [e]; rfl
theorem Rd.spot {S : Nat → Prop} {w : World} {v : Value} {x y : Int} (h : Rd S w v (spotD x y)) : v = Go.Proofs.Ytfkeohlpcjpkbaa.spot x y := by
  obtain ⟨cs, ⟨c1, c2, rfl, ⟨rfl, _⟩, ⟨rfl, _⟩⟩, rfl⟩ := h
  rfl
theorem Reads.spot {os : List Own} {fs : List Fact} (x y : Int) : Reads os fs (spot x y) (spotD x y) := fun _ _ _ => ⟨[.int .i64 x, .int .i64 y], ⟨[_], [_], rfl, ⟨rfl, rfl⟩, ⟨rfl, rfl⟩⟩, rfl⟩
theorem build_spot {P : Program} {t : TypeId} {z0 z1 : Value} [ht : TStr2 P t z0 z1] {x y : Int} {os : List Own} {fs : List Fact} {K : Cont} (k : K (spot x y) os fs) : BuildK P t [(0, .int .i64 x), (1, .int .i64 y)] os fs K :=
  ⟨fun _ _ hw => ⟨_, _, fun w' _ => val_run (build_run2 ht rfl rfl w'), k, hw⟩⟩
theorem load_spot {P : Program} {t : TypeId} {v : Value} {size : Nat} {e : Nat → Dat} {x y : Int} {os : List Own} {fs : List Fact} {K : Cont} [ht : TAgg P t 2] (pos : Nat) (h : nthOwn os pos = some (own1 v size 1 e)) (hb : isBox v)
    (hd : e 0 = spotD x y) (k' : K (spot x y) os fs) : LoadK P t v os fs K := by
  obtain ⟨r, rfl⟩ := hb
  refine ⟨fun G w hw => ?_⟩
  have hov := hw.own _ (nthOwn_mem h) 0 Nat.zero_lt_one
  obtain ⟨r', cap, hr⟩ := hov.row Nat.zero_lt_one
  obtain ⟨cs, g1, g2, g3⟩ := hr.row.cellsAt Nat.zero_lt_one
  have hrr : r' = r := by have := hr.blk; simp [own1, vblk] at this; exact this.symm
  subst hrr
  have g1' : RdC (Good G.A os w) w (spotD x y) cs := hd ▸ g1
  have hp : pack (spotD x y) cs = spot x y := Rd.spot ⟨cs, g1', rfl⟩
  refine ⟨_, fs, fun w' hb => val_run ?_, k', hw⟩
  have := loadAt_run (P := P) (t := t) (w := w') (r := r') (o := 0) (d := spotD x y) ht g1' fun j hj => by
    have := g3 w' (hb.block r' (hov.blk hr.blk).2) j hj
    simpa using this
  rwa [hp] at this
-- Maps as lists of entries.
section
variable {α : Type}
def spk (t : Nat × Nat × α) : Value := spot (t.1 : Nat) (t.2.1 : Nat)
/-- No key twice. -/
def Nd (L : List (Nat × Nat × α)) : Prop := L.Pairwise fun s t => ¬ (s.1 = t.1 ∧ s.2.1 = t.2.1)
def In64 (L : List (Nat × Nat × α)) : Prop := ∀ t, t ∈ L → t.1 < 1073741824 ∧ t.2.1 < 1073741824
/-- What a map has at a key. -/
def lk (z : α) (L : List (Nat × Nat × α)) (i j : Nat) : α := ((L.find? fun t => t.1 == i && t.2.1 == j).map fun t => t.2.2).getD z
def mapK (z : α) (L : List (Nat × Nat × α)) (i : Nat) : Value := spk (L.getD i (0, 0, z))
def mapE (f : α → Dat) (z : α) (L : List (Nat × Nat × α)) (i : Nat) : Dat := f (L.getD i (0, 0, z)).2.2
def MD (f : α → Dat) (z : α) (L : List (Nat × Nat × α)) : Dat := .mp L.length (mapK z L) (mapE f z L)
def ownMD (f : α → Dat) (z : α) (v : Value) (L : List (Nat × Nat × α)) : Own := ownM v L.length (mapK z L) (mapE f z L)
theorem mapK_key {P : Program} {k : TypeId} [TSpot P k] {z : α} {L : List (Nat × Nat × α)} (h : In64 L) (i : Nat) (hi : i < L.length) : isKey P k (mapK z L i) := by
  have hm : L.getD i (0, 0, z) ∈ L := by rw [List.getD_eq_getElem?_getD, List.getElem?_eq_getElem hi]; exact List.getElem_mem hi
  have := h _ hm
  exact spot_key ⟨by omega, by omega⟩ ⟨by omega, by omega⟩
theorem mapK_eq {z : α} {L : List (Nat × Nat × α)} {i a b : Nat} (h : mapK z L i = spot (a : Nat) (b : Nat)) : (L.getD i (0, 0, z)).1 = a ∧ (L.getD i (0, 0, z)).2.1 = b := by
  have := spot_inj h
  omega
theorem lk_some {z : α} {L : List (Nat × Nat × α)} {i j : Nat} : (∃ n, n < L.length ∧ mapK z L n = spot (i : Nat) (j : Nat) ∧ lk z L i j = (L.getD n (0, 0, z)).2.2) ∨ ((∀ n, n < L.length → mapK z L n ≠ spot (i : Nat) (j : Nat)) ∧ lk z L i j = z) := by
  unfold lk
  cases hf : L.find? fun t => t.1 == i && t.2.1 == j with
  | none =>
    refine .inr ⟨fun n hn e => ?_, rfl⟩
    obtain ⟨e1, e2⟩ := mapK_eq e
    have hm : L.getD n (0, 0, z) ∈ L := by rw [List.getD_eq_getElem?_getD, List.getElem?_eq_getElem hn]; exact List.getElem_mem hn
    have := List.find?_eq_none.1 hf _ hm
    rw [e1, e2] at this
    simp at this
  | some t =>
    have h1 := List.find?_some hf
    obtain ⟨n, hn, e⟩ := List.mem_iff_getElem.1 (List.mem_of_find?_eq_some hf)
    have hg : L.getD n (0, 0, z) = t := by rw [List.getD_eq_getElem?_getD, List.getElem?_eq_getElem hn]; exact e
    simp only [Bool.and_eq_true, beq_iff_eq] at h1
    refine .inl ⟨n, hn, ?_, by rw [hg]; rfl⟩
    unfold mapK
    rw [hg]
    unfold spk
    rw [h1.1, h1.2]
theorem Nd.one {z : α} {L : List (Nat × Nat × α)} (h : Nd L) {m n : Nat} (hm : m < L.length) (hn : n < L.length) (e : mapK z L m = mapK z L n) : m = n := by
  have := spot_inj e
  simp only [List.getD_eq_getElem?_getD, List.getElem?_eq_getElem hm, List.getElem?_eq_getElem hn, Option.getD_some] at this
  have e1 : L[m].1 = L[n].1 ∧ L[m].2.1 = L[n].2.1 := by omega
  rcases Nat.lt_trichotomy m n with hlt | rfl | hgt
  · exact absurd e1 (List.pairwise_iff_getElem.1 h m n hm hn hlt)
  · rfl
  · exact absurd ⟨e1.1.symm, e1.2.symm⟩ (List.pairwise_iff_getElem.1 h n m hn hm hgt)
theorem get_L {P : Program} {t k e : TypeId} [ht : TMap P t k e] [TSpot P k] {f : α → Dat} {z : α} [hz : TZeroV P e (f z)] {v : Value} {L : List (Nat × Nat × α)} {i j : Nat} {os : List Own} {fs : List Fact} {K : Cont} (hm : (v, MD f z L) ∈ fs)
    (hL : In64 L) (hn : Nd L) (hi : i < 1073741824) (hj : j < 1073741824) (kk : ∀ u, K u os ((u, f (lk z L i j)) :: fs)) : MapGetK P t v (spot (i : Nat) (j : Nat)) false os fs K := by
  have hkey : isKey P k (spot (i : Nat) (j : Nat)) := spot_key ⟨by omega, by omega⟩ ⟨by omega, by omega⟩
  rcases lk_some (z := z) (L := L) (i := i) (j := j) with ⟨n, h1, h2, h3⟩ | ⟨h1, h2⟩
  · refine map_get hm (mapK_key hL) hkey n h1 h2 (fun m hm e => hn.one hm h1 (e.trans h2.symm)) fun u => ?_
    have := kk u
    rw [h3] at this; exact this
  · refine map_none hm (mapK_key hL) hkey h1 fun u => ?_
    have := kk u
    rw [h2] at this; exact this
theorem get_own_L {P : Program} {t k e : TypeId} [ht : TMap P t k e] [TSpot P k] {f : α → Dat} {z : α} [hz : TZeroV P e (f z)] {v : Value} {L : List (Nat × Nat × α)} {i j : Nat} {os : List Own} {fs : List Fact} {K : Cont} (pos : Nat) (h : nthOwn os pos = some (ownMD f z v L))
    (hv : ∃ r, v = .map (some r)) (hL : In64 L) (hn : Nd L) (hi : i < 1073741824) (hj : j < 1073741824) (kk : ∀ u, K u os ((u, f (lk z L i j)) :: fs)) : MapGetK P t v (spot (i : Nat) (j : Nat)) false os fs K := by
  have hkey : isKey P k (spot (i : Nat) (j : Nat)) := spot_key ⟨by omega, by omega⟩ ⟨by omega, by omega⟩
  refine ⟨fun G w hw => ?_⟩
  obtain ⟨r, rfl⟩ := hv
  rcases hw.own _ (nthOwn_mem h) 0 Nat.zero_lt_one with ⟨h1, _⟩ | ⟨_, _, h1, _⟩ | ⟨_, h1, _⟩ | ⟨_, _, n', k', d', he, ⟨r', es, clock, h1, h2, h3, h4, h5, h6⟩ | ⟨_, _, _, _, _, _, _, h1, _⟩⟩
  · simp [ownMD, ownM, own1] at h1
  · simp [ownMD, ownM, own1] at h1
  · simp [ownMD, ownM, own1] at h1
  · simp only [ownMD, ownM, own1, Value.map.injEq, Option.some.injEq] at h1
    subst h1
    simp only [ownMD, ownM, own1, Dat.mp.injEq] at he
    obtain ⟨rfl, rfl, rfl⟩ := he
    obtain ⟨l, hl⟩ := hkey
    have hks := mapK_key (P := P) (k := k) (z := z) hL
    have hbr : r < w.heap.size := (Array.getElem?_eq_some_iff.1 h3).1
    rcases lk_some (z := z) (L := L) (i := i) (j := j) with ⟨n, g1, g2, g3⟩ | ⟨g1, g2⟩
    · obtain ⟨u, u1, u2, cs, u3, u4⟩ := h6.2 n g1
      rw [g3] at kk
      refine ⟨u.val, _, fun w' hb => val_run ?_, kk _, hw.put ⟨cs, u3, u4⟩⟩
      have h3' : w'.heap[r]? = some (.map es clock) := (hb.block r hbr).trans h3
      have hfind : (Instr.findKey k (spot (i : Nat) (j : Nat)) es.toList).run P w' = .ok (some (n, u.val)) w' := by
        rcases ht.keyed.find w' hl es.toList (h6.keys hks) with ⟨_, q2⟩ | ⟨j', e0, q1, q2, q3⟩
        · exact absurd (u2.trans g2) (q2 u (List.mem_of_getElem? (by simpa using u1)))
        · obtain ⟨p1, p2, _⟩ := h6.get q2
          obtain rfl := hn.one (z := z) p1 g1 ((p2.symm.trans q3).trans g2.symm)
          have : es[j']? = some e0 := by simpa using q2
          rw [u1] at this
          obtain rfl := Option.some.inj this
          exact q1
      simp [Instr.lookup, run_underlying ht.und, MapKept.run_getObj_map h3', ht.keyed.check w' _ hl, hfind, Result.andThen]
    · obtain ⟨i0, zv, z1, z2, z3⟩ := hz.zero
      rw [g2] at kk
      refine ⟨zv, _, fun w' hb => val_run ?_, kk _, hw.put (z3 _ _)⟩
      have h3' : w'.heap[r]? = some (.map es clock) := (hb.block r hbr).trans h3
      have hfind : (Instr.findKey k (spot (i : Nat) (j : Nat)) es.toList).run P w' = .ok none w' := by
        rcases ht.keyed.find w' hl es.toList (h6.keys hks) with ⟨q1, _⟩ | ⟨j', e0, q1, q2, q3⟩
        · exact q1
        · obtain ⟨p1, p2, _⟩ := h6.get q2
          exact absurd (p2.symm.trans q3) (g1 j' p1)
      simp [Instr.lookup, run_underlying ht.und, MapKept.run_getObj_map h3', ht.keyed.check w' _ hl, hfind, Result.andThen, zeroValue, typeInfo, z1, z2]
  · simp [ownMD, ownM, own1] at h1
theorem mpu_K {z : α} (L : List (Nat × Nat × α)) (t : Nat × Nat × α) : mpu L.length (spk t) (mapK z L) = mapK z (L ++ [t]) := by
  funext i
  unfold mpu mapK
  by_cases h : i = L.length
  · subst h; simp [List.getD_eq_getElem?_getD]
  · rw [if_neg h]
    simp only [List.getD_eq_getElem?_getD]
    by_cases h2 : i < L.length
    · rw [List.getElem?_append_left h2]
    · rw [List.getElem?_eq_none (by omega), List.getElem?_eq_none (by simp; omega)]
theorem mpu_E {f : α → Dat} {z : α} (L : List (Nat × Nat × α)) (t : Nat × Nat × α) : mpu L.length (f t.2.2) (mapE f z L) = mapE f z (L ++ [t]) := by
  funext i
  unfold mpu mapE
  by_cases h : i = L.length
  · subst h; simp [List.getD_eq_getElem?_getD]
  · rw [if_neg h]
    simp only [List.getD_eq_getElem?_getD]
    by_cases h2 : i < L.length
    · rw [List.getElem?_append_left h2]
    · rw [List.getElem?_eq_none (by omega), List.getElem?_eq_none (by simp; omega)]
theorem set_K {z : α} {L : List (Nat × Nat × α)} {n : Nat} (hn : n < L.length) (a : α) : mapK z (L.set n ((L.getD n (0, 0, z)).1, (L.getD n (0, 0, z)).2.1, a)) = mapK z L := by
  funext i
  unfold mapK
  simp only [List.getD_eq_getElem?_getD, List.getElem?_set]
  by_cases h : n = i
  · subst h; simp [hn, spk]
  · simp [h]
theorem set_E {f : α → Dat} {z : α} {L : List (Nat × Nat × α)} {n : Nat} (hn : n < L.length) (a : α) : mapE f z (L.set n ((L.getD n (0, 0, z)).1, (L.getD n (0, 0, z)).2.1, a)) = mpu n (f a) (mapE f z L) := by
  funext i
  unfold mapE mpu
  simp only [List.getD_eq_getElem?_getD, List.getElem?_set]
  by_cases h : n = i
  · subst h; simp [hn]
  · simp [h, Ne.symm h]
theorem skip_K {z : α} {L : List (Nat × Nat × α)} (j : Nat) : skip j (mapK z L) = mapK z (L.eraseIdx j) := by
  funext i
  unfold skip mapK
  simp only [List.getD_eq_getElem?_getD, List.getElem?_eraseIdx]
  split <;> rfl
theorem skip_E {f : α → Dat} {z : α} {L : List (Nat × Nat × α)} (j : Nat) : skip j (mapE f z L) = mapE f z (L.eraseIdx j) := by
  funext i
  unfold skip mapE
  simp only [List.getD_eq_getElem?_getD, List.getElem?_eraseIdx]
  split <;> rfl
/-- A map's content with one entry mpu in. -/
def mput (L : List (Nat × Nat × α)) (i j : Nat) (a : α) : List (Nat × Nat × α) :=
  match L.findIdx? fun t => t.1 == i && t.2.1 == j with
  | some n => L.set n (i, j, a)
  | none => L ++ [(i, j, a)]
theorem put_L {P : Program} {t k e : TypeId} [ht : TMap P t k e] [TSpot P k] {f : α → Dat} {z : α} {v x : Value} {L : List (Nat × Nat × α)} {i j : Nat} (a : α) {os : List Own} {fs : List Fact} {K : Cont} (pos : Nat) (h : nthOwn os pos = some (ownMD f z v L))
    (hv : ∃ r, v = .map (some r)) (hL : In64 L) (hnd : Nd L) (hi : i < 1073741824) (hj : j < 1073741824) (hn : L.length < maxLen) (hx : Knw os fs x (f a))
    (kk : K undef (setOwn os pos (ownMD f z v (mput L i j a))) fs) : MapPutK P t v (spot (i : Nat) (j : Nat)) x os fs K := by
  have hkey : isKey P k (spot (i : Nat) (j : Nat)) := spot_key ⟨by omega, by omega⟩ ⟨by omega, by omega⟩
  unfold mput at kk
  cases hf : L.findIdx? fun t => t.1 == i && t.2.1 == j with
  | none =>
    rw [hf] at kk
    refine map_new pos h hv (mapK_key hL) hkey (fun n hn e => ?_) hn hx ?_
    · obtain ⟨e1, e2⟩ := mapK_eq e
      have hm : L.getD n (0, 0, z) ∈ L := by rw [List.getD_eq_getElem?_getD, List.getElem?_eq_getElem hn]; exact List.getElem_mem hn
      have := List.findIdx?_eq_none_iff.1 hf _ hm
      rw [e1, e2] at this
      simp at this
    · have e1 := mpu_K (z := z) L (i, j, a)
      have e2 := mpu_E (f := f) (z := z) L (i, j, a)
      simp only at e2
      show K undef (setOwn os pos (ownM v (L.length + 1) (mpu L.length (spk (i, j, a)) (mapK z L)) (mpu L.length (f a) (mapE f z L)))) fs
      rw [e1, e2]
      simp only [ownMD, List.length_append, List.length_cons, List.length_nil] at kk
      exact kk
  | some n =>
    rw [hf] at kk
    obtain ⟨hnl, h1, _⟩ := List.findIdx?_eq_some_iff_getElem.1 hf
    simp only [Bool.and_eq_true, beq_iff_eq] at h1
    have hg : L.getD n (0, 0, z) = L[n] := by rw [List.getD_eq_getElem?_getD, List.getElem?_eq_getElem hnl]; rfl
    have hk : mapK z L n = spot (i : Nat) (j : Nat) := by unfold mapK spk; rw [hg, h1.1, h1.2]
    refine map_set pos h hv (mapK_key hL) hkey n hnl hk (fun m hm e => hnd.one hm hnl (e.trans hk.symm)) hx ?_
    have e1 := set_K (z := z) hnl a
    have e2 := set_E (f := f) (z := z) hnl a
    rw [hg, h1.1, h1.2] at e1 e2
    simp only [ownMD, List.length_set, e1, e2] at kk
    exact kk
def ownWD (f : α → Dat) (z : α) (p : Value) (L : List (Nat × Nat × α)) (c : Value) : Own := ownW p L.length (mapK z L) (mapE f z L) c
theorem make_L {P : Program} {t : TypeId} (f : α → Dat) (z : α) {os : List Own} {fs : List Fact} {K : Cont} (k : ∀ v, (∃ r, v = .map (some r)) → K v (ownMD f z v [] :: os) fs) : MapMakeK P t os fs K :=
  map_make (mapK z []) (mapE f z []) k
theorem range_L {P : Program} {t k e : TypeId} [ht : TMap P t k e] {f : α → Dat} {z : α} {v : Value} {L : List (Nat × Nat × α)} {os : List Own} {fs : List Fact} {K : Cont} (hm : (v, MD f z L) ∈ fs)
    (kk : ∀ p, isBox p → K p (ownWD f z p L (.bool false) :: os) fs) : RangeK P t v os fs K := map_range hm kk
theorem next_L {P : Program} {p : Value} {ty : TypeId} {f : α → Dat} {z : α} {L : List (Nat × Nat × α)} {c : Value} {os : List Own} {fs : List Fact} {K : Cont} (pos : Nat) (h : nthOwn os pos = some (ownWD f z p L c)) (hp : isBox p)
    (h0 : L = [] → K (.tuple #[.bool false]) os fs)
    (h1 : ∀ n i j a x, n < L.length → L[n]? = some (i, j, a) → K (.tuple #[.bool true, spot (i : Nat) (j : Nat), x]) (setOwn os pos (ownWD f z p (L.eraseIdx n) (.tuple #[spot (i : Nat) (j : Nat), x]))) ((x, f a) :: fs)) : NextK P p false ty os fs K := by
  refine walk_next pos h hp (fun e => h0 (List.eq_nil_of_length_eq_zero e)) fun n x hn => ?_
  obtain ⟨⟨i, j, a⟩, hg⟩ : ∃ t, L[n]? = some t := ⟨_, List.getElem?_eq_getElem hn⟩
  have hg' : L.getD n (0, 0, z) = (i, j, a) := by rw [List.getD_eq_getElem?_getD, hg]; rfl
  have := h1 n i j a x hn hg
  unfold ownWD at this
  rw [List.length_eraseIdx, if_pos hn, ← skip_K, ← skip_E] at this
  unfold mapK mapE spk at this ⊢
  rw [hg']
  exact this
theorem Seals.mapL {f : α → Dat} {z : α} {os : List Own} {fs : List Fact} (pos : Nat) {v : Value} {L : List (Nat × Nat × α)} (h : nthOwn os pos = some (ownMD f z v L)) (hv : ∃ r, v = .map (some r)) :
    Seals os fs (dropOwn os pos) ((v, MD f z L) :: fs) := Seals.map pos h hv
end
end Go.Proofs.Ytfkeohlpcjpkbaa

namespace Go.Proofs.Ytfkeohlpcjpkbaa
open Go.RowKit
theorem index_wd {P : Program} {t e : TypeId} {v : Value} {m : List (List Int)} {k : IntKind} {i : Int} {os : List Own} {fs : List Fact} {K : Cont} [ht : TSl P t e 1] (hm : (v, wd m) ∈ fs) (j : Nat) (hj : i = (j : Int)) (hlt : j < m.length)
    (k' : ∀ p, K p os ((p, .ptr (vd (m.getD j []))) :: fs)) : IndexAddrK P t v (.int k i) os fs K :=
  index_fact hm j hj (by rw [List.length_map]; exact hlt) fun p => by
    have := k' p
    unfold vd at this
    rwa [← get_cn] at this
theorem index_vd {P : Program} {t e : TypeId} {v : Value} {l : List Int} {k : IntKind} {i : Int} {os : List Own} {fs : List Fact} {K : Cont} [ht : TSl P t e 2] (hm : (v, vd l) ∈ fs) (j : Nat) (hj : i = (j : Int)) (hlt : j < l.length)
    (k' : ∀ p, K p os ((p, .ptr (zd (l.getD j 0))) :: fs)) : IndexAddrK P t v (.int k i) os fs K :=
  index_fact hm j hj (by rw [List.length_map]; exact hlt) fun p => by
    have := k' p
    rw [map_cn_get hlt]; exact this
theorem len_wd {P : Program} {t e ty : TypeId} {v : Value} {m : List (List Int)} {os : List Own} {fs : List Fact} {K : Cont} [ht : TSl P t e 1] (hm : (v, wd m) ∈ fs) (k : K (.int .i64 m.length) os fs) : LenK P [t] ty v os fs K :=
  len_fact hm fun _ => by rw [List.length_map]; exact k
theorem len_vd {P : Program} {t e ty : TypeId} {v : Value} {l : List Int} {os : List Own} {fs : List Fact} {K : Cont} [ht : TSl P t e 2] (hm : (v, vd l) ∈ fs) (k : K (.int .i64 l.length) os fs) : LenK P [t] ty v os fs K :=
  len_fact hm fun _ => by rw [List.length_map]; exact k
theorem rSignZ (v : Value) (x : Int) (e : Nat) (hx : sz x e) (he : e ≤ 1099511627776) :
    Meets Try.prog 32 [v] [(v, zd x)] (fun r os fs => os = [] ∧ fs = [] ∧ r = .int .i64 x.sign) := by
  have h := rSign_meets v (decide (x < 0)) (lims x.natAbs) (Lim_lims _) (Nat.le_trans hx.len he)
  rw [iv_zd] at h
  exact h
end Go.Proofs.Ytfkeohlpcjpkbaa

namespace Go.Proofs.Ytfkeohlpcjpkbaa
/-- The value at x. -/
def pev : List Int → Int → Int
  | [], _ => 0
  | c :: l, x => c + x * pev l x
/-- Without noughts on top. -/
def nrm : List Int → List Int
  | [] => []
  | c :: l => match nrm l with
    | [] => if c = 0 then [] else [c]
    | d :: m => c :: d :: m
theorem nrm_cons (c : Int) (l : List Int) : nrm (c :: l) = if nrm l = [] ∧ c = 0 then [] else c :: nrm l := by
  rw [nrm]
  cases h : nrm l with
  | nil => by_cases hc : c = 0 <;> simp [hc]
  | cons d m => simp
theorem nrm_nrm (l : List Int) : nrm (nrm l) = nrm l := by
  induction l with
  | nil => rfl
  | cons c l ih =>
    rw [nrm_cons]
    by_cases h : nrm l = [] ∧ c = 0
    · rw [if_pos h]; rfl
    · rw [if_neg h, nrm_cons, ih, if_neg h]
theorem ev_nrm (l : List Int) (x : Int) : pev (nrm l) x = pev l x := by
  induction l with
  | nil => rfl
  | cons c l ih =>
    rw [nrm_cons]
    by_cases h : nrm l = [] ∧ c = 0
    · rw [if_pos h, h.2]
      rw [h.1] at ih
      simp only [pev] at ih ⊢
      rw [← ih]; simp
    · rw [if_neg h]; simp only [pev]; rw [ih]
theorem co_nrm (l : List Int) (i : Nat) : (nrm l).getD i 0 = l.getD i 0 := by
  induction l generalizing i with
  | nil => rfl
  | cons c l ih =>
    rw [nrm_cons]
    by_cases h : nrm l = [] ∧ c = 0
    · rw [if_pos h]
      cases i with
      | zero => simp [h.2]
      | succ i => rw [List.getD_cons_succ, ← ih i, h.1]; simp
    · rw [if_neg h]
      cases i with
      | zero => rfl
      | succ i => rw [List.getD_cons_succ, List.getD_cons_succ, ih]
theorem nrm_length_le (l : List Int) : (nrm l).length ≤ l.length := by
  induction l with
  | nil => exact Nat.le_refl _
  | cons c l ih =>
    rw [nrm_cons]
    split
    · simp
    · simp only [List.length_cons]; omega
/-- The last number is not a nought. -/
theorem nrm_last (l : List Int) (h : 0 < (nrm l).length) : (nrm l).getD ((nrm l).length - 1) 0 ≠ 0 := by
  induction l with
  | nil => simp [nrm] at h
  | cons c l ih =>
    rw [nrm_cons] at h ⊢
    by_cases hc : nrm l = [] ∧ c = 0
    · rw [if_pos hc] at h; simp at h
    · rw [if_neg hc] at h ⊢
      cases e : nrm l with
      | nil =>
        have : c ≠ 0 := fun h0 => hc ⟨e, h0⟩
        simpa using this
      | cons d m =>
        have := ih (by rw [e]; simp)
        rw [e] at this
        simpa using this
theorem nrm_of_last {l : List Int} (h : l = [] ∨ l.getD (l.length - 1) 0 ≠ 0) : nrm l = l := by
  induction l with
  | nil => rfl
  | cons c l ih =>
    rcases h with h | h
    · simp at h
    · rw [nrm_cons]
      cases l with
      | nil =>
        have : c ≠ 0 := by simpa using h
        simp [nrm, this]
      | cons d m =>
        have h' : (d :: m).getD ((d :: m).length - 1) 0 ≠ 0 := by simpa using h
        rw [ih (.inr h')]
        simp
/-- Lists of the same numbers, but for noughts on top. -/
theorem nrm_ext : ∀ {l m : List Int}, (∀ i, l.getD i 0 = m.getD i 0) → nrm l = nrm m
  | [], [], _ => rfl
  | [], d :: m, h => by
    have h0 : d = 0 := by have := h 0; simpa using this.symm
    have h1 := nrm_ext (l := []) (m := m) fun i => by have := h (i + 1); simpa using this
    rw [nrm_cons, ← h1, if_pos ⟨rfl, h0⟩]; rfl
  | c :: l, [], h => by
    have h0 : c = 0 := by have := h 0; simpa using this
    have h1 := nrm_ext (l := l) (m := []) fun i => by have := h (i + 1); simpa using this
    rw [nrm_cons, h1, if_pos ⟨rfl, h0⟩]; rfl
  | c :: l, d :: m, h => by
    have h0 : c = d := by have := h 0; simpa using this
    have h1 := nrm_ext (l := l) (m := m) fun i => by have := h (i + 1); simpa using this
    rw [nrm_cons, nrm_cons, h1, h0]
theorem small_dvd {c k x : Int} (h : c = x * k) (hx : c.natAbs < x.natAbs) : c = 0 := by
  by_cases hk : k = 0
  · rw [h, hk, Int.mul_zero]
  · exfalso
    have h1 : c.natAbs = x.natAbs * k.natAbs := by rw [h, Int.natAbs_mul]
    have h2 : 1 ≤ k.natAbs := by omega
    have h3 : x.natAbs * 1 ≤ x.natAbs * k.natAbs := Nat.mul_le_mul_left _ h2
    omega
/-- Polynomials that have one value at all great numbers are one. -/
theorem ev_ext_great : ∀ {l m : List Int} (N : Nat), (∀ x : Int, (N : Int) ≤ x → pev l x = pev m x) → nrm l = nrm m
  | [], [], _, _ => rfl
  | [], d :: m, N, h => by
    have h0 : d = 0 := by
      have := h (N + d.natAbs + 1) (by omega)
      simp only [pev] at this
      refine small_dvd (x := (N : Int) + d.natAbs + 1) (k := - pev m ((N : Int) + d.natAbs + 1)) ?_ (by omega)
      rw [Int.mul_neg]; omega
    have h1 := ev_ext_great (l := []) (m := m) (N + 1) fun x hx => by
      have := h x (by omega)
      simp only [pev, h0] at this ⊢
      have : x * pev m x = 0 := by omega
      rcases Int.mul_eq_zero.1 this with h2 | h2
      · omega
      · exact h2.symm
    rw [nrm_cons, ← h1, if_pos ⟨rfl, h0⟩]; rfl
  | c :: l, [], N, h => by
    have h0 : c = 0 := by
      have := h (N + c.natAbs + 1) (by omega)
      simp only [pev] at this
      refine small_dvd (x := (N : Int) + c.natAbs + 1) (k := - pev l ((N : Int) + c.natAbs + 1)) ?_ (by omega)
      rw [Int.mul_neg]; omega
    have h1 := ev_ext_great (l := l) (m := []) (N + 1) fun x hx => by
      have := h x (by omega)
      simp only [pev, h0] at this ⊢
      have : x * pev l x = 0 := by omega
      rcases Int.mul_eq_zero.1 this with h2 | h2
      · omega
      · exact h2
    rw [nrm_cons, h1, if_pos ⟨rfl, h0⟩]; rfl
  | c :: l, d :: m, N, h => by
    have h0 : c - d = 0 := by
      have := h (N + (c - d).natAbs + 1) (by omega)
      simp only [pev] at this
      refine small_dvd (x := (N : Int) + (c - d).natAbs + 1) (k := pev m ((N : Int) + (c - d).natAbs + 1) - pev l ((N : Int) + (c - d).natAbs + 1)) ?_ (by omega)
      rw [Int.mul_sub]; omega
    have h1 := ev_ext_great (l := l) (m := m) (N + 1) fun x hx => by
      have := h x (by omega)
      simp only [pev] at this
      have h2 : x * (pev l x - pev m x) = 0 := by rw [Int.mul_sub]; omega
      rcases Int.mul_eq_zero.1 h2 with h3 | h3 <;> omega
    rw [nrm_cons, nrm_cons, h1, show c = d by omega]
theorem ev_ext {l m : List Int} (h : ∀ x, pev l x = pev m x) : nrm l = nrm m := ev_ext_great 0 fun x _ => h x
theorem ev_of_nrm {l m : List Int} (h : nrm l = nrm m) (x : Int) : pev l x = pev m x := by rw [← ev_nrm l, h, ev_nrm]
theorem ev_append (l m : List Int) (x : Int) : pev (l ++ m) x = pev l x + x ^ l.length * pev m x := by
  induction l with
  | nil => simp [pev]
  | cons c l ih => simp only [List.cons_append, pev, ih, List.length_cons, Int.pow_succ]; grind
theorem ev_map_mul (c : Int) (l : List Int) (x : Int) : pev (l.map fun y => c * y) x = c * pev l x := by
  induction l with
  | nil => simp [pev]
  | cons d l ih => simp only [List.map_cons, pev, ih]; grind
theorem ev_replicate (n : Nat) (x : Int) : pev (List.replicate n 0) x = 0 := by
  induction n with
  | zero => rfl
  | succ n ih => rw [List.replicate_succ, pev, ih]; simp
theorem ev_take_succ {l : List Int} {i : Nat} (h : i < l.length) (x : Int) : pev (l.take (i + 1)) x = pev (l.take i) x + x ^ i * l.getD i 0 := by
  have e : l.take (i + 1) = l.take i ++ [l.getD i 0] := by rw [List.take_add_one]; simp [List.getD_eq_getElem?_getD, h]
  rw [e, ev_append, List.length_take, Nat.min_eq_left (Nat.le_of_lt h)]
  simp [pev]
/-- The degree is less than n. -/
theorem ev_getD {l : List Int} {n : Nat} (h : l.length ≤ n) (x : Int) : pev ((List.range n).map fun i => l.getD i 0) x = pev l x := by
  have : nrm ((List.range n).map fun i => l.getD i 0) = nrm l := nrm_ext fun i => by
    by_cases hi : i < n
    · simp [List.getD_eq_getElem?_getD, hi]
    · have : l.length ≤ i := by omega
      simp [List.getD_eq_getElem?_getD, hi, this]
  exact ev_of_nrm this x
end Go.Proofs.Ytfkeohlpcjpkbaa

namespace Go.Proofs.Ytfkeohlpcjpkbaa
open Go.RowKit
/-- An answer that is looked at in another way. -/
theorem Meets.closed {P : Program} {g : FuncId} {args : List Value} {fs : List Fact} {R R' : Value → List Own → List Fact → Prop} (h : Meets P g args fs R)
    (hr : ∀ v os fs, R v os fs → ∃ os' fs', R' v os' fs' ∧ Seals os fs os' fs') : Meets P g args fs R' := by
  refine ⟨h.enter, fun A w hA hf => (h.calls A w hA hf).mono ?_⟩
  rintro e w' ⟨v, os', fs', he, hv, hh⟩
  obtain ⟨os2, fs2, h2, hs⟩ := hr v os' fs' hv
  exact ⟨v, os2, fs2, he, h2, hs _ _ hh⟩
theorem nrm_take {l : List Int} {n : Nat} (hn : n ≤ l.length) (hz : ∀ j, n ≤ j → l.getD j 0 = 0) (h : n = 0 ∨ l.getD (n - 1) 0 ≠ 0) : nrm l = l.take n := by
  have e : nrm l = nrm (l.take n) := nrm_ext fun i => by
    by_cases hi : i < n
    · simp [List.getD_eq_getElem?_getD, List.getElem?_take_of_lt hi]
    · rw [hz i (by omega)]
      have : (l.take n).length ≤ i := by rw [List.length_take]; omega
      rw [List.getD_eq_getElem?_getD, List.getElem?_eq_none this]; rfl
  rw [e]
  refine nrm_of_last ?_
  have hl : (l.take n).length = n := by rw [List.length_take]; omega
  rcases h with h | h
  · left; rw [h]; rfl
  · by_cases h0 : n = 0
    · left; rw [h0]; rfl
    · right
      rw [hl]
      simpa [List.getD_eq_getElem?_getD, List.getElem?_take_of_lt (show n - 1 < n by omega)] using h
theorem take_range (l : List Int) {n : Nat} (h : n ≤ l.length) : l.take n = (List.range n).map fun i => l.getD i 0 := by
  refine ext_getD' (by rw [List.length_take]; simp; omega) fun i hi => ?_
  rw [List.length_take] at hi
  have : i < n := by omega
  simp [List.getD_eq_getElem?_getD, List.getElem?_take_of_lt this, this]
where
  ext_getD' {l m : List Int} (hl : l.length = m.length) (h : ∀ i, i < l.length → l.getD i 0 = m.getD i 0) : l = m := row_eq_of_getD 0 hl h
/-- A told list of one's own becomes a fact. -/
theorem Seals.told {v : Value} {n : Nat} {g : Nat → Int} {e : Nat → Dat} {os : List Own} {fs : List Fact} (hv : isSl v) (he : ∀ i, i < n → e i = zd (g i)) :
    Seals (own1 v 2 n e :: os) fs os ((v, vd ((List.range n).map g)) :: fs) :=
  Seals.trans (Seals.slice (os := own1 v 2 n e :: os) 0 (fun i => J ((((List.range n).map g).map cn).getD i z0)) rfl hv fun i hi => by rw [he i hi, range_cn g hi]; rfl)
    (Seals.cons (Knw.vd_of (Knw.fact (List.Mem.head _))) (Seals.sub fun _ hF => .tail _ hF))
theorem Seals.toldL {v : Value} {l : List Int} {os : List Own} {fs : List Fact} (hv : isSl v) : Seals (ownL 2 J z0 v (l.map cn) :: os) fs os ((v, vd l) :: fs) := Seals.L (os := ownL 2 J z0 v (l.map cn) :: os) 0 rfl hv
theorem own_range {v : Value} {n : Nat} {g : Nat → Int} {e : Nat → Dat} {os : List Own} {fs : List Fact} (he : ∀ i, i < n → e i = zd (g i)) :
    Seals (own1 v 2 n e :: os) fs (ownL 2 J z0 v (((List.range n).map g).map cn) :: os) fs := by
  have h := Seals.own_cong (os := own1 v 2 n e :: os) (fs := fs) 0 (n' := (((List.range n).map g).map cn).length) (fun i => J ((((List.range n).map g).map cn).getD i z0)) rfl (by simp) fun i hi => by rw [he i hi, range_cn g hi]; rfl
  exact h
theorem zero_zd : I false [] = zd 0 := zd_zero.symm
theorem upd_if {g : Nat → Int} {i : Nat} (y : Nat) : upd (fun y => if y < i then zd (g y) else I false []) i (zd (g i)) y = if y < i + 1 then zd (g y) else I false [] := by
  unfold upd
  by_cases hy : y = i
  · subst hy
    rw [if_pos rfl, if_pos (by omega)]
  · by_cases hy2 : y < i
    · rw [if_neg hy, if_pos (show y < i + 1 by omega)]; exact if_pos hy2
    · rw [if_neg hy, if_neg (show ¬ y < i + 1 by omega)]; exact if_neg hy2
theorem pNormO_meets (v : Value) (p : Row) (hp : Fit 137438953472 p) (lp : p.length ≤ 1099511627776) :
    Meets Try.prog 48 [v] [(v, V p)] (fun r os fs => isSl r ∧ os = [ownL 2 J z0 r ((nrm (vv p)).map cn)] ∧ fs = []) := by
  refine meets_of_vc Try.func48 (by kernel_rfl) rfl (by kernel_rfl) (Nat.le_of_ble_eq_true rfl) ?_
  refine len_fact (by repeat (first | exact List.Mem.head _ | apply List.Mem.tail)) fun _ => ?_
  refine loop_rule (X := Nat) (fun n => ([(0, v), (3, .int .i64 (n : Nat))], [], [(v, V p)])) (fun n => n ≤ p.length ∧ ∀ j, n ≤ j → j < p.length → (vv p).getD j 0 = 0) (fun n => n) rfl ?_ ?_
  · exact again p.length ⟨Nat.le_refl _, fun j h1 h2 => by omega⟩ trivial (by repeat (first | exact trivial | refine ⟨rfl, ?_⟩ | refine ⟨i64_eq (by first | omega | (simp only; omega)), ?_⟩ | refine ⟨u64_eq (by first | omega | (simp only; omega)), ?_⟩)) (Seals.sub (by repeat (first | exact Sub.nil _ | refine Sub.cons (by repeat (first | exact List.Mem.head _ | apply List.Mem.tail)) ?_)))
  · rintro n ⟨h1, h2⟩
    have fin' : (n = 0 ∨ (vv p).getD (n - 1) 0 ≠ 0) → nrm (vv p) = (List.range n).map fun i => (vv p).getD i 0 := fun h => by
      rw [nrm_take (by rw [vv_len]; exact h1) (fun j hj => ?_) h, take_range _ (by rw [vv_len]; exact h1)]
      by_cases e : j < p.length
      · exact h2 j hj e
      · rw [List.getD_eq_getElem?_getD, List.getElem?_eq_none (by rw [vv_len]; omega)]; rfl
    refine cmp_split _ rfl (fun hn => ?_) (fun hn => ?_)
    · have hn' : n - 1 < p.length := by omega
      have hg := vv_get p (n - 1) hn'
      refine ar rfl (by first | exact ⟨by omega, by omega⟩ | (simp only [inK]; omega)) ?_
      refine index_fact (by repeat (first | exact List.Mem.head _ | apply List.Mem.tail)) (n - 1) (by omega) hn' fun a1 => ?_
      refine load_fact (d := J (p.getD (n - 1) z0)) (by repeat (first | exact List.Mem.head _ | apply List.Mem.tail)) (load_J _) fun x1 => ?_
      refine call_fn (zsign_meets x1 (p.getD (n - 1) z0).1 (p.getD (n - 1) z0).2 (hp.get _).1 (hp.get _).2) (Seals.refl _ _) (by repeat (first | exact Sub.nil _ | refine Sub.cons (by repeat (first | exact List.Mem.head _ | apply List.Mem.tail)) ?_)) ?_
      rintro _ _ _ ⟨rfl, rfl, rfl⟩
      refine cmp_split _ rfl (fun hz => ?_) (fun hz => ?_)
      · refine ar rfl (by first | exact ⟨by omega, by omega⟩ | (simp only [inK]; omega)) ?_
        refine again (n - 1) ⟨by omega, fun j h3 h4 => ?_⟩ (by simp only; omega) (by repeat (first | exact trivial | refine ⟨rfl, ?_⟩ | refine ⟨i64_eq (by first | omega | (simp only; omega)), ?_⟩ | refine ⟨u64_eq (by first | omega | (simp only; omega)), ?_⟩)) (Seals.sub (by repeat (first | exact Sub.nil _ | refine Sub.cons (by repeat (first | exact List.Mem.head _ | apply List.Mem.tail)) ?_)))
        by_cases e : j = n - 1
        · rw [e, hg]; exact Int.sign_eq_zero_iff_zero.1 hz
        · exact h2 j (by omega) h4
      · have hfin := fin' (.inr (by rw [hg]; exact fun e => hz (Int.sign_eq_zero_iff_zero.2 e)))
        refine make_rule (t := 28) (d := I false []) n rfl rfl (by omega) (by omega) fun u hu => ?_
        refine loop_rule (X := Nat) (fun i => ([(0, v), (3, .int .i64 (n : Nat)), (4, u), (23, .int .i64 (n : Nat)), (24, .int .i64 (i : Nat))], [own1 u 2 n (fun y => if y < i then zd ((vv p).getD y 0) else I false [])], [(v, V p)])) (fun i => i ≤ n) (fun i => n - i) rfl ?_ ?_
        · exact again 0 (Nat.zero_le _) trivial (by repeat (first | exact trivial | refine ⟨rfl, ?_⟩ | refine ⟨i64_eq (by first | omega | (simp only; omega)), ?_⟩ | refine ⟨u64_eq (by first | omega | (simp only; omega)), ?_⟩)) (Seals.trans (Seals.own_cong (os := [_]) 0 _ rfl rfl fun y _ => (if_neg (Nat.not_lt_zero _)).symm) (Seals.sub (by repeat (first | exact Sub.nil _ | refine Sub.cons (by repeat (first | exact List.Mem.head _ | apply List.Mem.tail)) ?_))))
        · rintro i hi
          refine cmp_split _ rfl (fun hlt => ?_) (fun hlt => ?_)
          · have hin : i < n := by omega
            have hpi := hp.get i
            have hgi := vv_get p i (by omega)
            refine index_fact (n := p.length) (by repeat (first | exact List.Mem.head _ | apply List.Mem.tail)) i rfl (by omega) fun b1 => ?_
            refine load_fact (d := J (p.getD i z0)) (by repeat (first | exact List.Mem.head _ | apply List.Mem.tail)) (load_J _) fun y1 => ?_
            have hnm := znorm_meets y1 (p.getD i z0).1 (p.getD i z0).2 hpi.1 (by omega)
            rw [show iv (p.getD i z0).1 (p.getD i z0).2 = (vv p).getD i 0 from hgi.symm] at hnm
            refine call_fn hnm (Seals.refl _ _) (by repeat (first | exact Sub.nil _ | refine Sub.cons (by repeat (first | exact List.Mem.head _ | apply List.Mem.tail)) ?_)) ?_
            rintro y2 _ _ ⟨rfl, rfl⟩
            refine index_elem 0 rfl hu i rfl hin ?_
            refine StoreK.post (store_elem (d := zd ((vv p).getD i 0)) 0 rfl i hin rfl (by kernel_rfl) (Reads.fact (by repeat (first | exact List.Mem.head _ | apply List.Mem.tail))) ⟨_, _, Seals.own_cong (os := [_]) 0 (fun y => if y < i + 1 then zd ((vv p).getD y 0) else I false []) rfl rfl (fun y _ => upd_if y), ?_⟩)
            refine ar rfl (by first | exact ⟨by omega, by omega⟩ | (simp only [inK]; omega)) ?_
            exact again (i + 1) (by omega) (by simp only; omega) (by repeat (first | exact trivial | refine ⟨rfl, ?_⟩ | refine ⟨i64_eq (by first | omega | (simp only; omega)), ?_⟩ | refine ⟨u64_eq (by first | omega | (simp only; omega)), ?_⟩)) (Seals.sub (by repeat (first | exact Sub.nil _ | refine Sub.cons (by repeat (first | exact List.Mem.head _ | apply List.Mem.tail)) ?_)))
          · refine fin ⟨hu, rfl, rfl⟩ (Seals.trans (own_range (g := fun i => (vv p).getD i 0) fun y hy => if_pos (by omega)) ?_)
            rw [hfin]
            exact Seals.nil _ _
    · have hfin := fin' (.inl (by omega))
      refine make_rule (t := 28) (d := I false []) n rfl rfl (by omega) (by omega) fun u hu => ?_
      refine loop_rule (X := Nat) (fun i => ([(0, v), (3, .int .i64 (n : Nat)), (4, u), (23, .int .i64 (n : Nat)), (24, .int .i64 (i : Nat))], [own1 u 2 n (fun y => if y < i then zd ((vv p).getD y 0) else I false [])], [(v, V p)])) (fun i => i ≤ n) (fun i => n - i) rfl ?_ ?_
      · exact again 0 (Nat.zero_le _) trivial (by repeat (first | exact trivial | refine ⟨rfl, ?_⟩ | refine ⟨i64_eq (by first | omega | (simp only; omega)), ?_⟩ | refine ⟨u64_eq (by first | omega | (simp only; omega)), ?_⟩)) (Seals.trans (Seals.own_cong (os := [_]) 0 _ rfl rfl fun y _ => (if_neg (Nat.not_lt_zero _)).symm) (Seals.sub (by repeat (first | exact Sub.nil _ | refine Sub.cons (by repeat (first | exact List.Mem.head _ | apply List.Mem.tail)) ?_))))
      · rintro i hi
        refine cmp_split _ rfl (fun hlt => ?_) (fun hlt => ?_)
        · have hin : i < n := by omega
          have hpi := hp.get i
          have hgi := vv_get p i (by omega)
          refine index_fact (n := p.length) (by repeat (first | exact List.Mem.head _ | apply List.Mem.tail)) i rfl (by omega) fun b1 => ?_
          refine load_fact (d := J (p.getD i z0)) (by repeat (first | exact List.Mem.head _ | apply List.Mem.tail)) (load_J _) fun y1 => ?_
          have hnm := znorm_meets y1 (p.getD i z0).1 (p.getD i z0).2 hpi.1 (by omega)
          rw [show iv (p.getD i z0).1 (p.getD i z0).2 = (vv p).getD i 0 from hgi.symm] at hnm
          refine call_fn hnm (Seals.refl _ _) (by repeat (first | exact Sub.nil _ | refine Sub.cons (by repeat (first | exact List.Mem.head _ | apply List.Mem.tail)) ?_)) ?_
          rintro y2 _ _ ⟨rfl, rfl⟩
          refine index_elem 0 rfl hu i rfl hin ?_
          refine StoreK.post (store_elem (d := zd ((vv p).getD i 0)) 0 rfl i hin rfl (by kernel_rfl) (Reads.fact (by repeat (first | exact List.Mem.head _ | apply List.Mem.tail))) ⟨_, _, Seals.own_cong (os := [_]) 0 (fun y => if y < i + 1 then zd ((vv p).getD y 0) else I false []) rfl rfl (fun y _ => upd_if y), ?_⟩)
          refine ar rfl (by first | exact ⟨by omega, by omega⟩ | (simp only [inK]; omega)) ?_
          exact again (i + 1) (by omega) (by simp only; omega) (by repeat (first | exact trivial | refine ⟨rfl, ?_⟩ | refine ⟨i64_eq (by first | omega | (simp only; omega)), ?_⟩ | refine ⟨u64_eq (by first | omega | (simp only; omega)), ?_⟩)) (Seals.sub (by repeat (first | exact Sub.nil _ | refine Sub.cons (by repeat (first | exact List.Mem.head _ | apply List.Mem.tail)) ?_)))
        · refine fin ⟨hu, rfl, rfl⟩ (Seals.trans (own_range (g := fun i => (vv p).getD i 0) fun y hy => if_pos (by omega)) ?_)
          rw [hfin]
          exact Seals.nil _ _
end Go.Proofs.Ytfkeohlpcjpkbaa

namespace Go.Proofs.Ytfkeohlpcjpkbaa
def Nm (l : List Int) : Prop := nrm l = l
theorem Nm.nil : Nm [] := rfl
theorem Nm.nrm (l : List Int) : Nm (nrm l) := nrm_nrm l
theorem Nm.ext {l m : List Int} (hl : Nm l) (hm : Nm m) (h : ∀ x, pev l x = pev m x) : l = m := by rw [← hl, ← hm]; exact ev_ext h
/-- The list of the first n values. -/
def lst (n : Nat) (f : Nat → Int) : List Int := (List.range n).map f
theorem lst_len (n : Nat) (f : Nat → Int) : (lst n f).length = n := by simp [lst]
theorem lst_get {n : Nat} {f : Nat → Int} {i : Nat} (h : i < n) : (lst n f).getD i 0 = f i := by simp [lst, List.getD_eq_getElem?_getD, h]
theorem lst_get' (n : Nat) (f : Nat → Int) (i : Nat) : (lst n f).getD i 0 = if i < n then f i else 0 := by
  by_cases h : i < n
  · rw [lst_get h, if_pos h]
  · rw [if_neg h, List.getD_eq_getElem?_getD, List.getElem?_eq_none (by rw [lst_len]; omega)]; rfl
theorem lst_congr {n : Nat} {f g : Nat → Int} (h : ∀ i, i < n → f i = g i) : lst n f = lst n g := List.map_congr_left fun i hi => h i (List.mem_range.1 hi)
theorem mem_lst {n : Nat} {f : Nat → Int} {x : Int} (h : x ∈ lst n f) : ∃ i, i < n ∧ x = f i := by
  obtain ⟨i, h1, h2⟩ := List.mem_map.1 h
  exact ⟨i, List.mem_range.1 h1, h2.symm⟩
theorem lst_succ (n : Nat) (f : Nat → Int) : lst (n + 1) f = f 0 :: lst n fun i => f (i + 1) := by
  simp [lst, List.range_succ_eq_map, Function.comp_def]
theorem getD_none {l : List Int} {i : Nat} (h : l.length ≤ i) : l.getD i 0 = 0 := by rw [List.getD_eq_getElem?_getD, List.getElem?_eq_none h]; rfl
theorem ev_lst_succ (n : Nat) (f : Nat → Int) (x : Int) : pev (lst (n + 1) f) x = f 0 + x * pev (lst n fun i => f (i + 1)) x := by rw [lst_succ]; rfl
theorem ev_lst_add (n : Nat) (f g : Nat → Int) (x : Int) : pev (lst n fun i => f i + g i) x = pev (lst n f) x + pev (lst n g) x := by
  induction n generalizing f g with
  | zero => rfl
  | succ n ih => rw [ev_lst_succ, ev_lst_succ, ev_lst_succ, ih]; grind
theorem ev_lst_mul (n : Nat) (c : Int) (f : Nat → Int) (x : Int) : pev (lst n fun i => c * f i) x = c * pev (lst n f) x := by
  induction n generalizing f with
  | zero => simp [lst, pev]
  | succ n ih => rw [ev_lst_succ, ev_lst_succ, ih]; grind
theorem ev_lst_zero (n : Nat) (x : Int) : pev (lst n fun _ => 0) x = 0 := by
  induction n with
  | zero => rfl
  | succ n ih => rw [ev_lst_succ, ih]; simp
theorem ev_lst {l : List Int} {n : Nat} (h : l.length ≤ n) (x : Int) : pev (lst n fun i => l.getD i 0) x = pev l x := ev_getD h x
/-- Moved up by s. -/
def up (s : Nat) (l : List Int) : List Int := List.replicate s 0 ++ l
theorem ev_up (s : Nat) (l : List Int) (x : Int) : pev (up s l) x = x ^ s * pev l x := by
  rw [up, ev_append, ev_replicate, List.length_replicate]; simp
theorem up_len (s : Nat) (l : List Int) : (up s l).length = s + l.length := by simp [up]
theorem up_get (s : Nat) (l : List Int) (i : Nat) : (up s l).getD i 0 = if i < s then 0 else l.getD (i - s) 0 := by
  unfold up
  by_cases h : i < s
  · rw [if_pos h, List.getD_eq_getElem?_getD, List.getElem?_append_left (by simpa using h)]; simp [h]
  · rw [if_neg h, List.getD_eq_getElem?_getD, List.getElem?_append_right (by simpa using Nat.le_of_not_lt h)]; simp [List.getD_eq_getElem?_getD]
theorem up_lst (s n : Nat) (f : Nat → Int) : up s (lst n f) = lst (s + n) fun i => if i < s then 0 else f (i - s) := by
  refine List.ext_getElem? fun i => ?_
  by_cases h : i < s + n
  · rw [List.getElem?_eq_getElem (by rw [up_len, lst_len]; exact h), List.getElem?_eq_getElem (by rw [lst_len]; exact h)]
    have h1 := up_get s (lst n f) i
    have h2 := lst_get (n := s + n) (f := fun i => if i < s then 0 else f (i - s)) h
    rw [List.getD_eq_getElem?_getD, List.getElem?_eq_getElem (by rw [up_len, lst_len]; exact h)] at h1
    rw [List.getD_eq_getElem?_getD, List.getElem?_eq_getElem (by rw [lst_len]; exact h)] at h2
    simp only [Option.getD_some] at h1 h2
    rw [h1, h2]
    by_cases hs : i < s
    · simp [hs]
    · simp only [hs, if_false]; rw [lst_get (by omega)]
  · rw [List.getElem?_eq_none (by rw [up_len, lst_len]; omega), List.getElem?_eq_none (by rw [lst_len]; omega)]
def padd (l m : List Int) : List Int := nrm (lst (max l.length m.length) fun i => l.getD i 0 + m.getD i 0)
def psub (l m : List Int) : List Int := nrm (lst (max l.length m.length) fun i => l.getD i 0 - m.getD i 0)
def ptim (c : Int) (l : List Int) : List Int := nrm (l.map fun y => c * y)
def prai (c : Int) (s : Nat) (l : List Int) : List Int := nrm (up s (l.map fun y => c * y))
theorem ev_padd (l m : List Int) (x : Int) : pev (padd l m) x = pev l x + pev m x := by
  rw [padd, ev_nrm, ev_lst_add, ev_lst (Nat.le_max_left _ _), ev_lst (Nat.le_max_right _ _)]
theorem ev_psub (l m : List Int) (x : Int) : pev (psub l m) x = pev l x - pev m x := by
  have e : (fun i => l.getD i 0 - m.getD i 0) = fun i => l.getD i 0 + (-1) * m.getD i 0 := funext fun i => by omega
  rw [psub, ev_nrm, e, ev_lst_add, ev_lst_mul, ev_lst (Nat.le_max_left _ _), ev_lst (Nat.le_max_right _ _)]; omega
theorem ev_ptim (c : Int) (l : List Int) (x : Int) : pev (ptim c l) x = c * pev l x := by rw [ptim, ev_nrm, ev_map_mul]
theorem ev_prai (c : Int) (s : Nat) (l : List Int) (x : Int) : pev (prai c s l) x = x ^ s * (c * pev l x) := by rw [prai, ev_nrm, ev_up, ev_map_mul]
theorem ev_lst_isum (n m : Nat) (f : Nat → Nat → Int) (x : Int) : pev (lst n fun y => isum (fun t => f t y) m) x = isum (fun t => pev (lst n (f t)) x) m := by
  induction m with
  | zero => exact ev_lst_zero n x
  | succ m ih => simp only [isum]; rw [ev_lst_add, ih]
theorem ev_isum (l : List Int) (x : Int) : pev l x = isum (fun i => l.getD i 0 * x ^ i) l.length := by
  have : ∀ (l : List Int), pev l x = isum (fun i => l.getD i 0 * x ^ i) l.length := by
    intro l
    have h : ∀ n, n ≤ l.length → pev (l.take n) x = isum (fun i => l.getD i 0 * x ^ i) n := by
      intro n
      induction n with
      | zero => intro _; rfl
      | succ n ih => intro hn; rw [ev_take_succ (by omega), ih (by omega), isum, Int.mul_comm]
    have := h l.length (Nat.le_refl _)
    rwa [List.take_length] at this
  exact this l
/-- The product's coefficient at y, of the first m of a. -/
def conv (a b : List Int) (m y : Nat) : Int := isum (fun t => if t ≤ y then a.getD t 0 * b.getD (y - t) 0 else 0) m
def pmul (l m : List Int) : List Int :=
  let a := nrm l
  let b := nrm m
  if a = [] ∨ b = [] then [] else nrm (lst (a.length + b.length - 1) fun y => conv a b a.length y)
theorem ev_shifted (b : List Int) (t n : Nat) (h : t + b.length ≤ n) (c x : Int) : pev (lst n fun y => if t ≤ y then c * b.getD (y - t) 0 else 0) x = c * x ^ t * pev b x := by
  have e : pev (lst n fun y => if t ≤ y then c * b.getD (y - t) 0 else 0) x = pev (up t (b.map fun y => c * y)) x := by
    refine ev_of_nrm (nrm_ext fun i => ?_) x
    rw [up_get, lst_get']
    by_cases h1 : i < t
    · rw [if_pos h1, if_neg (by omega : ¬ t ≤ i)]; split <;> rfl
    · rw [if_neg h1]
      by_cases h2 : i < n
      · rw [if_pos h2, if_pos (by omega)]
        simp [List.getD_eq_getElem?_getD]
        cases b[i - t]? <;> simp
      · rw [if_neg h2, getD_none]; rw [List.length_map]; omega
  rw [e, ev_up, ev_map_mul]; grind
theorem ev_conv (a b : List Int) (x : Int) (hb : b ≠ []) (ha : a ≠ []) : pev (lst (a.length + b.length - 1) fun y => conv a b a.length y) x = pev a x * pev b x := by
  unfold conv
  rw [ev_lst_isum]
  have h : ∀ t, t < a.length → pev (lst (a.length + b.length - 1) fun y => if t ≤ y then a.getD t 0 * b.getD (y - t) 0 else 0) x = pev b x * (a.getD t 0 * x ^ t) := fun t ht => by
    rw [ev_shifted b t _ (by have := List.length_pos_iff.2 hb; omega)]; grind
  rw [isum_congr h, isum_mul, ← ev_isum, Int.mul_comm]
theorem ev_pmul (l m : List Int) (x : Int) : pev (pmul l m) x = pev l x * pev m x := by
  unfold pmul
  simp only
  split
  · rename_i h
    rcases h with h | h
    · rw [← ev_nrm l, h]; simp [pev]
    · rw [← ev_nrm m, h]; simp [pev]
  · rename_i h
    rw [ev_nrm, ev_conv _ _ _ (fun e => h (.inr e)) (fun e => h (.inl e)), ev_nrm, ev_nrm]
theorem padd_nm (l m : List Int) : Nm (padd l m) := nrm_nrm _
theorem psub_nm (l m : List Int) : Nm (psub l m) := nrm_nrm _
theorem ptim_nm (c : Int) (l : List Int) : Nm (ptim c l) := nrm_nrm _
theorem pmul_nm (l m : List Int) : Nm (pmul l m) := by unfold pmul; simp only; split; exact rfl; exact nrm_nrm _
end Go.Proofs.Ytfkeohlpcjpkbaa

namespace Go.Proofs.Ytfkeohlpcjpkbaa
open Go.RowKit
theorem info_psl : (Try.prog.info? 28).map (fun i => (i.zero, i.size, i.bytes)) = some (some (.slice none 0 0), 1, 24) := by kernel_rfl
instance : TEl Try.prog 28 1 24 := tel info_psl rfl (by decide)
instance : TSl Try.prog 62 28 1 := ⟨Try.underlying62, by kernel_rfl⟩
theorem lit2_L {α : Type} {P : Program} {t e : TypeId} {size bytes : Nat} {os : List Own} {fs : List Fact} {K : Cont} [ht : TSl P t e size] [he : TEl P e size bytes] {x y : Value} (f : α → Dat) (z : α) (a b : α) (hsz : size ≤ 16) (hx : Reads os fs x (f a)) (hy : Reads os fs y (f b)) (hc : (f a).cells = size) (hc' : (f b).cells = size)
    (k : ∀ v, K v os ((v, LD size f z [a, b]) :: fs)) : BuildSliceK P t 2 [(0, x), (1, y)] os fs K := by
  have h1 := buildSlice_fact (P := P) (t := t) (os := os) (fs := fs) (K := fun u os' fs' => ∃ os'' fs'', Seals os' fs' os'' fs'' ∧ K u os'' fs'') (n := 2) [x, y] [f a, f b] rfl rfl (by decide) hsz ⟨hx, hc, hy, hc', trivial⟩
  refine ⟨Grw.sealed (h1 fun v => ⟨_, _, ?_, k v⟩).out⟩
  exact Seals.knw_cong rfl fun i hi => by
    have : i = 0 ∨ i = 1 := by omega
    rcases this with rfl | rfl <;> rfl
theorem pNorm_meets (v : Value) (p : Row) (hp : Fit 137438953472 p) (lp : p.length ≤ 1099511627776) :
    Meets Try.prog 48 [v] [(v, V p)] (fun r os fs => os = [] ∧ fs = [(r, vd (nrm (vv p)))]) :=
  (pNormO_meets v p hp lp).closed fun r os fs ⟨h1, h2, h3⟩ => ⟨_, _, ⟨rfl, rfl⟩, by
    subst h2 h3
    exact Seals.toldL h1⟩
theorem szR.fit {k : Nat} {l : List Int} (h : szR k l) : Fit k (l.map cn) := Fit_cn h
theorem szR.mono {k k' : Nat} {l : List Int} (h : szR k l) (hk : k ≤ k') : szR k' l := fun x hx => (h x hx).mono hk
theorem szR.get {k : Nat} {l : List Int} (h : szR k l) (i : Nat) : sz (l.getD i 0) k := by
  by_cases hi : i < l.length
  · exact h _ (getD_mem 0 hi)
  · rw [getD_none (by omega)]; exact sz_zero _
theorem Fit.szR {k : Nat} {p : Row} (h : Fit k p) : Go.Proofs.Ytfkeohlpcjpkbaa.szR k (vv p) := fun x hx => by
  obtain ⟨y, hy, rfl⟩ := List.mem_map.1 hx
  exact sz_jv (h y hy).1 (h y hy).2
theorem mem_nrm {l : List Int} {x : Int} (h : x ∈ nrm l) : x ∈ l := by
  induction l with
  | nil => exact h
  | cons c l ih =>
    rw [nrm_cons] at h
    split at h
    · simp at h
    · rcases List.mem_cons.1 h with rfl | h
      · exact .head _
      · exact .tail _ (ih h)
theorem szR.nrm {k : Nat} {l : List Int} (h : szR k l) : szR k (nrm l) := fun x hx => h x (mem_nrm hx)
theorem szR.lst {k n : Nat} {f : Nat → Int} (h : ∀ i, i < n → sz (f i) k) : szR k (lst n f) := fun x hx => by
  obtain ⟨i, hi, rfl⟩ := mem_lst hx
  exact h i hi
/-- Norm, of what is told. -/
theorem pNormT (v : Value) (l : List Int) (hl : szR 137438953472 l) (ll : l.length ≤ 1099511627776) :
    Meets Try.prog 48 [v] [(v, vd l)] (fun r os fs => os = [] ∧ fs = [(r, vd (nrm l))]) := by
  have h := pNorm_meets v (l.map cn) hl.fit (by rw [List.length_map]; exact ll)
  rw [vv_cn] at h
  exact h
theorem pLead_meets (v : Value) (p : Row) :
    Meets Try.prog 77 [v] [(v, V p)] (fun r os fs => os = [] ∧ fs = [(r, J (p.getD (p.length - 1) z0))]) := by
  refine meets_of_vc Try.func77 (by kernel_rfl) rfl (by kernel_rfl) (Nat.le_of_ble_eq_true rfl) ?_
  refine alloc_rule (d := I false []) fun o ho => ?_
  refine len_fact (by repeat (first | exact List.Mem.head _ | apply List.Mem.tail)) fun _ => ?_
  refine cmp_split _ rfl (fun h => ?_) (fun h => ?_)
  · have h0 : p = [] := List.length_eq_zero_iff.1 (by omega)
    subst h0
    refine build0 (da := .one (.bool false)) (db := U []) (fun S w => ⟨[.bool false], [.slice none 0 0], rfl, rd_false S w, rd_nil S w 1 _⟩) fun z => ?_
    refine store_box (d := J z0) 0 rfl ho rfl (by kernel_rfl) ?_ ?_; exact Reads.fact (by repeat (first | exact List.Mem.head _ | apply List.Mem.tail))
    refine load_box (d := J z0) 0 rfl ho rfl (load_J _) fun r => ?_
    exact fin ⟨rfl, rfl⟩ (Seals.trans (Seals.drop 0 _ _) (Seals.sub (by repeat (first | exact Sub.nil _ | refine Sub.cons (by repeat (first | exact List.Mem.head _ | apply List.Mem.tail)) ?_))))
  · refine len_fact (by repeat (first | exact List.Mem.head _ | apply List.Mem.tail)) fun _ => ?_
    refine ar rfl (by first | exact ⟨by omega, by omega⟩ | (simp only [inK]; omega)) ?_
    refine index_fact (by repeat (first | exact List.Mem.head _ | apply List.Mem.tail)) (p.length - 1) (by omega) (by omega) fun a1 => ?_
    refine load_fact (d := J (p.getD (p.length - 1) z0)) (by repeat (first | exact List.Mem.head _ | apply List.Mem.tail)) (load_J _) fun x1 => ?_
    refine store_box (d := J (p.getD (p.length - 1) z0)) 0 rfl ho rfl (by kernel_rfl) ?_ ?_; exact Reads.fact (by repeat (first | exact List.Mem.head _ | apply List.Mem.tail))
    refine load_box (d := J (p.getD (p.length - 1) z0)) 0 rfl ho rfl (load_J _) fun r => ?_
    exact fin ⟨rfl, rfl⟩ (Seals.trans (Seals.drop 0 _ _) (Seals.sub (by repeat (first | exact Sub.nil _ | refine Sub.cons (by repeat (first | exact List.Mem.head _ | apply List.Mem.tail)) ?_))))
/-- lead, of what is told in normal form. -/
theorem pLeadT (v : Value) (l : List Int) (h0 : l ≠ []) :
    Meets Try.prog 77 [v] [(v, vd l)] (fun r os fs => os = [] ∧ fs = [(r, zd (l.getD (l.length - 1) 0))]) := by
  have h := pLead_meets v (l.map cn)
  have h1 : 0 < l.length := List.length_pos_iff.2 h0
  rw [List.length_map, map_cn_get (by omega)] at h
  exact h
theorem rai_0 (s : Nat) (c : Int) (g : Nat → Int) (y : Nat) : I false [] = zd (if y < s then 0 else if y < s + 0 then c * g (y - s) else 0) := by
  rw [zero_zd]
  congr 1
  by_cases h1 : y < s
  · rw [if_pos h1]
  · rw [if_neg h1, if_neg (by omega)]
theorem rai_n (s n : Nat) (c : Int) (g : Nat → Int) (y : Nat) (hy : y < s + n) : zd (if y < s then 0 else if y < s + n then c * g (y - s) else 0) = zd (if y < s then 0 else c * g (y - s)) := by
  congr 1
  by_cases h1 : y < s
  · rw [if_pos h1, if_pos h1]
  · rw [if_neg h1, if_neg h1, if_pos hy]
theorem upd_zd {G H : Nat → Int} {j : Nat} {v : Int} (h1 : H j = v) (h2 : ∀ y, y ≠ j → G y = H y) (y : Nat) : upd (fun y => zd (G y)) j (zd v) y = zd (H y) := by
  unfold upd
  by_cases hy : y = j
  · subst hy
    rw [if_pos rfl, h1]
  · rw [if_neg hy]
    show zd (G y) = zd (H y)
    rw [h2 y hy]
theorem rai_s (s i : Nat) (c : Int) (g : Nat → Int) (y : Nat) : upd (fun y => zd (if y < s then 0 else if y < s + i then c * g (y - s) else 0)) (s + i) (zd (c * g i)) y = zd (if y < s then 0 else if y < s + (i + 1) then c * g (y - s) else 0) :=
  upd_zd (G := fun y => if y < s then 0 else if y < s + i then c * g (y - s) else 0) (H := fun y => if y < s then 0 else if y < s + (i + 1) then c * g (y - s) else 0) (by
    rw [if_neg (by omega), if_pos (by omega), Nat.add_sub_cancel_left]) (fun y hy => by
    by_cases h1 : y < s
    · rw [if_pos h1, if_pos h1]
    · rw [if_neg h1, if_neg h1]
      by_cases h2 : y < s + i
      · rw [if_pos h2, if_pos (by omega)]
      · rw [if_neg h2, if_neg (by omega)]) y
theorem pRaisedJ (v w : Value) (p : Row) (cj : Bool × List Nat) (s : Nat) (k a : Nat) (hp : Fit k p) (hcl : Lim cj.2) (hca : cj.2.length ≤ a) (hk : k + a ≤ 137438953472) (lp : p.length ≤ 1073741824) (ls : s ≤ 1073741824) :
    Meets Try.prog 75 [v, w, .int .i64 (s : Nat)] [(v, V p), (w, J cj)] (fun r os fs => os = [] ∧ fs = [(r, vd (prai (jv cj) s (vv p)))]) := by
  have hc : sz (jv cj) a := sz_jv hcl hca
  obtain ⟨c, hcj⟩ : ∃ c, jv cj = c := ⟨_, rfl⟩
  rw [hcj] at hc ⊢
  have hel : ∀ i, i < p.length → sz (c * (vv p).getD i 0) (k + a) := fun i _ => by rw [Nat.add_comm]; exact hc.mul (hp.szR.get i)
  have hfin : prai c s (vv p) = nrm (lst (s + p.length) fun y => if y < s then 0 else c * (vv p).getD (y - s) 0) := by
    unfold prai
    rw [show (vv p).map (fun y => c * y) = lst p.length fun i => c * (vv p).getD i 0 from ?_, up_lst]
    refine List.ext_getElem? fun i => ?_
    by_cases hi : i < p.length
    · simp [lst, hi, vv_len, List.getD_eq_getElem?_getD]
    · simp [lst, hi, vv_len]
  have hszL : szR (k + a) (lst (s + p.length) fun y => if y < s then 0 else c * (vv p).getD (y - s) 0) := szR.lst fun i hi => by
    split
    · exact sz_zero _
    · exact hel _ (by omega)
  refine meets_of_vc Try.func75 (by kernel_rfl) rfl (by kernel_rfl) (Nat.le_of_ble_eq_true rfl) ?_
  refine box_fact (Reads.fact (d := J cj) (by repeat (first | exact List.Mem.head _ | apply List.Mem.tail))) fun q => ?_
  refine len_fact (by repeat (first | exact List.Mem.head _ | apply List.Mem.tail)) fun _ => ?_
  refine ar rfl (by first | exact ⟨by omega, by omega⟩ | (simp only [inK]; omega)) ?_
  refine make_rule (t := 28) (d := I false []) (s + p.length) (by omega) (by omega) (by omega) (by omega) fun u hu => ?_
  refine len_fact (by repeat (first | exact List.Mem.head _ | apply List.Mem.tail)) fun _ => ?_
  refine loop_rule (X := Nat) (fun i => ([(0, v), (2, .int .i64 (s : Nat)), (4, q), (7, u), (15, .int .i64 (p.length : Nat)), (16, .int .i64 (i : Nat))], [own1 u 2 (s + p.length) (fun y => zd (if y < s then 0 else if y < s + i then c * (vv p).getD (y - s) 0 else 0))], [(v, V p), (q, .ptr (J cj))])) (fun i => i ≤ p.length) (fun i => p.length - i) rfl ?_ ?_
  · exact again 0 (Nat.zero_le _) trivial (by repeat (first | exact trivial | refine ⟨rfl, ?_⟩ | refine ⟨i64_eq (by first | omega | (simp only; omega)), ?_⟩ | refine ⟨u64_eq (by first | omega | (simp only; omega)), ?_⟩)) (Seals.trans (Seals.own_cong (os := [_]) 0 _ rfl rfl fun y _ => rai_0 s c (fun i => (vv p).getD i 0) y) (Seals.sub (by repeat (first | exact Sub.nil _ | refine Sub.cons (by repeat (first | exact List.Mem.head _ | apply List.Mem.tail)) ?_))))
  · rintro i hi
    refine cmp_split _ rfl (fun hlt => ?_) (fun hlt => ?_)
    · have hin : i < p.length := by omega
      have hpi := hp.get i
      have hgi := vv_get p i (by omega)
      refine draw_rule [0, 1, 2, 3, 4, 5, 6, 7, 8, 9, 10, 11] [0, 1, 2, 3, 4, 5, 6, 7, 8, 9, 10, 11] (by kernel_rfl) (by kernel_rfl) ?_
      refine ar rfl (by first | exact ⟨by omega, by omega⟩ | (simp only [inK]; omega)) ?_
      refine load_fact (d := J cj) (by repeat (first | exact List.Mem.head _ | apply List.Mem.tail)) (load_J _) fun y1 => ?_
      refine index_fact (by repeat (first | exact List.Mem.head _ | apply List.Mem.tail)) i rfl hin fun b1 => ?_
      refine load_fact (d := J (p.getD i z0)) (by repeat (first | exact List.Mem.head _ | apply List.Mem.tail)) (load_J _) fun y2 => ?_
      have hmul := zMulJ y1 y2 cj (p.getD i z0) hcl (by omega) hpi.1 (by omega)
      rw [hcj, ← hgi] at hmul
      refine call_fn hmul (Seals.refl _ _) (by repeat (first | exact Sub.nil _ | refine Sub.cons (by repeat (first | exact List.Mem.head _ | apply List.Mem.tail)) ?_)) ?_
      rintro y3 _ _ ⟨rfl, rfl⟩
      refine index_elem 0 rfl hu (s + i) (by omega) (by omega) ?_
      refine StoreK.post (store_elem (d := zd (c * (vv p).getD i 0)) 0 rfl (s + i) (by omega) rfl (by kernel_rfl) (Reads.fact (by repeat (first | exact List.Mem.head _ | apply List.Mem.tail))) ⟨_, _, Seals.own_cong (os := [_]) 0 (fun y => zd (if y < s then 0 else if y < s + (i + 1) then c * (vv p).getD (y - s) 0 else 0)) rfl rfl (fun y _ => rai_s s i c (fun i => (vv p).getD i 0) y), ?_⟩)
      refine ar rfl (by first | exact ⟨by omega, by omega⟩ | (simp only [inK]; omega)) ?_
      exact again (i + 1) (by omega) (by simp only; omega) (by repeat (first | exact trivial | refine ⟨rfl, ?_⟩ | refine ⟨i64_eq (by first | omega | (simp only; omega)), ?_⟩ | refine ⟨u64_eq (by first | omega | (simp only; omega)), ?_⟩)) (Seals.sub (by repeat (first | exact Sub.nil _ | refine Sub.cons (by repeat (first | exact List.Mem.head _ | apply List.Mem.tail)) ?_)))
    · have hip : i = p.length := by omega
      subst hip
      have hn := pNormT u (lst (s + p.length) fun y => if y < s then 0 else c * (vv p).getD (y - s) 0) (hszL.mono hk) (by rw [lst_len]; omega)
      rw [← hfin] at hn
      refine call_fn hn (Seals.told (g := fun y => if y < s then 0 else c * (vv p).getD (y - s) 0) hu fun y hy => rai_n s _ c (fun i => (vv p).getD i 0) y hy) (by repeat (first | exact Sub.nil _ | refine Sub.cons (by repeat (first | exact List.Mem.head _ | apply List.Mem.tail)) ?_)) ?_
      rintro r _ _ ⟨rfl, rfl⟩
      exact fin ⟨rfl, rfl⟩ (Seals.sub (by repeat (first | exact Sub.nil _ | refine Sub.cons (by repeat (first | exact List.Mem.head _ | apply List.Mem.tail)) ?_)))
theorem pRaised_meets (v w : Value) (p : Row) (c : Int) (s : Nat) (k a : Nat) (hp : Fit k p) (hc : sz c a) (hk : k + a ≤ 137438953472) (lp : p.length ≤ 1073741824) (ls : s ≤ 1073741824) :
    Meets Try.prog 75 [v, w, .int .i64 (s : Nat)] [(v, V p), (w, zd c)] (fun r os fs => os = [] ∧ fs = [(r, vd (prai c s (vv p)))]) := by
  have h := pRaisedJ v w p (cn c) s k a hp (Lim_lims _) hc.len hk lp ls
  rw [jv_cn] at h
  exact h
theorem pRaisedT (v w : Value) (l : List Int) (c : Int) (s : Nat) (k a : Nat) (hp : szR k l) (hc : sz c a) (hk : k + a ≤ 137438953472) (lp : l.length ≤ 1073741824) (ls : s ≤ 1073741824) :
    Meets Try.prog 75 [v, w, .int .i64 (s : Nat)] [(v, vd l), (w, zd c)] (fun r os fs => os = [] ∧ fs = [(r, vd (prai c s l))]) := by
  have h := pRaised_meets v w (l.map cn) c s k a hp.fit hc hk (by rw [List.length_map]; exact lp) ls
  rw [vv_cn] at h
  exact h
end Go.Proofs.Ytfkeohlpcjpkbaa

namespace Go.Proofs.Ytfkeohlpcjpkbaa
open Go.RowKit
theorem load_elem' {P : Program} {t : TypeId} {v : Value} {size n : Nat} {e : Nat → Dat} {os : List Own} {fs : List Fact} {K : Cont} (pos : Nat) (h : nthOwn os pos = some (own1 v size n e)) (j : Nat)
    (hj : j < n) {d : Dat} (hd : e j = d) (ht : LoadAs P t d) (k' : ∀ u, K u os ((u, d) :: fs)) : LoadK P t (eptr v (j * size)) os fs K := by
  subst hd
  exact load_elem pos h j hj ht k'
theorem zAddJ (v w : Value) (x y : Bool × List Nat) (hx : Lim x.2) (lx : x.2.length ≤ 137438953472) (hy : Lim y.2) (ly : y.2.length ≤ 137438953472) :
    Meets Try.prog 51 [v, w] [(v, J x), (w, J y)] (fun r os fs => os = [] ∧ fs = [(r, zd (jv x + jv y))]) := zadd_meets v w x.1 y.1 x.2 y.2 hx hy lx ly
def sumco (ps : List Row) (i y : Nat) : Int := isum (fun t => (vv (ps.getD t [])).getD y 0) i
theorem sumco_sz {ps : List Row} {k i : Nat} (h : Fits k ps) (hi : i < 18446744073709551616) (y : Nat) : sz (sumco ps i y) (k + 1) := isum_sz (fun t _ => (h.get t).szR.get y) hi
def mxl (ps : List Row) : Nat → Nat
  | 0 => 0
  | i + 1 => max (mxl ps i) (ps.getD i []).length
theorem mxl_le {ps : List Row} {n m : Nat} (h : ∀ i, (ps.getD i []).length ≤ m) : mxl ps n ≤ m := by
  induction n with
  | zero => exact Nat.zero_le _
  | succ n ih => exact Nat.max_le.2 ⟨ih, h n⟩
theorem le_mxl {ps : List Row} {n i : Nat} (h : i < n) : (ps.getD i []).length ≤ mxl ps n := by
  induction n with
  | zero => omega
  | succ n ih =>
    by_cases e : i = n
    · subst e; exact Nat.le_max_right _ _
    · exact Nat.le_trans (ih (by omega)) (Nat.le_max_left _ _)
theorem sum_s (a b : Nat → Int) (j y : Nat) : upd (fun y => zd (a y + if y < j then b y else 0)) j (zd (a j + b j)) y = zd (a y + if y < j + 1 then b y else 0) :=
  upd_zd (G := fun y => a y + if y < j then b y else 0) (H := fun y => a y + if y < j + 1 then b y else 0) (by
    rw [if_pos (by omega)]) (fun y hy => by
    by_cases h2 : y < j
    · rw [if_pos h2, if_pos (by omega)]
    · rw [if_neg h2, if_neg (by omega)]) y
theorem pSum_meets (v : Value) (ps : List Row) (k : Nat) (hf : Fits k ps) (hk : k + 1 ≤ 137438953472) (lp : ps.length ≤ 1048576) (ln : ∀ i, (ps.getD i []).length ≤ 4294967296) :
    Meets Try.prog 74 [v] [(v, W ps)] (fun r os fs => os = [] ∧ fs = [(r, vd (nrm (lst (mxl ps ps.length) (sumco ps ps.length))))]) := by
  have hM : mxl ps ps.length ≤ 4294967296 := mxl_le ln
  have hss : ∀ i y, i ≤ ps.length → sz (sumco ps i y) (k + 1) := fun i y hi => sumco_sz hf (by omega) y
  have hle : ∀ i, i < ps.length → (ps.getD i []).length ≤ mxl ps ps.length := fun i hi => le_mxl hi
  generalize hMe : mxl ps ps.length = M at *
  refine meets_of_vc Try.func74 (by kernel_rfl) rfl (by kernel_rfl) (Nat.le_of_ble_eq_true rfl) ?_
  refine len_fact (by repeat (first | exact List.Mem.head _ | apply List.Mem.tail)) fun _ => ?_
  refine loop_rule (X := Nat) (fun i => ([(0, v), (3, .int .i64 (mxl ps i : Nat)), (11, v), (12, .int .i64 (ps.length : Nat)), (13, .int .i64 (i : Nat))], [], [(v, W ps)])) (fun i => i ≤ ps.length) (fun i => ps.length - i) rfl ?_ ?_
  · exact again 0 (Nat.zero_le _) trivial (by repeat (first | exact trivial | refine ⟨rfl, ?_⟩ | refine ⟨i64_eq (by first | omega | (simp only; omega)), ?_⟩ | refine ⟨u64_eq (by first | omega | (simp only; omega)), ?_⟩)) (Seals.sub (by repeat (first | exact Sub.nil _ | refine Sub.cons (by repeat (first | exact List.Mem.head _ | apply List.Mem.tail)) ?_)))
  · rintro i hi
    refine cmp_split _ rfl (fun hlt => ?_) (fun hlt => ?_)
    · have hin : i < ps.length := by omega
      refine index_fact (by repeat (first | exact List.Mem.head _ | apply List.Mem.tail)) i rfl hin fun a1 => ?_
      refine load_fact (d := V (ps.getD i [])) (by repeat (first | exact List.Mem.head _ | apply List.Mem.tail)) (load_P _) fun x1 => ?_
      refine len_fact (by repeat (first | exact List.Mem.head _ | apply List.Mem.tail)) fun _ => ?_
      refine max2_rule ?_
      refine ar rfl (by first | exact ⟨by omega, by omega⟩ | (simp only [inK]; omega)) ?_
      have hmx : mxl ps (i + 1) = max (mxl ps i) (ps.getD i []).length := rfl
      exact again (i + 1) (by omega) (by simp only; omega) (by repeat (first | exact trivial | refine ⟨rfl, ?_⟩ | refine ⟨i64_eq (by first | omega | (simp only; omega)), ?_⟩ | refine ⟨u64_eq (by first | omega | (simp only; omega)), ?_⟩)) (Seals.sub (by repeat (first | exact Sub.nil _ | refine Sub.cons (by repeat (first | exact List.Mem.head _ | apply List.Mem.tail)) ?_)))
    · have hip : i = ps.length := by omega
      subst hip
      rw [hMe]
      refine make_rule (t := 28) (d := I false []) M rfl rfl (by omega) (by omega) fun u hu => ?_
      refine len_fact (by repeat (first | exact List.Mem.head _ | apply List.Mem.tail)) fun _ => ?_
      refine loop_rule (X := Nat) (fun i => ([(6, u), (24, v), (25, .int .i64 (ps.length : Nat)), (26, .int .i64 (i : Nat))], [own1 u 2 M (fun y => zd (sumco ps i y))], [(v, W ps)])) (fun i => i ≤ ps.length) (fun i => ps.length - i) rfl ?_ ?_
      · exact again 0 (Nat.zero_le _) trivial (by repeat (first | exact trivial | refine ⟨rfl, ?_⟩ | refine ⟨i64_eq (by first | omega | (simp only; omega)), ?_⟩ | refine ⟨u64_eq (by first | omega | (simp only; omega)), ?_⟩)) (Seals.trans (Seals.own_cong (os := [_]) 0 (fun y => zd (sumco ps 0 y)) rfl rfl fun y _ => zero_zd) (Seals.sub (by repeat (first | exact Sub.nil _ | refine Sub.cons (by repeat (first | exact List.Mem.head _ | apply List.Mem.tail)) ?_))))
      · rintro i hi
        refine cmp_split _ rfl (fun hlt => ?_) (fun hlt => ?_)
        · have hin : i < ps.length := by omega
          have hli := hle i hin
          have hfi := hf.get i
          refine index_fact (by repeat (first | exact List.Mem.head _ | apply List.Mem.tail)) i rfl hin fun a1 => ?_
          refine load_fact (d := V (ps.getD i [])) (by repeat (first | exact List.Mem.head _ | apply List.Mem.tail)) (load_P _) fun x1 => ?_
          refine len_fact (by repeat (first | exact List.Mem.head _ | apply List.Mem.tail)) fun _ => ?_
          have hnext : ∀ y, sumco ps (i + 1) y = sumco ps i y + (vv (ps.getD i [])).getD y 0 := fun y => rfl
          generalize hp : ps.getD i [] = p at *
          refine loop_rule (X := Nat) (fun j => ([(6, u), (24, v), (25, .int .i64 (ps.length : Nat)), (26, .int .i64 (i : Nat)), (30, x1), (31, .int .i64 (p.length : Nat)), (32, .int .i64 (j : Nat))],
            [own1 u 2 M (fun y => zd (sumco ps i y + if y < j then (vv p).getD y 0 else 0))], [(v, W ps), (x1, V p)])) (fun j => j ≤ p.length) (fun j => p.length - j) rfl ?_ ?_
          · exact again 0 (Nat.zero_le _) trivial (by repeat (first | exact trivial | refine ⟨rfl, ?_⟩ | refine ⟨i64_eq (by first | omega | (simp only; omega)), ?_⟩ | refine ⟨u64_eq (by first | omega | (simp only; omega)), ?_⟩)) (Seals.trans (Seals.own_cong (os := [_]) 0 (fun y => zd (sumco ps i y + if y < 0 then (vv p).getD y 0 else 0)) rfl rfl fun y _ => by rw [if_neg (Nat.not_lt_zero _), Int.add_zero]) (Seals.sub (by repeat (first | exact Sub.nil _ | refine Sub.cons (by repeat (first | exact List.Mem.head _ | apply List.Mem.tail)) ?_))))
          · rintro j hj
            refine cmp_split _ rfl (fun hlj => ?_) (fun hlj => ?_)
            · have hjn : j < p.length := by omega
              have hpj := hfi.get j
              have hgj := vv_get p j hjn
              have hsj := hss i j hi
              refine index_fact (by repeat (first | exact List.Mem.head _ | apply List.Mem.tail)) j rfl hjn fun b1 => ?_
              refine load_fact (d := J (p.getD j z0)) (by repeat (first | exact List.Mem.head _ | apply List.Mem.tail)) (load_J _) fun y1 => ?_
              refine alloc_rule (d := I false []) fun q hq => ?_
              refine store_box (d := J (p.getD j z0)) 0 rfl hq rfl (by kernel_rfl) ?_ ?_; exact Reads.fact (by repeat (first | exact List.Mem.head _ | apply List.Mem.tail))
              refine draw_rule [0, 1, 2, 3, 4, 5, 6, 7, 8, 9] [0, 1, 2, 3, 4, 5, 6, 7, 8, 9] (by kernel_rfl) (by kernel_rfl) ?_
              refine index_elem 1 rfl hu j rfl (by omega) ?_
              refine load_elem' (d := zd (sumco ps i j)) 1 rfl j (by omega) (by simp) (load_I _ _) fun y2 => ?_
              refine load_box (d := J (p.getD j z0)) 0 rfl hq rfl (load_J _) fun y3 => ?_
              have hadd := zAddJ y2 y3 (cn (sumco ps i j)) (p.getD j z0) (Lim_lims _) (Nat.le_trans hsj.len (by omega)) hpj.1 (by omega)
              rw [jv_cn, ← hgj] at hadd
              refine call_fn hadd (Seals.refl _ _) (by repeat (first | exact Sub.nil _ | refine Sub.cons (by repeat (first | exact List.Mem.head _ | apply List.Mem.tail)) ?_)) ?_
              rintro y4 _ _ ⟨rfl, rfl⟩
              refine index_elem 1 rfl hu j rfl (by omega) ?_
              refine StoreK.post (store_elem (d := zd (sumco ps i j + (vv p).getD j 0)) 1 rfl j (by omega) rfl (by kernel_rfl) (Reads.fact (by repeat (first | exact List.Mem.head _ | apply List.Mem.tail))) ⟨_, _, Seals.own_cong (os := [_, _]) 1 (fun y => zd (sumco ps i y + if y < j + 1 then (vv p).getD y 0 else 0)) rfl rfl (fun y _ => sum_s (sumco ps i) (fun y => (vv p).getD y 0) j y), ?_⟩)
              refine ar rfl (by first | exact ⟨by omega, by omega⟩ | (simp only [inK]; omega)) ?_
              exact again (j + 1) (by omega) (by simp only; omega) (by repeat (first | exact trivial | refine ⟨rfl, ?_⟩ | refine ⟨i64_eq (by first | omega | (simp only; omega)), ?_⟩ | refine ⟨u64_eq (by first | omega | (simp only; omega)), ?_⟩)) (Seals.trans (Seals.drop 0 _ _) (Seals.sub (by repeat (first | exact Sub.nil _ | refine Sub.cons (by repeat (first | exact List.Mem.head _ | apply List.Mem.tail)) ?_))))
            · have hend : ∀ y, zd (sumco ps i y + if y < j then (vv p).getD y 0 else 0) = zd (sumco ps (i + 1) y) := fun y => by
                rw [hnext]
                by_cases h2 : y < j
                · rw [if_pos h2]
                · rw [if_neg h2, getD_none (by rw [vv_len]; omega)]
              refine ar rfl (by first | exact ⟨by omega, by omega⟩ | (simp only [inK]; omega)) ?_
              refine again (i + 1) (by omega) (by simp only; omega) (by repeat (first | exact trivial | refine ⟨rfl, ?_⟩ | refine ⟨i64_eq (by first | omega | (simp only; omega)), ?_⟩ | refine ⟨u64_eq (by first | omega | (simp only; omega)), ?_⟩)) (Seals.trans (Seals.own_cong (os := [_]) 0 (fun y => zd (sumco ps (i + 1) y)) rfl rfl fun y _ => hend y) (Seals.sub (by repeat (first | exact Sub.nil _ | refine Sub.cons (by repeat (first | exact List.Mem.head _ | apply List.Mem.tail)) ?_))))
        · have hip : i = ps.length := by omega
          subst hip
          refine call_fn (pNormT u (lst M (sumco ps ps.length)) (szR.lst fun y _ => (hss _ y (Nat.le_refl _)).mono hk) (by rw [lst_len]; omega)) (Seals.told (g := sumco ps ps.length) hu fun y hy => rfl) (by repeat (first | exact Sub.nil _ | refine Sub.cons (by repeat (first | exact List.Mem.head _ | apply List.Mem.tail)) ?_)) ?_
          rintro r _ _ ⟨rfl, rfl⟩
          exact fin ⟨rfl, rfl⟩ (Seals.sub (by repeat (first | exact Sub.nil _ | refine Sub.cons (by repeat (first | exact List.Mem.head _ | apply List.Mem.tail)) ?_)))
theorem padd_eq (p q : Row) : nrm (lst (mxl [p, q] 2) (sumco [p, q] 2)) = padd (vv p) (vv q) := by
  unfold padd
  have h1 : mxl [p, q] 2 = max (vv p).length (vv q).length := by
    rw [vv_len, vv_len]
    show max (max 0 p.length) q.length = _
    omega
  rw [h1]
  congr 1
  refine lst_congr fun i _ => ?_
  show 0 + (vv p).getD i 0 + (vv q).getD i 0 = _
  omega
theorem pSum2_meets (v : Value) (p q : Row) (k : Nat) (hp : Fit k p) (hq : Fit k q) (hk : k + 1 ≤ 137438953472) (lp : p.length ≤ 4294967296) (lq : q.length ≤ 4294967296) :
    Meets Try.prog 74 [v] [(v, W [p, q])] (fun r os fs => os = [] ∧ fs = [(r, vd (padd (vv p) (vv q)))]) := by
  have h := pSum_meets v [p, q] k (fun r hr => by
    rcases List.mem_cons.1 hr with rfl | hr
    · exact hp
    · rcases List.mem_cons.1 hr with rfl | hr
      · exact hq
      · simp at hr) hk (by show 2 ≤ 1048576; omega) (fun i => by
    match i with
    | 0 => exact lp
    | 1 => exact lq
    | i + 2 => show 0 ≤ _; omega)
  have e : nrm (lst (mxl [p, q] [p, q].length) (sumco [p, q] [p, q].length)) = padd (vv p) (vv q) := padd_eq p q
  rw [e] at h
  exact h
end Go.Proofs.Ytfkeohlpcjpkbaa

namespace Go.Proofs.Ytfkeohlpcjpkbaa
open Go.RowKit
theorem prai_zero (c : Int) (l : List Int) : prai c 0 l = ptim c l := rfl
theorem szR.map {k a : Nat} {c : Int} {l : List Int} (h : szR k l) (hc : sz c a) : szR (k + a) (l.map fun y => c * y) := fun x hx => by
  obtain ⟨y, hy, rfl⟩ := List.mem_map.1 hx
  rw [Nat.add_comm]; exact hc.mul (h y hy)
theorem szR.prai {k a : Nat} {c : Int} {l : List Int} (h : szR k l) (hc : sz c a) (s : Nat) : szR (k + a) (prai c s l) := szR.nrm fun x hx => by
  rcases List.mem_append.1 hx with h1 | h1
  · rw [(List.mem_replicate.1 h1).2]; exact sz_zero _
  · exact h.map hc x h1
theorem prai_len (c : Int) (s : Nat) (l : List Int) : (prai c s l).length ≤ s + l.length := Nat.le_trans (nrm_length_le _) (by rw [up_len, List.length_map]; exact Nat.le_refl _)
theorem szR.padd {k : Nat} {l m : List Int} (h : szR k l) (h' : szR k m) : szR (k + 1) (padd l m) := szR.nrm (szR.lst fun i _ => by
  have := sz_sub (h.get i) ((h'.get i).neg)
  rwa [Int.sub_neg] at this)
theorem padd_len (l m : List Int) : (padd l m).length ≤ max l.length m.length := Nat.le_trans (nrm_length_le _) (by rw [lst_len]; exact Nat.le_refl _)
theorem szR.psub {k : Nat} {l m : List Int} (h : szR k l) (h' : szR k m) : szR (k + 1) (psub l m) := szR.nrm (szR.lst fun i _ => sz_sub (h.get i) (h'.get i))
theorem psub_len (l m : List Int) : (psub l m).length ≤ max l.length m.length := Nat.le_trans (nrm_length_le _) (by rw [lst_len]; exact Nat.le_refl _)
theorem szR.neg {k : Nat} {l : List Int} (h : szR k l) : szR k (Go.Proofs.Ytfkeohlpcjpkbaa.prai (-1) 0 l) := szR.nrm fun x hx => by
  rcases List.mem_append.1 hx with h1 | h1
  · rw [(List.mem_replicate.1 h1).2]; exact sz_zero _
  · obtain ⟨y, hy, rfl⟩ := List.mem_map.1 h1
    have := (h y hy).neg
    rwa [← Int.neg_one_mul] at this
theorem padd_neg (l m : List Int) : padd l (prai (-1) 0 m) = psub l m := (padd_nm _ _).ext (psub_nm _ _) fun x => by
  rw [ev_padd, ev_prai, ev_psub, Int.pow_zero]; omega
theorem sz_one (x : Int) (h : x.natAbs ≤ 1) : sz x 1 := by
  unfold sz; omega
theorem pTimesJ (v w : Value) (p : Row) (cj : Bool × List Nat) (k a : Nat) (hp : Fit k p) (hcl : Lim cj.2) (hca : cj.2.length ≤ a) (hk : k + a ≤ 137438953472) (lp : p.length ≤ 1073741824) :
    Meets Try.prog 47 [v, w] [(v, V p), (w, J cj)] (fun r os fs => os = [] ∧ fs = [(r, vd (ptim (jv cj) (vv p)))]) := by
  have hr := fun u => pRaisedJ v u p cj 0 k a hp hcl hca hk lp (by omega)
  simp only [prai_zero] at hr
  refine meets_of_vc Try.func47 (by kernel_rfl) rfl (by kernel_rfl) (Nat.le_of_ble_eq_true rfl) ?_
  refine box_fact (Reads.fact (d := J cj) (by repeat (first | exact List.Mem.head _ | apply List.Mem.tail))) fun q => ?_
  refine load_fact (d := J cj) (by repeat (first | exact List.Mem.head _ | apply List.Mem.tail)) (load_J _) fun y1 => ?_
  refine call_fn (hr y1) (Seals.refl _ _) (by repeat (first | exact Sub.nil _ | refine Sub.cons (by repeat (first | exact List.Mem.head _ | apply List.Mem.tail)) ?_)) ?_
  rintro r _ _ ⟨rfl, rfl⟩
  exact fin ⟨rfl, rfl⟩ (Seals.sub (by repeat (first | exact Sub.nil _ | refine Sub.cons (by repeat (first | exact List.Mem.head _ | apply List.Mem.tail)) ?_)))
theorem pTimes_meets (v w : Value) (p : Row) (c : Int) (k a : Nat) (hp : Fit k p) (hc : sz c a) (hk : k + a ≤ 137438953472) (lp : p.length ≤ 1073741824) :
    Meets Try.prog 47 [v, w] [(v, V p), (w, zd c)] (fun r os fs => os = [] ∧ fs = [(r, vd (ptim c (vv p)))]) := by
  have h := pTimesJ v w p (cn c) k a hp (Lim_lims _) hc.len hk lp
  rw [jv_cn] at h
  exact h
theorem pTimesT (v w : Value) (l : List Int) (c : Int) (k a : Nat) (hp : szR k l) (hc : sz c a) (hk : k + a ≤ 137438953472) (lp : l.length ≤ 1073741824) :
    Meets Try.prog 47 [v, w] [(v, vd l), (w, zd c)] (fun r os fs => os = [] ∧ fs = [(r, vd (ptim c l))]) := by
  have h := pTimes_meets v w (l.map cn) c k a hp.fit hc hk (by rw [List.length_map]; exact lp)
  rw [vv_cn] at h
  exact h
theorem pSub_meets (v w : Value) (p q : Row) (k : Nat) (hp : Fit k p) (hq : Fit k q) (hk : k + 1 ≤ 137438953472) (lp : p.length ≤ 1073741824) (lq : q.length ≤ 1073741824) :
    Meets Try.prog 45 [v, w] [(v, V p), (w, V q)] (fun r os fs => os = [] ∧ fs = [(r, vd (psub (vv p) (vv q)))]) := by
  have hr := fun u => pRaised_meets w u q (-1) 0 k 1 hq (sz_one _ (by decide)) hk lq (by omega)
  have hs := fun u => pSum2_meets u p ((prai (-1) 0 (vv q)).map cn) k hp hq.szR.neg.fit hk (by omega) (by
    have := prai_len (-1) 0 (vv q)
    rw [vv_len] at this
    rw [List.length_map]; omega)
  simp only [vv_cn, padd_neg] at hs
  refine meets_of_vc Try.func45 (by kernel_rfl) rfl (by kernel_rfl) (Nat.le_of_ble_eq_true rfl) ?_
  refine call_fn (zof_meets (-1) (by decide) (by decide)) (Seals.refl _ _) (by repeat (first | exact Sub.nil _ | refine Sub.cons (by repeat (first | exact List.Mem.head _ | apply List.Mem.tail)) ?_)) ?_
  rintro x1 _ _ ⟨rfl, rfl⟩
  refine call_fn (hr x1) (Seals.refl _ _) (by repeat (first | exact Sub.nil _ | refine Sub.cons (by repeat (first | exact List.Mem.head _ | apply List.Mem.tail)) ?_)) ?_
  rintro x2 _ _ ⟨rfl, rfl⟩
  refine lit2_L (size := 1) (f := V) (z := []) (e := 28) p ((prai (-1) 0 (vv q)).map cn) (by decide) (Reads.fact (by repeat (first | exact List.Mem.head _ | apply List.Mem.tail))) (Reads.fact (by repeat (first | exact List.Mem.head _ | apply List.Mem.tail))) rfl rfl fun x3 => ?_
  refine call_fn (hs x3) (Seals.refl _ _) (by repeat (first | exact Sub.nil _ | refine Sub.cons (by repeat (first | exact List.Mem.head _ | apply List.Mem.tail)) ?_)) ?_
  rintro r _ _ ⟨rfl, rfl⟩
  exact fin ⟨rfl, rfl⟩ (Seals.sub (by repeat (first | exact Sub.nil _ | refine Sub.cons (by repeat (first | exact List.Mem.head _ | apply List.Mem.tail)) ?_)))
theorem pSubT (v w : Value) (l m : List Int) (k : Nat) (hl : szR k l) (hm : szR k m) (hk : k + 1 ≤ 137438953472) (ll : l.length ≤ 1073741824) (lm : m.length ≤ 1073741824) :
    Meets Try.prog 45 [v, w] [(v, vd l), (w, vd m)] (fun r os fs => os = [] ∧ fs = [(r, vd (psub l m))]) := by
  have h := pSub_meets v w (l.map cn) (m.map cn) k hl.fit hm.fit hk (by rw [List.length_map]; exact ll) (by rw [List.length_map]; exact lm)
  rw [vv_cn, vv_cn] at h
  exact h
end Go.Proofs.Ytfkeohlpcjpkbaa

namespace Go.Proofs.Ytfkeohlpcjpkbaa
open Go.RowKit
theorem conv_succ (a b : List Int) (i y : Nat) : conv a b (i + 1) y = conv a b i y + if i ≤ y then a.getD i 0 * b.getD (y - i) 0 else 0 := rfl
theorem conv_sz {a b : List Int} {k l m : Nat} (ha : szR k a) (hb : szR l b) (hm : m < 18446744073709551616) (y : Nat) : sz (conv a b m y) (k + l + 1) := isum_sz (fun t _ => by
  split
  · exact (ha.get t).mul (hb.get _)
  · exact sz_zero _) hm
/-- The list while the product is made: of row i the first k numbers. -/
def mst (a b : List Int) (i k y : Nat) : Int := conv a b i y + if i ≤ y ∧ y < i + k then a.getD i 0 * b.getD (y - i) 0 else 0
theorem mst_0 (a b : List Int) (i y : Nat) : mst a b i 0 y = conv a b i y := by unfold mst; rw [if_neg (by omega)]; omega
theorem mst_at (a b : List Int) (i k : Nat) : mst a b i k (i + k) = conv a b i (i + k) := by unfold mst; rw [if_neg (by omega)]; omega
theorem mst_n (a b : List Int) (i y : Nat) : mst a b i b.length y = conv a b (i + 1) y := by
  unfold mst
  rw [conv_succ]
  by_cases h : i ≤ y
  · by_cases h2 : y < i + b.length
    · rw [if_pos ⟨h, h2⟩, if_pos h]
    · rw [if_neg (by omega), if_pos h, getD_none (l := b) (by omega)]; simp
  · rw [if_neg (by omega), if_neg h]
theorem mst_s (a b : List Int) (i k y : Nat) : upd (fun y => zd (mst a b i k y)) (i + k) (zd (conv a b i (i + k) + a.getD i 0 * b.getD k 0)) y = zd (mst a b i (k + 1) y) :=
  upd_zd (G := fun y => mst a b i k y) (H := fun y => mst a b i (k + 1) y) (by
    unfold mst
    rw [if_pos (by omega), Nat.add_sub_cancel_left]) (fun y hy => by
    unfold mst
    congr 1
    by_cases h : i ≤ y ∧ y < i + k
    · rw [if_pos h, if_pos (by omega)]
    · rw [if_neg h, if_neg (by omega)]) y
theorem pMul_meets (v w : Value) (p q : Row) (k l : Nat) (hp : Fit k p) (hq : Fit l q) (hk : k + l + 1 ≤ 137438953472) (lp : p.length ≤ 1073741824) (lq : q.length ≤ 1073741824) :
    Meets Try.prog 17 [v, w] [(v, V p), (w, V q)] (fun r os fs => os = [] ∧ fs = [(r, vd (pmul (vv p) (vv q)))]) := by
  have h1 := pNorm_meets v p (hp.mono (by omega)) (by omega)
  have h2 := pNorm_meets w q (hq.mono (by omega)) (by omega)
  have sa := hp.szR.nrm
  have sb := hq.szR.nrm
  have la : (nrm (vv p)).length ≤ 1073741824 := Nat.le_trans (nrm_length_le _) (by rw [vv_len]; exact lp)
  have lb : (nrm (vv q)).length ≤ 1073741824 := Nat.le_trans (nrm_length_le _) (by rw [vv_len]; exact lq)
  have hdef : pmul (vv p) (vv q) = if nrm (vv p) = [] ∨ nrm (vv q) = [] then [] else nrm (lst ((nrm (vv p)).length + (nrm (vv q)).length - 1) fun y => conv (nrm (vv p)) (nrm (vv q)) (nrm (vv p)).length y) := rfl
  generalize hPM : pmul (vv p) (vv q) = PM at *
  generalize hA : nrm (vv p) = A at *
  generalize hB : nrm (vv q) = B at *
  have hcs : ∀ i y, i ≤ A.length → sz (conv A B i y) (k + l + 1) := fun i y hi => conv_sz sa sb (by omega) y
  have h3 := fun u (hne : PM = nrm (lst (A.length + B.length - 1) fun y => conv A B A.length y)) => pNormT u (lst (A.length + B.length - 1) fun y => conv A B A.length y) ((szR.lst fun y _ => hcs _ y (Nat.le_refl _)).mono hk) (by rw [lst_len]; omega)
  refine meets_of_vc Try.func17 (by kernel_rfl) rfl (by kernel_rfl) (Nat.le_of_ble_eq_true rfl) ?_
  refine call_fn h1 (Seals.refl _ _) (by repeat (first | exact Sub.nil _ | refine Sub.cons (by repeat (first | exact List.Mem.head _ | apply List.Mem.tail)) ?_)) ?_
  rintro x1 _ _ ⟨rfl, rfl⟩
  refine call_fn h2 (Seals.refl _ _) (by repeat (first | exact Sub.nil _ | refine Sub.cons (by repeat (first | exact List.Mem.head _ | apply List.Mem.tail)) ?_)) ?_
  rintro x2 _ _ ⟨rfl, rfl⟩
  refine len_vd (by repeat (first | exact List.Mem.head _ | apply List.Mem.tail)) ?_
  refine cmp_split _ rfl (fun hz => ?_) (fun hz => ?_)
  · have : A = [] := List.length_eq_zero_iff.1 (by omega)
    rw [if_pos (.inl this)] at hdef
    exact fin ⟨rfl, rfl⟩ (by rw [hdef]; exact Seals.cons (Knw.nil 2 _) (Seals.nil _ _))
  refine len_vd (by repeat (first | exact List.Mem.head _ | apply List.Mem.tail)) ?_
  refine cmp_split _ rfl (fun hy => ?_) (fun hy => ?_)
  · have : B = [] := List.length_eq_zero_iff.1 (by omega)
    rw [if_pos (.inr this)] at hdef
    exact fin ⟨rfl, rfl⟩ (by rw [hdef]; exact Seals.cons (Knw.nil 2 _) (Seals.nil _ _))
  have hne : ¬ (A = [] ∨ B = []) := by
    rintro (h | h)
    · rw [h] at hz; simp at hz
    · rw [h] at hy; simp at hy
  rw [if_neg hne] at hdef
  refine len_vd (by repeat (first | exact List.Mem.head _ | apply List.Mem.tail)) ?_
  refine len_vd (by repeat (first | exact List.Mem.head _ | apply List.Mem.tail)) ?_
  refine ar rfl (by first | exact ⟨by omega, by omega⟩ | (simp only [inK]; omega)) ?_
  refine ar rfl (by first | exact ⟨by omega, by omega⟩ | (simp only [inK]; omega)) ?_
  refine make_rule (t := 28) (d := I false []) (A.length + B.length - 1) (by omega) (by omega) (by omega) (by omega) fun u hu => ?_
  refine len_vd (by repeat (first | exact List.Mem.head _ | apply List.Mem.tail)) ?_
  refine loop_rule (X := Nat) (fun i => ([(5, x1), (6, x2), (7, u), (31, x1), (32, .int .i64 (A.length : Nat)), (33, .int .i64 (i : Nat))], [own1 u 2 (A.length + B.length - 1) (fun y => zd (conv A B i y))], [(x1, vd A), (x2, vd B)])) (fun i => i ≤ A.length) (fun i => A.length - i) rfl ?_ ?_
  · exact again 0 (Nat.zero_le _) trivial (by repeat (first | exact trivial | refine ⟨rfl, ?_⟩ | refine ⟨i64_eq (by first | omega | (simp only; omega)), ?_⟩ | refine ⟨u64_eq (by first | omega | (simp only; omega)), ?_⟩)) (Seals.trans (Seals.own_cong (os := [_]) 0 (fun y => zd (conv A B 0 y)) rfl rfl fun y _ => zero_zd) (Seals.sub (by repeat (first | exact Sub.nil _ | refine Sub.cons (by repeat (first | exact List.Mem.head _ | apply List.Mem.tail)) ?_))))
  · rintro i hi
    refine cmp_split _ rfl (fun hlt => ?_) (fun hlt => ?_)
    · have hin : i < A.length := by omega
      have hai := sa.get i
      refine index_vd (by repeat (first | exact List.Mem.head _ | apply List.Mem.tail)) i rfl hin fun b1 => ?_
      refine load_fact (d := zd (A.getD i 0)) (by repeat (first | exact List.Mem.head _ | apply List.Mem.tail)) (load_I _ _) fun y1 => ?_
      refine alloc_rule (d := I false []) fun q1 hq1 => ?_
      refine store_box (d := zd (A.getD i 0)) 0 rfl hq1 rfl (by kernel_rfl) ?_ ?_; exact Reads.fact (by repeat (first | exact List.Mem.head _ | apply List.Mem.tail))
      refine len_vd (by repeat (first | exact List.Mem.head _ | apply List.Mem.tail)) ?_
      refine loop_rule (X := Nat) (fun j => ([(5, x1), (6, x2), (7, u), (31, x1), (32, .int .i64 (A.length : Nat)), (33, .int .i64 (i : Nat)), (8, .int .i64 (i : Nat)), (9, q1), (38, x2), (39, .int .i64 (B.length : Nat)), (40, .int .i64 (j : Nat))],
        [own1 q1 2 1 (fun _ => zd (A.getD i 0)), own1 u 2 (A.length + B.length - 1) (fun y => zd (mst A B i j y))], [(x1, vd A), (x2, vd B)])) (fun j => j ≤ B.length) (fun j => B.length - j) rfl ?_ ?_
      · exact again 0 (Nat.zero_le _) trivial (by repeat (first | exact trivial | refine ⟨rfl, ?_⟩ | refine ⟨i64_eq (by first | omega | (simp only; omega)), ?_⟩ | refine ⟨u64_eq (by first | omega | (simp only; omega)), ?_⟩)) (Seals.trans (Seals.box0 rfl) (Seals.trans (Seals.own_cong (os := [_, _]) 1 (fun y => zd (mst A B i 0 y)) rfl rfl fun y _ => by rw [mst_0]) (Seals.sub (by repeat (first | exact Sub.nil _ | refine Sub.cons (by repeat (first | exact List.Mem.head _ | apply List.Mem.tail)) ?_)))))
      · rintro j hj
        refine cmp_split _ rfl (fun hlj => ?_) (fun hlj => ?_)
        · have hjn : j < B.length := by omega
          have hbj := sb.get j
          have hcj := hcs i (i + j) hi
          refine index_vd (by repeat (first | exact List.Mem.head _ | apply List.Mem.tail)) j rfl hjn fun b2 => ?_
          refine load_fact (d := zd (B.getD j 0)) (by repeat (first | exact List.Mem.head _ | apply List.Mem.tail)) (load_I _ _) fun y2 => ?_
          refine alloc_rule (d := I false []) fun q2 hq2 => ?_
          refine store_box (d := zd (B.getD j 0)) 0 rfl hq2 rfl (by kernel_rfl) ?_ ?_; exact Reads.fact (by repeat (first | exact List.Mem.head _ | apply List.Mem.tail))
          refine draw_rule [0, 1, 2, 3, 4, 5, 6, 7, 8, 9, 10, 11, 12, 13, 14, 15] [0, 1, 2, 3, 4, 5, 6, 7, 8, 9, 10, 11, 12, 13, 14, 15] (by kernel_rfl) (by kernel_rfl) ?_
          refine ar rfl (by first | exact ⟨by omega, by omega⟩ | (simp only [inK]; omega)) ?_
          refine ar rfl (by first | exact ⟨by omega, by omega⟩ | (simp only [inK]; omega)) ?_
          refine index_elem 2 rfl hu (i + j) (by omega) (by omega) ?_
          refine load_elem' (d := zd (conv A B i (i + j))) 2 rfl (i + j) (by omega) (by rw [mst_at]) (load_I _ _) fun y3 => ?_
          refine load_box (d := zd (A.getD i 0)) 1 rfl hq1 rfl (load_I _ _) fun y4 => ?_
          refine load_box (d := zd (B.getD j 0)) 0 rfl hq2 rfl (load_I _ _) fun y5 => ?_
          refine call_fn (zMulZ y4 y5 _ _ _ _ hai hbj (by omega) (by omega)) (Seals.refl _ _) (by repeat (first | exact Sub.nil _ | refine Sub.cons (by repeat (first | exact List.Mem.head _ | apply List.Mem.tail)) ?_)) ?_
          rintro y6 _ _ ⟨rfl, rfl⟩
          refine call_fn (zAddZ y3 y6 _ _ _ _ hcj (hai.mul hbj) (by omega) (by omega)) (Seals.refl _ _) (by repeat (first | exact Sub.nil _ | refine Sub.cons (by repeat (first | exact List.Mem.head _ | apply List.Mem.tail)) ?_)) ?_
          rintro y7 _ _ ⟨rfl, rfl⟩
          refine index_elem 2 rfl hu (i + j) (by omega) (by omega) ?_
          refine StoreK.post (store_elem (d := zd (conv A B i (i + j) + A.getD i 0 * B.getD j 0)) 2 rfl (i + j) (by omega) rfl (by kernel_rfl) (Reads.fact (by repeat (first | exact List.Mem.head _ | apply List.Mem.tail))) ⟨_, _, Seals.own_cong (os := [_, _, _]) 2 (fun y => zd (mst A B i (j + 1) y)) rfl rfl (fun y _ => mst_s A B i j y), ?_⟩)
          refine ar rfl (by first | exact ⟨by omega, by omega⟩ | (simp only [inK]; omega)) ?_
          exact again (j + 1) (by omega) (by simp only; omega) (by repeat (first | exact trivial | refine ⟨rfl, ?_⟩ | refine ⟨i64_eq (by first | omega | (simp only; omega)), ?_⟩ | refine ⟨u64_eq (by first | omega | (simp only; omega)), ?_⟩)) (Seals.trans (Seals.drop 0 _ _) (Seals.sub (by repeat (first | exact Sub.nil _ | refine Sub.cons (by repeat (first | exact List.Mem.head _ | apply List.Mem.tail)) ?_))))
        · have hjB : j = B.length := by omega
          subst hjB
          refine ar rfl (by first | exact ⟨by omega, by omega⟩ | (simp only [inK]; omega)) ?_
          exact again (i + 1) (by omega) (by simp only; omega) (by repeat (first | exact trivial | refine ⟨rfl, ?_⟩ | refine ⟨i64_eq (by first | omega | (simp only; omega)), ?_⟩ | refine ⟨u64_eq (by first | omega | (simp only; omega)), ?_⟩)) (Seals.trans (Seals.drop 0 _ _) (Seals.trans (Seals.own_cong (os := [_]) 0 (fun y => zd (conv A B (i + 1) y)) rfl rfl fun y _ => by rw [mst_n]) (Seals.sub (by repeat (first | exact Sub.nil _ | refine Sub.cons (by repeat (first | exact List.Mem.head _ | apply List.Mem.tail)) ?_)))))
    · have hip : i = A.length := by omega
      subst hip
      have h3' := h3 u hdef
      rw [← hdef] at h3'
      refine call_fn h3' (Seals.told (g := fun y => conv A B A.length y) hu fun y hy => rfl) (by repeat (first | exact Sub.nil _ | refine Sub.cons (by repeat (first | exact List.Mem.head _ | apply List.Mem.tail)) ?_)) ?_
      rintro r _ _ ⟨rfl, rfl⟩
      exact fin ⟨rfl, rfl⟩ (Seals.sub (by repeat (first | exact Sub.nil _ | refine Sub.cons (by repeat (first | exact List.Mem.head _ | apply List.Mem.tail)) ?_)))
theorem pMulT (v w : Value) (p q : List Int) (k l : Nat) (hp : szR k p) (hq : szR l q) (hk : k + l + 1 ≤ 137438953472) (lp : p.length ≤ 1073741824) (lq : q.length ≤ 1073741824) :
    Meets Try.prog 17 [v, w] [(v, vd p), (w, vd q)] (fun r os fs => os = [] ∧ fs = [(r, vd (pmul p q))]) := by
  have h := pMul_meets v w (p.map cn) (q.map cn) k l hp.fit hq.fit hk (by rw [List.length_map]; exact lp) (by rw [List.length_map]; exact lq)
  rw [vv_cn, vv_cn] at h
  exact h
theorem ev_sz {l : List Int} {x : Int} {k a : Nat} (h : szR k l) (hx : sz x a) : sz (pev l x) (k + l.length * (a + 1)) := by
  induction l with
  | nil => exact sz_zero _
  | cons c l ih =>
    have h1 := ih fun y hy => h y (.tail _ hy)
    have h2 := hx.mul h1
    have h3 : sz c (a + (k + l.length * (a + 1))) := (h c (.head _)).mono (by omega)
    have h4 := sz_sub h3 h2.neg
    rw [Int.sub_neg] at h4
    refine h4.mono ?_
    rw [List.length_cons, Nat.succ_mul]; omega
theorem ev_drop {l : List Int} {i : Nat} (h : i < l.length) (x : Int) : pev (l.drop i) x = l.getD i 0 + x * pev (l.drop (i + 1)) x := by
  rw [List.drop_eq_getElem_cons h]
  simp [pev, List.getD_eq_getElem?_getD, h]
theorem szR.drop {k : Nat} {l : List Int} (h : szR k l) (i : Nat) : szR k (l.drop i) := fun x hx => h x (List.mem_of_mem_drop hx)
theorem zMulZJ (v w : Value) (x : Int) (y : Bool × List Nat) (a : Nat) (hx : sz x a) (ha : a ≤ 137438953472) (hy : Lim y.2) (ly : y.2.length ≤ 137438953472) :
    Meets Try.prog 52 [v, w] [(v, zd x), (w, J y)] (fun r os fs => os = [] ∧ fs = [(r, zd (x * jv y))]) := by
  have h := zMulJ v w (cn x) y (Lim_lims _) (Nat.le_trans hx.len ha) hy ly
  rw [jv_cn] at h
  exact h
theorem pValueJ (v w : Value) (p : Row) (xj : Bool × List Nat) (k a : Nat) (hp : Fit k p) (hxl : Lim xj.2) (hxa : xj.2.length ≤ a) (hk : k + (p.length + 1) * (a + 1) ≤ 137438953472) (lp : p.length ≤ 1073741824) :
    Meets Try.prog 25 [v, w] [(v, V p), (w, J xj)] (fun r os fs => os = [] ∧ fs = [(r, zd (pev (vv p) (jv xj)))]) := by
  have hx : sz (jv xj) a := sz_jv hxl hxa
  obtain ⟨x, hxj⟩ : ∃ x, jv xj = x := ⟨_, rfl⟩
  rw [hxj] at hx ⊢
  have hm1 : (p.length + 1) * (a + 1) = p.length * (a + 1) + (a + 1) := Nat.succ_mul _ _
  have h1 := pNorm_meets v p (hp.mono (by omega)) (by omega)
  have sa := hp.szR.nrm
  have la : (nrm (vv p)).length ≤ p.length := Nat.le_trans (nrm_length_le _) (by rw [vv_len]; exact Nat.le_refl _)
  rw [← ev_nrm (vv p)]
  generalize hA : nrm (vv p) = A at *
  have hs : ∀ i, sz (pev (A.drop i) x) (k + p.length * (a + 1)) := fun i => (ev_sz (sa.drop i) hx).mono (by
    have : (A.drop i).length * (a + 1) ≤ p.length * (a + 1) := Nat.mul_le_mul_right _ (by rw [List.length_drop]; omega)
    omega)
  have hlast : pev (A.drop A.length) x = 0 := by rw [List.drop_length]; rfl
  have hstep : ∀ i, i < A.length → pev (A.drop (A.length - i)) x * x + A.getD (A.length - 1 - i) 0 = pev (A.drop (A.length - (i + 1))) x := fun i hi => by
    rw [ev_drop (i := A.length - (i + 1)) (by omega), show A.length - (i + 1) + 1 = A.length - i by omega, show A.length - (i + 1) = A.length - 1 - i by omega, Int.mul_comm]; omega
  have hfin : pev (A.drop (A.length - A.length)) x = pev A x := by rw [Nat.sub_self, List.drop_zero]
  generalize hV : (fun i => pev (A.drop (A.length - i)) x) = Vf
  have hs' : ∀ i, sz (Vf i) (k + p.length * (a + 1)) := fun i => by rw [← hV]; exact hs _
  have hstep' : ∀ i, i < A.length → Vf i * x + A.getD (A.length - 1 - i) 0 = Vf (i + 1) := fun i hi => by rw [← hV]; exact hstep i hi
  have h0' : Vf 0 = 0 := by rw [← hV]; exact hlast
  have hfin' : Vf A.length = pev A x := by rw [← hV]; exact hfin
  refine meets_of_vc Try.func25 (by kernel_rfl) rfl (by kernel_rfl) (Nat.le_of_ble_eq_true rfl) ?_
  refine box_fact (Reads.fact (d := J xj) (by repeat (first | exact List.Mem.head _ | apply List.Mem.tail))) fun px => ?_
  refine alloc_rule (d := I false []) fun o ho => ?_
  refine build0 (da := .one (.bool false)) (db := U (lims 0)) (fun S w => ⟨[.bool false], [.slice none 0 0], rfl, rd_false S w, by rw [lims_zero]; exact rd_nil S w 1 _⟩) fun z => ?_
  refine alloc_rule (d := I false []) fun s hs1 => ?_
  refine store_box (d := zd 0) 0 rfl hs1 rfl (by kernel_rfl) ?_ ?_; exact Reads.fact (by repeat (first | exact List.Mem.head _ | apply List.Mem.tail))
  refine call_fn h1 (Seals.refl _ _) (by repeat (first | exact Sub.nil _ | refine Sub.cons (by repeat (first | exact List.Mem.head _ | apply List.Mem.tail)) ?_)) ?_
  rintro x1 _ _ ⟨rfl, rfl⟩
  refine len_vd (by repeat (first | exact List.Mem.head _ | apply List.Mem.tail)) ?_
  refine loop_rule (X := Nat) (fun i => ([(3, px), (4, o), (5, s), (6, x1), (12, .int .i64 (A.length : Nat)), (13, .int .i64 (i : Nat))], [own1 s 2 1 (fun _ => zd (Vf i)), own1 o 2 1 (fun _ => I false [])], [(x1, vd A), (px, .ptr (J xj))])) (fun i => i ≤ A.length) (fun i => A.length - i) rfl ?_ ?_
  · exact again 0 (Nat.zero_le _) trivial (by repeat (first | exact trivial | refine ⟨rfl, ?_⟩ | refine ⟨i64_eq (by first | omega | (simp only; omega)), ?_⟩ | refine ⟨u64_eq (by first | omega | (simp only; omega)), ?_⟩)) (Seals.trans (Seals.box0 (by rw [h0']; rfl)) (Seals.sub (by repeat (first | exact Sub.nil _ | refine Sub.cons (by repeat (first | exact List.Mem.head _ | apply List.Mem.tail)) ?_))))
  · rintro i hi
    refine cmp_split _ rfl (fun hlt => ?_) (fun hlt => ?_)
    · have hin : i < A.length := by omega
      have hsi := hs' i
      have hsi1 := hstep' i hin
      have hai := sa.get (A.length - 1 - i)
      refine draw_rule [0, 1, 3, 4, 5, 6, 7, 8, 9, 10, 2, 11, 12] [0, 1, 2, 3, 4, 5, 6, 7, 8, 9, 10, 11, 12] (by kernel_rfl) (by kernel_rfl) ?_
      refine load_box (d := zd (Vf i)) 0 rfl hs1 rfl (load_I _ _) fun y1 => ?_
      refine load_fact (d := J xj) (by repeat (first | exact List.Mem.head _ | apply List.Mem.tail)) (load_J _) fun y2 => ?_
      refine len_vd (by repeat (first | exact List.Mem.head _ | apply List.Mem.tail)) ?_
      refine ar rfl (by first | exact ⟨by omega, by omega⟩ | (simp only [inK]; omega)) ?_
      refine ar rfl (by first | exact ⟨by omega, by omega⟩ | (simp only [inK]; omega)) ?_
      refine index_vd (by repeat (first | exact List.Mem.head _ | apply List.Mem.tail)) (A.length - 1 - i) (by omega) (by omega) fun b1 => ?_
      refine load_fact (d := zd (A.getD (A.length - 1 - i) 0)) (by repeat (first | exact List.Mem.head _ | apply List.Mem.tail)) (load_I _ _) fun y4 => ?_
      have hmul := zMulZJ y1 y2 _ xj _ hsi (by omega) hxl (by omega)
      rw [hxj] at hmul
      refine call_fn hmul (Seals.refl _ _) (by repeat (first | exact Sub.nil _ | refine Sub.cons (by repeat (first | exact List.Mem.head _ | apply List.Mem.tail)) ?_)) ?_
      rintro y3 _ _ ⟨rfl, rfl⟩
      have hadd := zAddZ y3 y4 _ _ _ _ (hsi.mul hx) hai (by omega) (by omega)
      rw [hsi1] at hadd
      refine call_fn hadd (Seals.refl _ _) (by repeat (first | exact Sub.nil _ | refine Sub.cons (by repeat (first | exact List.Mem.head _ | apply List.Mem.tail)) ?_)) ?_
      rintro y5 _ _ ⟨rfl, rfl⟩
      refine store_box (d := zd (Vf (i + 1))) 0 rfl hs1 rfl (by kernel_rfl) ?_ ?_; exact Reads.fact (by repeat (first | exact List.Mem.head _ | apply List.Mem.tail))
      refine ar rfl (by first | exact ⟨by omega, by omega⟩ | (simp only [inK]; omega)) ?_
      exact again (i + 1) (by omega) (by simp only; omega) (by repeat (first | exact trivial | refine ⟨rfl, ?_⟩ | refine ⟨i64_eq (by first | omega | (simp only; omega)), ?_⟩ | refine ⟨u64_eq (by first | omega | (simp only; omega)), ?_⟩)) (Seals.trans (Seals.box0 rfl) (Seals.sub (by repeat (first | exact Sub.nil _ | refine Sub.cons (by repeat (first | exact List.Mem.head _ | apply List.Mem.tail)) ?_))))
    · have hip : i = A.length := by omega
      subst hip
      have hsn := hs' A.length
      rw [hfin'] at hsn
      rw [hfin']
      refine load_box (d := zd (pev A x)) 0 rfl hs1 rfl (load_I _ _) fun y1 => ?_
      refine call_fn (zNormZ y1 _ _ hsn (by omega)) (Seals.refl _ _) (by repeat (first | exact Sub.nil _ | refine Sub.cons (by repeat (first | exact List.Mem.head _ | apply List.Mem.tail)) ?_)) ?_
      rintro y2 _ _ ⟨rfl, rfl⟩
      refine store_box (d := zd (pev A x)) 1 rfl ho rfl (by kernel_rfl) ?_ ?_; exact Reads.fact (by repeat (first | exact List.Mem.head _ | apply List.Mem.tail))
      refine load_box (d := zd (pev A x)) 1 rfl ho rfl (load_I _ _) fun r => ?_
      exact fin ⟨rfl, rfl⟩ (Seals.trans (Seals.drop 0 _ _) (Seals.trans (Seals.drop 0 _ _) (Seals.sub (by repeat (first | exact Sub.nil _ | refine Sub.cons (by repeat (first | exact List.Mem.head _ | apply List.Mem.tail)) ?_)))))
end Go.Proofs.Ytfkeohlpcjpkbaa

namespace Go.Proofs.Ytfkeohlpcjpkbaa
def dg (l : List Int) : Nat := (nrm l).length
def ld (l : List Int) : Int := l.getD (dg l - 1) 0
theorem co_ext {l m : List Int} (h : ∀ x, pev l x = pev m x) (i : Nat) : l.getD i 0 = m.getD i 0 := by rw [← co_nrm l, ev_ext h, co_nrm]
theorem dg_ext {l m : List Int} (h : ∀ x, pev l x = pev m x) : dg l = dg m := by unfold dg; rw [ev_ext h]
theorem ld_ext {l m : List Int} (h : ∀ x, pev l x = pev m x) : ld l = ld m := by unfold ld; rw [dg_ext h, co_ext h]
theorem dg_nm {l : List Int} (h : Nm l) : dg l = l.length := by unfold dg; rw [h]
theorem dg_le {l : List Int} {n : Nat} : dg l ≤ n ↔ ∀ i, n ≤ i → l.getD i 0 = 0 := by
  constructor
  · intro h i hi
    rw [← co_nrm]
    exact getD_none (Nat.le_trans h hi)
  · intro h
    refine Nat.le_of_not_lt fun hn => ?_
    have := nrm_last l (show 0 < (nrm l).length by unfold dg at hn; omega)
    rw [co_nrm] at this
    exact this (h _ (by unfold dg at hn; omega))
theorem dg_le_len (l : List Int) : dg l ≤ l.length := nrm_length_le l
theorem ld_ne {l : List Int} (h : 0 < dg l) : ld l ≠ 0 := by
  have := nrm_last l h
  rwa [co_nrm] at this
theorem dg_zero {l : List Int} : dg l = 0 ↔ ∀ x, pev l x = 0 := by
  constructor
  · intro h x
    rw [← ev_nrm, List.length_eq_zero_iff.1 h]; rfl
  · intro h
    have := dg_ext (l := l) (m := []) fun x => by rw [h]; rfl
    rw [this]; rfl
theorem dg_pos {l : List Int} (h : ¬ ∀ x, pev l x = 0) : 0 < dg l := Nat.pos_of_ne_zero fun e => h (dg_zero.1 e)
theorem co_psub (l m : List Int) (i : Nat) : (psub l m).getD i 0 = l.getD i 0 - m.getD i 0 := by
  rw [psub, co_nrm, lst_get']
  split
  · rfl
  · rw [getD_none (by omega), getD_none (by omega)]; rfl
theorem co_map (c : Int) (l : List Int) (i : Nat) : (l.map fun y => c * y).getD i 0 = c * l.getD i 0 := by
  simp only [List.getD_eq_getElem?_getD, List.getElem?_map]
  cases l[i]? <;> simp
theorem co_prai (c : Int) (s : Nat) (l : List Int) (i : Nat) : (prai c s l).getD i 0 = if i < s then 0 else c * l.getD (i - s) 0 := by
  rw [prai, co_nrm, up_get]
  split
  · rfl
  · rw [co_map]
/-- The product's degree and lead. -/
theorem pmul_dg {a b : List Int} (ha : 0 < dg a) (hb : 0 < dg b) : dg (pmul a b) + 1 = dg a + dg b ∧ ld (pmul a b) = ld a * ld b := by
  have ea : ld a = (nrm a).getD ((nrm a).length - 1) 0 := by rw [co_nrm]; rfl
  have eb : ld b = (nrm b).getD ((nrm b).length - 1) 0 := by rw [co_nrm]; rfl
  have h1 : ¬ (nrm a = [] ∨ nrm b = []) := by
    unfold dg at ha hb
    rintro (h | h)
    · rw [h] at ha; simp at ha
    · rw [h] at hb; simp at hb
  have hn : (lst ((nrm a).length + (nrm b).length - 1) fun y => conv (nrm a) (nrm b) (nrm a).length y).getD ((nrm a).length + (nrm b).length - 1 - 1) 0 = ld a * ld b := by
    unfold dg at ha hb
    rw [lst_get (by omega), conv, isum_one (r := (nrm a).length - 1) (by omega) fun k hk hne => by
      split
      · rw [getD_none (l := nrm b) (by omega), Int.mul_zero]
      · rfl]
    rw [if_pos (by omega), ea, eb]
    congr 2; omega
  have hne : ld a * ld b ≠ 0 := Int.mul_ne_zero (ld_ne ha) (ld_ne hb)
  have e : pmul a b = lst ((nrm a).length + (nrm b).length - 1) fun y => conv (nrm a) (nrm b) (nrm a).length y := by
    unfold pmul
    simp only
    rw [if_neg h1]
    refine nrm_of_last (.inr ?_)
    rw [lst_len, hn]; exact hne
  have hd : dg (pmul a b) = (nrm a).length + (nrm b).length - 1 := by
    rw [dg_nm (pmul_nm a b), e, lst_len]
  refine ⟨by rw [hd]; unfold dg at ha hb ⊢; omega, ?_⟩
  unfold ld
  rw [hd, e, hn]
  rfl
theorem mul_dg {a b c : List Int} (h : ∀ x, pev c x = pev a x * pev b x) (ha : 0 < dg a) (hb : 0 < dg b) : dg c + 1 = dg a + dg b ∧ ld c = ld a * ld b := by
  have e : ∀ x, pev c x = pev (pmul a b) x := fun x => by rw [h, ev_pmul]
  rw [dg_ext e, ld_ext e]
  exact pmul_dg ha hb
theorem mul_zero' {a b : List Int} (h : ∀ x, pev a x * pev b x = 0) : dg a = 0 ∨ dg b = 0 := by
  by_cases ha : 0 < dg a
  · by_cases hb : 0 < dg b
    · exfalso
      have h1 := (pmul_dg ha hb).1
      have h2 : dg (pmul a b) = 0 := dg_zero.2 fun x => by rw [ev_pmul, h]
      omega
    · right; omega
  · left; omega
theorem cancel {a u v : List Int} (ha : 0 < dg a) (h : ∀ x, pev a x * pev u x = pev a x * pev v x) (x : Int) : pev u x = pev v x := by
  have h1 : ∀ x, pev a x * pev (psub u v) x = 0 := fun x => by rw [ev_psub, Int.mul_sub, h]; omega
  rcases mul_zero' h1 with h2 | h2
  · omega
  · have := dg_zero.1 h2 x
    rw [ev_psub] at this; omega
/-- a is a divisor of b. -/
def Dv (a b : List Int) : Prop := ∃ u, ∀ x, pev b x = pev a x * pev u x
theorem Dv.refl (a : List Int) : Dv a a := ⟨[1], fun x => by simp [pev]⟩
theorem Dv.trans {a b c : List Int} (h : Dv a b) (k : Dv b c) : Dv a c := by
  obtain ⟨u, hu⟩ := h; obtain ⟨v, hv⟩ := k
  exact ⟨pmul u v, fun x => by rw [hv, hu, ev_pmul]; grind⟩
theorem Dv.zero (a : List Int) {b : List Int} (h : ∀ x, pev b x = 0) : Dv a b := ⟨[], fun x => by rw [h]; simp [pev]⟩
theorem Dv.mul_right {a b c d : List Int} (h : Dv a b) (e : ∀ x, pev d x = pev b x * pev c x) : Dv a d := by
  obtain ⟨u, hu⟩ := h
  exact ⟨pmul u c, fun x => by rw [e, hu, ev_pmul]; grind⟩
theorem Dv.add {a b c d : List Int} (h : Dv a b) (k : Dv a c) (e : ∀ x, pev d x = pev b x + pev c x) : Dv a d := by
  obtain ⟨u, hu⟩ := h; obtain ⟨v, hv⟩ := k
  exact ⟨padd u v, fun x => by rw [e, hu, hv, ev_padd]; grind⟩
theorem Dv.sub {a b c d : List Int} (h : Dv a b) (k : Dv a c) (e : ∀ x, pev d x = pev b x - pev c x) : Dv a d := by
  obtain ⟨u, hu⟩ := h; obtain ⟨v, hv⟩ := k
  exact ⟨psub u v, fun x => by rw [e, hu, hv, ev_psub]; grind⟩
theorem Dv.ext {a b c d : List Int} (h : Dv a b) (h1 : ∀ x, pev a x = pev c x) (h2 : ∀ x, pev b x = pev d x) : Dv c d := by
  obtain ⟨u, hu⟩ := h
  exact ⟨u, fun x => by rw [← h2, hu, h1]⟩
theorem Dv.deg {a b : List Int} (h : Dv a b) (hb : 0 < dg b) : 0 < dg a ∧ dg a ≤ dg b := by
  obtain ⟨u, hu⟩ := h
  have ha : 0 < dg a := dg_pos fun h => by
    have := (dg_zero (l := b)).2 fun x => by rw [hu, h]; simp
    omega
  have h2 : 0 < dg u := dg_pos fun h => by
    have := (dg_zero (l := b)).2 fun x => by rw [hu, h]; simp
    omega
  have := (mul_dg hu ha h2).1
  exact ⟨ha, by omega⟩
-- Contents.
def cont (l : List Int) : Nat := l.foldr (fun c g => Nat.gcd c.natAbs g) 0
end Go.Proofs.Ytfkeohlpcjpkbaa

namespace Go.Proofs.Ytfkeohlpcjpkbaa
/-- A greatest common divisor, its lead not below 0. -/
def Gc (g p q : List Int) : Prop := Dv g p ∧ Dv g q ∧ (∀ h, Dv h p → Dv h q → Dv h g) ∧ 0 ≤ ld g
theorem Gc.ext {g g' p p' q q' : List Int} (h : Gc g p q) (e : ∀ x, pev g x = pev g' x) (e1 : ∀ x, pev p x = pev p' x) (e2 : ∀ x, pev q x = pev q' x) : Gc g' p' q' :=
  ⟨h.1.ext e e1, h.2.1.ext e e2, fun d h1 h2 => (h.2.2.1 d (h1.ext (fun _ => rfl) fun x => (e1 x).symm) (h2.ext (fun _ => rfl) fun x => (e2 x).symm)).ext (fun _ => rfl) e, by rw [← ld_ext e]; exact h.2.2.2⟩
/-- The content, with the sign of the lead. -/
def scont (l : List Int) : Int := if ld l < 0 then - (cont l : Int) else cont l
def pprim (l : List Int) : List Int := nrm ((nrm l).map fun y => y / scont l)
end Go.Proofs.Ytfkeohlpcjpkbaa

namespace Go.Proofs.Ytfkeohlpcjpkbaa
open Go.RowKit
theorem szR.take {k : Nat} {l : List Int} (h : szR k l) (i : Nat) : szR k (l.take i) := fun x hx => h x (List.mem_of_mem_take hx)
end Go.Proofs.Ytfkeohlpcjpkbaa

namespace Go.Proofs.Ytfkeohlpcjpkbaa
open Go.RowKit
theorem lst_map (A : List Int) (f : Int → Int) : lst A.length (fun i => f (A.getD i 0)) = A.map f := by
  refine List.ext_getElem? fun i => ?_
  by_cases h : i < A.length
  · simp [lst, h]
  · simp [lst, h]
end Go.Proofs.Ytfkeohlpcjpkbaa

namespace Go.Proofs.Ytfkeohlpcjpkbaa
open Go.RowKit
theorem ld_nm {l : List Int} (h : Nm l) : ld l = l.getD (l.length - 1) 0 := by unfold ld; rw [dg_nm h]
theorem pLeadN (v : Value) (l : List Int) (hl : Nm l) (h0 : 0 < l.length) :
    Meets Try.prog 77 [v] [(v, vd l)] (fun r os fs => os = [] ∧ fs = [(r, zd (ld l))]) := by
  rw [ld_nm hl]
  exact pLeadT v l (List.length_pos_iff.1 h0)
/-- What Rest tells: t and r with L^d p = q t + r, r of a lesser degree. -/
structure RestSpec (p q t r : List Int) : Prop where
  tn : Nm t
  rn : Nm r
  low : dg r < dg q
  eq : ∀ x, ld q ^ (dg p + 1 - dg q) * pev p x = pev q x * pev t x + pev r x
end Go.Proofs.Ytfkeohlpcjpkbaa

namespace Go.Proofs.Ytfkeohlpcjpkbaa
open Go.RowKit
end Go.Proofs.Ytfkeohlpcjpkbaa

namespace Go.Proofs.Ytfkeohlpcjpkbaa
end Go.Proofs.Ytfkeohlpcjpkbaa

namespace Go.Proofs.Ytfkeohlpcjpkbaa
open Go.RowKit
end Go.Proofs.Ytfkeohlpcjpkbaa

namespace Go.Proofs.Ytfkeohlpcjpkbaa
open Go.RowKit
/-- What is left, as one step of a division takes off. -/
theorem div_dg {R D : List Int} {c : Int} (hD : 0 < dg D) (hR : dg D ≤ dg R) (hc : c * ld D = ld R) : dg (psub R (prai c (dg R - dg D) D)) < dg R := by
  have : dg (psub R (prai c (dg R - dg D) D)) ≤ dg R - 1 := dg_le.2 fun i hi => by
    rw [co_psub, co_prai, if_neg (by omega)]
    by_cases h : i = dg R - 1
    · rw [h, show dg R - 1 - (dg R - dg D) = dg D - 1 by omega]
      show ld R - c * ld D = 0
      omega
    · rw [dg_le.1 (Nat.le_refl (dg R)) i (by omega), dg_le.1 (Nat.le_refl (dg D)) (i - (dg R - dg D)) (by omega)]; simp
  omega
/-- t and the errno that Divide tells. -/
structure DivSpec (p q t : List Int) (e : Int) : Prop where
  tn : Nm t
  zero : dg q = 0 → e = 2 ∧ t = []
  ok : 0 < dg q → Dv q p → e = 0 ∧ ∀ x, pev p x = pev q x * pev t x
  no : 0 < dg q → ¬ Dv q p → e = 11 ∧ t = []
def put (f : Nat → Int) (s : Nat) (c : Int) : Nat → Int := fun y => if y = s then c else f y
theorem ev_put {N s : Nat} {f : Nat → Int} (hs : s < N) (h0 : f s = 0) (c x : Int) : pev (lst N (put f s c)) x = pev (lst N f) x + c * x ^ s := by
  have e : ∀ y, put f s c y = f y + (if s ≤ y then c * [1].getD (y - s) 0 else 0) := fun y => by
    unfold put
    by_cases h : y = s
    · subst h
      rw [if_pos rfl, if_pos (Nat.le_refl _), Nat.sub_self, h0]; simp
    · rw [if_neg h]
      split
      · rw [getD_none (l := [1]) (by simp; omega)]; simp
      · simp
  have e2 : lst N (put f s c) = lst N fun y => f y + (if s ≤ y then c * [1].getD (y - s) 0 else 0) := lst_congr fun y _ => e y
  rw [e2, ev_lst_add, ev_shifted [1] s N (by simp; omega)]
  simp [pev]
theorem div_step {P D R : List Int} {f : Nat → Int} {N : Nat} {c : Int} (hs : R.length - D.length < N) (h0 : f (R.length - D.length) = 0) (e : ∀ x, pev P x = pev D x * pev (lst N f) x + pev R x) :
    ∀ x, pev P x = pev D x * pev (lst N (put f (R.length - D.length) c)) x + pev (psub R (prai c (R.length - D.length) D)) x := fun x => by
  rw [ev_put hs h0, ev_psub, ev_prai, e]; grind
theorem div_no {P D R T : List Int} (e : ∀ x, pev P x = pev D x * pev T x + pev R x) (h : Dv D P) : Dv D R :=
  h.sub (c := pmul D T) ⟨T, fun x => ev_pmul _ _ _⟩ fun x => by rw [e, ev_pmul]; omega
theorem ld_dvd {D R : List Int} (h : Dv D R) (hR : 0 < dg R) : ld D ∣ ld R := by
  obtain ⟨u, hu⟩ := h
  have hd := (show Dv D R from ⟨u, hu⟩).deg hR
  have hu0 : 0 < dg u := dg_pos fun e => by
    have := (dg_zero (l := R)).2 fun x => by rw [hu, e]; simp
    omega
  exact ⟨ld u, (mul_dg hu hd.1 hu0).2⟩
theorem pDivideO_meets (v w : Value) (p q : Row) (k l : Nat) (hp : Fit k p) (hq : Fit l q) (hk : k + (p.length + 1) * (l + 1) ≤ 137438953472) (lp : p.length ≤ 536870912) (lq : q.length ≤ 536870912) :
    Meets Try.prog 46 [v, w] [(v, V p), (w, V q)] (fun r os fs => ∃ a t e, r = .tuple #[a, .int .i64 e] ∧ DivSpec (vv p) (vv q) t e ∧ isSl a ∧ szR (k + (p.length + 1) * (l + 1)) t ∧ os = [ownL 2 J z0 a (t.map cn)] ∧ fs = []) := by
  have hm1 : (p.length + 1) * (l + 1) = p.length * (l + 1) + (l + 1) := Nat.succ_mul _ _
  have n1 := pNorm_meets v p (hp.mono (by omega)) (by omega)
  have n2 := pNorm_meets w q (hq.mono (by omega)) (by omega)
  have sP := hp.szR.nrm
  have sD := hq.szR.nrm
  have la : (nrm (vv p)).length ≤ p.length := Nat.le_trans (nrm_length_le _) (by rw [vv_len]; exact Nat.le_refl _)
  have lb : (nrm (vv q)).length ≤ q.length := Nat.le_trans (nrm_length_le _) (by rw [vv_len]; exact Nat.le_refl _)
  have hPn : Nm (nrm (vv p)) := nrm_nrm _
  have hDn : Nm (nrm (vv q)) := nrm_nrm _
  have hdq : dg (vv q) = (nrm (vv q)).length := rfl
  have hdv : Dv (vv q) (vv p) → Dv (nrm (vv q)) (nrm (vv p)) := fun h => h.ext (fun x => (ev_nrm _ x).symm) fun x => (ev_nrm _ x).symm
  have hbad : 0 < (nrm (vv q)).length → ¬ Dv (nrm (vv q)) (nrm (vv p)) → DivSpec (vv p) (vv q) [] 11 := fun h0 hn => ⟨rfl, fun h => by omega, fun _ h => (hn (hdv h)).elim, fun _ _ => ⟨rfl, rfl⟩⟩
  have hgood : ∀ T, (0 < (nrm (vv q)).length) → (∀ x, pev (nrm (vv p)) x = pev (nrm (vv q)) x * pev T x) → DivSpec (vv p) (vv q) (nrm T) 0 := fun T h0 hn => ⟨nrm_nrm _, fun h => by omega, fun _ _ => ⟨rfl, fun x => by rw [ev_nrm, ← ev_nrm (vv p), ← ev_nrm (vv q)]; exact hn x⟩, fun _ h => (h ⟨T, fun x => by rw [← ev_nrm (vv p), ← ev_nrm (vv q)]; exact hn x⟩).elim⟩
  have hzero : (nrm (vv q)).length = 0 → DivSpec (vv p) (vv q) [] 2 := fun h0 => ⟨rfl, fun _ => ⟨rfl, rfl⟩, fun h => by omega, fun h => by omega⟩
  generalize hA : nrm (vv p) = A at *
  generalize hB : nrm (vv q) = D at *
  generalize hE : k + (p.length + 1) * (l + 1) = E at *
  refine meets_of_vc Try.func46 (by kernel_rfl) rfl (by kernel_rfl) (Nat.le_of_ble_eq_true rfl) ?_
  refine call_fn n1 (Seals.refl _ _) (by repeat (first | exact Sub.nil _ | refine Sub.cons (by repeat (first | exact List.Mem.head _ | apply List.Mem.tail)) ?_)) ?_
  rintro x1 _ _ ⟨rfl, rfl⟩
  refine call_fn n2 (Seals.refl _ _) (by repeat (first | exact Sub.nil _ | refine Sub.cons (by repeat (first | exact List.Mem.head _ | apply List.Mem.tail)) ?_)) ?_
  rintro x2 _ _ ⟨rfl, rfl⟩
  refine len_vd (by repeat (first | exact List.Mem.head _ | apply List.Mem.tail)) ?_
  refine cmp_split _ rfl (fun hz => ?_) (fun hz => ?_)
  · exact fin ⟨_, [], 2, rfl, hzero (by omega), ⟨_, _, _, rfl⟩, fun x hx => by simp at hx, rfl, rfl⟩ (Seals.trans (Seals.nil _ _) (Seals.own_nil _ _ 2 _))
  have hD0 : 0 < D.length := by omega
  have dD := dg_nm hDn
  have hldD : ld D ≠ 0 := ld_ne (by omega)
  refine len_vd (by repeat (first | exact List.Mem.head _ | apply List.Mem.tail)) ?_
  refine len_vd (by repeat (first | exact List.Mem.head _ | apply List.Mem.tail)) ?_
  refine ar rfl (by first | exact ⟨by omega, by omega⟩ | (simp only [inK]; omega)) ?_
  refine ar rfl (by first | exact ⟨by omega, by omega⟩ | (simp only [inK]; omega)) ?_
  refine max2_rule ?_
  refine make_rule (t := 28) (d := I false []) (A.length + 1 - D.length) (by omega) (by omega) (by omega) (by omega) fun u hu => ?_
  generalize hN : A.length + 1 - D.length = N
  refine loop_rule (X := Value × List Int × (Nat → Int) × Nat) (fun x => ([(6, x.1), (7, x2), (8, u)], [own1 u 2 N (fun y => zd (x.2.2.1 y))], [(x2, vd D), (x.1, vd x.2.1)]))
    (fun x => Nm x.2.1 ∧ x.2.1.length + x.2.2.2 ≤ A.length ∧ szR (k + x.2.2.2 * (l + 1)) x.2.1 ∧ (∀ y, sz (x.2.2.1 y) E) ∧ (∀ y, y + D.length ≤ x.2.1.length → x.2.2.1 y = 0) ∧ ∀ x', pev A x' = pev D x' * pev (lst N x.2.2.1) x' + pev x.2.1 x') (fun x => x.2.1.length) rfl ?_ ?_
  · refine again (x1, A, fun _ => 0, 0) ⟨hPn, by simp only; omega, by simp only [Nat.zero_mul, Nat.add_zero]; exact sP, fun _ => sz_zero _, fun _ _ => rfl, fun x => by simp only [ev_lst_zero]; omega⟩ trivial (by repeat (first | exact trivial | refine ⟨rfl, ?_⟩ | refine ⟨i64_eq (by first | omega | (simp only; omega)), ?_⟩ | refine ⟨u64_eq (by first | omega | (simp only; omega)), ?_⟩)) (Seals.trans (Seals.own_cong (os := [_]) 0 (fun _ => zd 0) rfl rfl fun y _ => zero_zd) (Seals.sub (by repeat (first | exact Sub.nil _ | refine Sub.cons (by repeat (first | exact List.Mem.head _ | apply List.Mem.tail)) ?_))))
  · rintro ⟨vr, R, f, j⟩ ⟨g1, g2, g3, g4, g5, g6⟩
    simp only at g1 g2 g3 g4 g5 g6 ⊢
    have dR := dg_nm g1
    refine len_vd (by repeat (first | exact List.Mem.head _ | apply List.Mem.tail)) ?_
    refine len_vd (by repeat (first | exact List.Mem.head _ | apply List.Mem.tail)) ?_
    refine cmp_split _ rfl (fun hge => ?_) (fun hge => ?_)
    · have hge' : D.length ≤ R.length := by omega
      have hsN : R.length - D.length < N := by omega
      have hj1 : (j + 1) * (l + 1) ≤ (p.length + 1) * (l + 1) := Nat.mul_le_mul_right _ (by omega)
      have hj2 : (j + 1) * (l + 1) = j * (l + 1) + (l + 1) := Nat.succ_mul _ _
      have hlR : sz (ld R) (k + j * (l + 1)) := g3.get _
      have hlD : sz (ld D) l := sD.get _
      have hlc : sz (ld R / ld D) (k + j * (l + 1)) := sz_div hlR
      have hlm : sz (ld R % ld D) l := by
        have h1 := Int.emod_nonneg (ld R) hldD
        have h2 := Int.emod_lt (ld R) hldD
        unfold sz at hlD ⊢
        omega
      have hst := div_step (c := ld R / ld D) hsN (g5 _ (by omega)) g6
      have c5 := fun u' u'' => pRaisedT u' u'' D (ld R / ld D) (R.length - D.length) l _ sD hlc (by omega) (by omega) (by omega)
      have s5 : szR (k + j * (l + 1) + l) (prai (ld R / ld D) (R.length - D.length) D) := by
        have := sD.prai hlc (R.length - D.length)
        rwa [Nat.add_comm] at this
      have c6 := fun u' u'' => pSubT u' u'' R (prai (ld R / ld D) (R.length - D.length) D) _ (g3.mono (Nat.le_add_right _ l)) s5 (by omega) (by omega) (by have := prai_len (ld R / ld D) (R.length - D.length) D; omega)
      have z6 : szR (k + (j + 1) * (l + 1)) (psub R (prai (ld R / ld D) (R.length - D.length) D)) := ((g3.mono (Nat.le_add_right _ l)).psub s5).mono (by omega)
      have hnd : ld R % ld D ≠ 0 → ¬ Dv D A := fun h hd => h (Int.emod_eq_zero_of_dvd (ld_dvd (div_no g6 hd) (by omega)))
      have hdg : ld R % ld D = 0 → (psub R (prai (ld R / ld D) (R.length - D.length) D)).length < R.length := fun h => by
        have := div_dg (R := R) (D := D) (c := ld R / ld D) (by omega) (by omega) (Int.ediv_mul_cancel (Int.dvd_of_emod_eq_zero h))
        rw [dR, dD, dg_nm (psub_nm _ _)] at this
        exact this
      have hrn : Nm (psub R (prai (ld R / ld D) (R.length - D.length) D)) := psub_nm _ _
      have hpf : ∀ y, sz (put f (R.length - D.length) (ld R / ld D) y) E := fun y => by
        unfold put; split
        · exact hlc.mono (by omega)
        · exact g4 y
      have hup : ∀ y, upd (fun y => zd (f y)) (R.length - D.length) (zd (ld R / ld D)) y = zd (put f (R.length - D.length) (ld R / ld D) y) := fun y =>
        upd_zd (G := f) (H := put f (R.length - D.length) (ld R / ld D)) (by unfold put; rw [if_pos rfl]) (fun y hy => by unfold put; rw [if_neg hy]) y
      have hcast : ((R.length - D.length : Nat) : Int) = (R.length : Int) - (D.length : Int) := by omega
      have hput : ∀ y, y < R.length - D.length → put f (R.length - D.length) (ld R / ld D) y = f y := fun y hy => by unfold put; rw [if_neg (by omega)]
      generalize hR' : psub R (prai (ld R / ld D) (R.length - D.length) D) = R' at *
      generalize hf' : put f (R.length - D.length) (ld R / ld D) = f' at *
      refine len_vd (by repeat (first | exact List.Mem.head _ | apply List.Mem.tail)) ?_
      refine len_vd (by repeat (first | exact List.Mem.head _ | apply List.Mem.tail)) ?_
      refine ar rfl (by first | exact ⟨by omega, by omega⟩ | (simp only [inK]; omega)) ?_
      refine call_fn (pLeadN vr R g1 (by omega)) (Seals.refl _ _) (by repeat (first | exact Sub.nil _ | refine Sub.cons (by repeat (first | exact List.Mem.head _ | apply List.Mem.tail)) ?_)) ?_
      rintro y1 _ _ ⟨rfl, rfl⟩
      refine call_fn (pLeadN x2 D hDn hD0) (Seals.refl _ _) (by repeat (first | exact Sub.nil _ | refine Sub.cons (by repeat (first | exact List.Mem.head _ | apply List.Mem.tail)) ?_)) ?_
      rintro y2 _ _ ⟨rfl, rfl⟩
      refine call_fn (zDivModZ y1 y2 _ _ _ _ hlR hlD (by omega) (by omega) hldD) (Seals.refl _ _) (by repeat (first | exact Sub.nil _ | refine Sub.cons (by repeat (first | exact List.Mem.head _ | apply List.Mem.tail)) ?_)) ?_
      rintro _ _ _ ⟨rfl, y3, y4, rfl, rfl⟩
      refine alloc_rule (d := I false []) fun c hc => ?_
      refine alloc_rule (d := I false []) fun m hm => ?_
      refine store_box (d := zd (ld R / ld D)) 1 rfl hc rfl (by kernel_rfl) ?_ ?_; exact Reads.fact (by repeat (first | exact List.Mem.head _ | apply List.Mem.tail))
      refine store_box (d := zd (ld R % ld D)) 0 rfl hm rfl (by kernel_rfl) ?_ ?_; exact Reads.fact (by repeat (first | exact List.Mem.head _ | apply List.Mem.tail))
      refine load_box (d := zd (ld R % ld D)) 0 rfl hm rfl (load_I _ _) fun y5 => ?_
      refine call_fn (zSignZ y5 _ _ hlm (by omega)) (Seals.refl _ _) (by repeat (first | exact Sub.nil _ | refine Sub.cons (by repeat (first | exact List.Mem.head _ | apply List.Mem.tail)) ?_)) ?_
      rintro _ _ _ ⟨rfl, rfl, rfl⟩
      refine cmp_split _ rfl (fun hne => ?_) (fun hne => ?_)
      · have h11 := hbad hD0 (hnd fun h => hne (by rw [h]; rfl))
        exact fin ⟨_, [], 11, rfl, h11, ⟨_, _, _, rfl⟩, fun x hx => by simp at hx, rfl, rfl⟩ (Seals.trans (Seals.drop 0 _ _) (Seals.trans (Seals.drop 0 _ _) (Seals.trans (Seals.drop 0 _ _) (Seals.trans (Seals.nil _ _) (Seals.own_nil _ _ 2 _)))))
      · have h0 : ld R % ld D = 0 := Int.sign_eq_zero_iff_zero.1 (by omega)
        have hlen := hdg h0
        refine load_box (d := zd (ld R / ld D)) 1 rfl hc rfl (load_I _ _) fun y6 => ?_
        refine index_elem 2 rfl hu (R.length - D.length) (by omega) hsN ?_
        refine StoreK.post (store_elem (d := zd (ld R / ld D)) 2 rfl (R.length - D.length) hsN rfl (by kernel_rfl) (Reads.fact (by repeat (first | exact List.Mem.head _ | apply List.Mem.tail))) ⟨_, _, Seals.own_cong (os := [_, _, _]) 2 (fun y => zd (f' y)) rfl rfl (fun y _ => hup y), ?_⟩)
        refine load_box (d := zd (ld R / ld D)) 1 rfl hc rfl (load_I _ _) fun y7 => ?_
        have c5' := c5 x2 y7
        rw [hcast] at c5'
        refine call_fn c5' (Seals.refl _ _) (by repeat (first | exact Sub.nil _ | refine Sub.cons (by repeat (first | exact List.Mem.head _ | apply List.Mem.tail)) ?_)) ?_
        rintro y8 _ _ ⟨rfl, rfl⟩
        refine call_fn (c6 vr y8) (Seals.refl _ _) (by repeat (first | exact Sub.nil _ | refine Sub.cons (by repeat (first | exact List.Mem.head _ | apply List.Mem.tail)) ?_)) ?_
        rintro y9 _ _ ⟨rfl, rfl⟩
        refine again (y9, R', f', j + 1) ⟨hrn, by simp only; omega, z6, hpf, fun y hy => ?_, hst⟩ (by simp only; omega) (by repeat (first | exact trivial | refine ⟨rfl, ?_⟩ | refine ⟨i64_eq (by first | omega | (simp only; omega)), ?_⟩ | refine ⟨u64_eq (by first | omega | (simp only; omega)), ?_⟩)) (Seals.trans (Seals.drop 0 _ _) (Seals.trans (Seals.drop 0 _ _) (Seals.sub (by repeat (first | exact Sub.nil _ | refine Sub.cons (by repeat (first | exact List.Mem.head _ | apply List.Mem.tail)) ?_)))))
        simp only at hy ⊢
        rw [hput y (by omega)]
        exact g5 y (by omega)
    · refine len_vd (by repeat (first | exact List.Mem.head _ | apply List.Mem.tail)) ?_
      refine cmp_split _ rfl (fun hp0 => ?_) (fun hp0 => ?_)
      · have h11 := hbad hD0 fun hd => by
          have := (div_no g6 hd).deg (by omega)
          omega
        exact fin ⟨_, [], 11, rfl, h11, ⟨_, _, _, rfl⟩, fun x hx => by simp at hx, rfl, rfl⟩ (Seals.trans (Seals.drop 0 _ _) (Seals.trans (Seals.nil _ _) (Seals.own_nil _ _ 2 _)))
      · have hR0 : R = [] := List.length_eq_zero_iff.1 (by omega)
        have hok := hgood (lst N f) hD0 fun x => by
          have := g6 x
          rw [hR0] at this
          simp only [pev] at this; omega
        have hsl : szR E (lst N f) := szR.lst fun y _ => g4 y
        have hn := pNormO_meets u ((lst N f).map cn) (hsl.mono hk).fit (by rw [List.length_map, lst_len]; omega)
        rw [vv_cn] at hn
        refine call_fn hn (Seals.told (g := f) hu fun y _ => rfl) (by repeat (first | exact Sub.nil _ | refine Sub.cons (by repeat (first | exact List.Mem.head _ | apply List.Mem.tail)) ?_)) ?_
        rintro r _ _ ⟨hr, rfl, rfl⟩
        exact fin ⟨r, _, 0, rfl, hok, hr, hsl.nrm, rfl, rfl⟩ (Seals.sub (by repeat (first | exact Sub.nil _ | refine Sub.cons (by repeat (first | exact List.Mem.head _ | apply List.Mem.tail)) ?_)))
end Go.Proofs.Ytfkeohlpcjpkbaa

namespace Go.Proofs.Ytfkeohlpcjpkbaa
-- What no other one divides.
-- Derivatives.
def pder (l : List Int) : List Int := nrm (lst (l.length - 1) fun i => ((i + 1 : Nat) : Int) * l.getD (i + 1) 0)
end Go.Proofs.Ytfkeohlpcjpkbaa

namespace Go.Proofs.Ytfkeohlpcjpkbaa
open Go.RowKit
theorem pDivide_meets (v w : Value) (p q : Row) (k l : Nat) (hp : Fit k p) (hq : Fit l q) (hk : k + (p.length + 1) * (l + 1) ≤ 137438953472) (lp : p.length ≤ 536870912) (lq : q.length ≤ 536870912) :
    Meets Try.prog 46 [v, w] [(v, V p), (w, V q)] (fun r os fs => os = [] ∧ ∃ a t e, r = .tuple #[a, .int .i64 e] ∧ DivSpec (vv p) (vv q) t e ∧ szR (k + (p.length + 1) * (l + 1)) t ∧ fs = [(a, vd t)]) :=
  (pDivideO_meets v w p q k l hp hq hk lp lq).closed fun r os fs ⟨a, t, e, h1, h2, h3, h4, h5, h6⟩ => by
    subst h5 h6
    exact ⟨[], [(a, vd t)], ⟨rfl, a, t, e, h1, h2, h4, rfl⟩, Seals.toldL h3⟩
theorem pDivideT (v w : Value) (p q : List Int) (k l : Nat) (hp : szR k p) (hq : szR l q) (hk : k + (p.length + 1) * (l + 1) ≤ 137438953472) (lp : p.length ≤ 536870912) (lq : q.length ≤ 536870912) :
    Meets Try.prog 46 [v, w] [(v, vd p), (w, vd q)] (fun r os fs => os = [] ∧ ∃ a t e, r = .tuple #[a, .int .i64 e] ∧ DivSpec p q t e ∧ szR (k + (p.length + 1) * (l + 1)) t ∧ fs = [(a, vd t)]) := by
  have h := pDivide_meets v w (p.map cn) (q.map cn) k l hp.fit hq.fit (by rw [List.length_map]; exact hk) (by rw [List.length_map]; exact lp) (by rw [List.length_map]; exact lq)
  rw [vv_cn, vv_cn, List.length_map] at h
  exact h
theorem lst_snoc (n : Nat) (f : Nat → Int) : lst (n + 1) f = lst n f ++ [f n] := by
  simp [lst, List.range_succ]
end Go.Proofs.Ytfkeohlpcjpkbaa

namespace Go.Proofs.Ytfkeohlpcjpkbaa
open Go.RowKit
end Go.Proofs.Ytfkeohlpcjpkbaa

namespace Go.Proofs.Ytfkeohlpcjpkbaa
open Go.RowKit
/-- What Simple tells. -/
structure SimSpec (p s : List Int) : Prop where
  sn : Nm s
  zero : dg p = 0 → s = []
  ok : 0 < dg p → ∃ g, Gc g (pprim p) (pder (pprim p)) ∧ ∀ x, pev (pprim p) x = pev g x * pev s x
end Go.Proofs.Ytfkeohlpcjpkbaa

namespace Go.Proofs.Ytfkeohlpcjpkbaa
open Go.RowKit
theorem ev_lst_snoc (n : Nat) (f : Nat → Int) (x : Int) : pev (lst (n + 1) f) x = pev (lst n f) x + x ^ n * f n := by
  rw [lst_snoc, ev_append, lst_len]; simp [pev]
/-- Of the numbers from i on, those above m are already moved. -/
def ShI (n : Nat) (a : Int) (U : Int → Int) (f : Nat → Int) (i m : Nat) : Prop :=
  ∀ x, U x = pev (lst (m - i) fun y => f (i + y)) x + x ^ (m - i) * (f m + (x - a) * pev (lst (n - 1 - m) fun y => f (m + 1 + y)) x)
def ShO (n : Nat) (a : Int) (P : Int → Int) (f : Nat → Int) (i : Nat) : Prop :=
  ∀ x, P x = pev (lst i f) (x - a) + (x - a) ^ i * pev (lst (n - i) fun y => f (i + y)) x
theorem ShI.start {n i : Nat} {a : Int} {f : Nat → Int} (h : i < n) : ShI n a (fun x => pev (lst (n - i) fun y => f (i + y)) x) f i (n - 1) := fun x => by
  have e : n - i = (n - 1 - i) + 1 := by omega
  have e2 : i + (n - 1 - i) = n - 1 := by omega
  simp only
  rw [e, ev_lst_snoc, e2, show n - 1 - (n - 1) = 0 by omega]
  simp [lst, pev]
theorem ShI.step {n i m : Nat} {a : Int} {U : Int → Int} {f : Nat → Int} (h : ShI n a U f i m) (hm : i < m) (hn : m ≤ n - 1) : ShI n a U (put f (m - 1) (f (m - 1) + a * f m)) i (m - 1) := fun x => by
  rw [h x]
  have e : m - i = (m - 1 - i) + 1 := by omega
  have e2 : i + (m - 1 - i) = m - 1 := by omega
  have e3 : n - 1 - (m - 1) = (n - 1 - m) + 1 := by omega
  have c1 : lst (m - 1 - i) (fun y => put f (m - 1) (f (m - 1) + a * f m) (i + y)) = lst (m - 1 - i) fun y => f (i + y) := lst_congr fun y hy => by unfold put; rw [if_neg (by omega)]
  have c2 : lst (n - 1 - m) (fun y => put f (m - 1) (f (m - 1) + a * f m) (m - 1 + 1 + (y + 1))) = lst (n - 1 - m) fun y => f (m + 1 + y) := lst_congr fun y hy => by unfold put; rw [if_neg (by omega)]; congr 1; omega
  have c3 : put f (m - 1) (f (m - 1) + a * f m) (m - 1 + 1 + 0) = f m := by unfold put; rw [if_neg (by omega)]; congr 1; omega
  have c4 : put f (m - 1) (f (m - 1) + a * f m) (m - 1) = f (m - 1) + a * f m := by unfold put; rw [if_pos rfl]
  rw [e, ev_lst_snoc, e2, e3, ev_lst_succ, c1, c2, c3, c4, Int.pow_succ]
  grind
theorem ShO.next {n i : Nat} {a : Int} {P : Int → Int} {f f' : Nat → Int} (h : ShO n a P f i) (hi : i < n) (hs : ShI n a (fun x => pev (lst (n - i) fun y => f (i + y)) x) f' i i) (hf : ∀ y, y < i → f' y = f y) : ShO n a P f' (i + 1) := fun x => by
  have h1 := hs x
  simp only [Nat.sub_self, Int.pow_zero] at h1
  have c1 : lst i f = lst i f' := lst_congr fun y hy => (hf y hy).symm
  rw [h x, h1, c1, ev_lst_snoc, show n - (i + 1) = n - 1 - i by omega, Int.pow_succ]
  simp only [lst, List.range_zero, List.map_nil, pev]
  grind
end Go.Proofs.Ytfkeohlpcjpkbaa

namespace Go.Proofs.Ytfkeohlpcjpkbaa
open Go.RowKit
end Go.Proofs.Ytfkeohlpcjpkbaa

namespace Go.Proofs.Ytfkeohlpcjpkbaa
open Go.RowKit
end Go.Proofs.Ytfkeohlpcjpkbaa

namespace Go.Proofs.Ytfkeohlpcjpkbaa
open Go.RowKit
theorem deg_dg (l : List Int) : deg l = (dg l : Int) - 1 := by
  have h1 := degTo_le l l.length (dg l) (dg_le_len l) fun j h _ => dg_le.1 (Nat.le_refl _) j h
  unfold deg
  rw [h1]
  by_cases h0 : dg l = 0
  · rw [h0]; rfl
  · have h2 := ld_ne (l := l) (by omega)
    unfold ld at h2
    obtain ⟨m, hm⟩ : ∃ m, dg l = m + 1 := ⟨dg l - 1, by omega⟩
    rw [hm] at h2 ⊢
    simp only [degTo, Nat.add_sub_cancel] at h2 ⊢
    rw [if_neg h2]; omega
end Go.Proofs.Ytfkeohlpcjpkbaa

namespace Go.Proofs.Ytfkeohlpcjpkbaa
open Go.RowKit
end Go.Proofs.Ytfkeohlpcjpkbaa

namespace Go.Proofs.Ytfkeohlpcjpkbaa
open Go.RowKit
end Go.Proofs.Ytfkeohlpcjpkbaa

namespace Go.Proofs.Ytfkeohlpcjpkbaa
open Go.RowKit
instance : TSl Try.prog 23 27 1 := ⟨Try.underlying23, by kernel_rfl⟩
instance : TOne Try.prog 23 := ⟨⟨_, Try.underlying23, trivial⟩, by kernel_rfl⟩
instance tmS : TMap Try.prog 68 71 39 :=
  ⟨Try.underlying68, Maps.Keyed.of_law (deep_law_laid (m := 3) (by kernel_rfl) (by decide) (Nat.le_of_ble_eq_true (by kernel_rfl)) (by kernel_rfl) (by kernel_rfl))⟩
instance tsS : TSpot Try.prog 71 :=
  ⟨⟨_, _, Try.underlying71, rfl, rfl, by kernel_rfl, by kernel_rfl, Try.underlying3, Try.underlying3, by kernel_rfl, by kernel_rfl, by kernel_rfl⟩, by kernel_rfl, ⟨Try.prog.types.size - 1, by kernel_rfl⟩⟩
theorem info_spot : (Try.prog.info? 71).map (fun i => (i.zero, i.size, i.bytes)) = some (some (.agg #[.int .i64 0, .int .i64 0]), 2, 16) := by kernel_rfl
instance : TStr2 Try.prog 71 (.int .i64 0) (.int .i64 0) := ⟨⟨_, _, _, Try.underlying71, rfl, rfl, rfl, by kernel_rfl, by kernel_rfl⟩, by
  obtain ⟨i, h1, _, _, h4⟩ := info_of info_spot
  exact ⟨i, h1, h4⟩⟩
instance : TAgg Try.prog 71 2 := ⟨⟨_, Try.underlying71⟩, by kernel_rfl⟩
instance : TFld Try.prog 71 0 0 := ⟨_, _, Try.underlying71, rfl, rfl, 0, by kernel_rfl⟩
instance : TFld Try.prog 71 1 1 := ⟨_, _, Try.underlying71, rfl, rfl, 0, by kernel_rfl⟩
instance tzS : TZero Try.prog 71 (spotD 0 0) := tzero info_spot fun _ _ => ⟨[_], [_], rfl, ⟨rfl, rfl⟩, ⟨rfl, rfl⟩⟩
instance tvI : TZeroV Try.prog 39 (J z0) := ⟨by
  obtain ⟨i, h1, _, _, h4⟩ := info_of info_int
  exact ⟨i, _, h1, h4, fun S w => ⟨_, ⟨[.bool false], [.slice none 0 0], rfl, rd_false S w, rd_nil S w 1 _⟩, rfl⟩⟩⟩
-- The coefficients that are not 0, in order.
abbrev Ent3 := Nat × Nat × (Bool × List Nat)
def tr (i : Nat) (r : Row) : Nat → List Ent3
  | 0 => []
  | n + 1 => tr i r n ++ if jv (r.getD n z0) = 0 then [] else [(i, n, r.getD n z0)]
def tg (g : List Row) : Nat → List Ent3
  | 0 => []
  | n + 1 => tg g n ++ tr n (g.getD n []) (g.getD n []).length
theorem tr_mem {i : Nat} {r : Row} {n : Nat} {t : Ent3} (h : t ∈ tr i r n) : t.1 = i ∧ t.2.1 < n ∧ t.2.2 = r.getD t.2.1 z0 ∧ jv t.2.2 ≠ 0 := by
  induction n with
  | zero => simp [tr] at h
  | succ n ih =>
    simp only [tr, List.mem_append] at h
    rcases h with h | h
    · obtain ⟨h1, h2, h3⟩ := ih h; exact ⟨h1, by omega, h3⟩
    · split at h
      · simp at h
      · rename_i hz
        simp only [List.mem_singleton] at h
        subst h
        exact ⟨rfl, Nat.lt_succ_self _, rfl, hz⟩
theorem tg_mem {g : List Row} {n : Nat} {t : Ent3} (h : t ∈ tg g n) : t.1 < n ∧ t.2.1 < (g.getD t.1 []).length ∧ t.2.2 = (g.getD t.1 []).getD t.2.1 z0 ∧ jv t.2.2 ≠ 0 := by
  induction n with
  | zero => simp [tg] at h
  | succ n ih =>
    simp only [tg, List.mem_append] at h
    rcases h with h | h
    · obtain ⟨h1, h2⟩ := ih h; exact ⟨by omega, h2⟩
    · obtain ⟨h1, h2, h3, h4⟩ := tr_mem h
      subst h1
      exact ⟨Nat.lt_succ_self _, h2, h3, h4⟩
theorem tr_nd (i : Nat) (r : Row) (n : Nat) : Nd (tr i r n) := by
  induction n with
  | zero => exact List.Pairwise.nil
  | succ n ih =>
    refine List.pairwise_append.2 ⟨ih, ?_, fun s hs t ht => ?_⟩
    · split
      · exact List.Pairwise.nil
      · exact List.pairwise_singleton _ _
    · split at ht
      · simp at ht
      · simp only [List.mem_singleton] at ht
        subst ht
        have := (tr_mem hs).2.1
        simp only
        omega
theorem tg_nd (g : List Row) (n : Nat) : Nd (tg g n) := by
  induction n with
  | zero => exact List.Pairwise.nil
  | succ n ih =>
    refine List.pairwise_append.2 ⟨ih, tr_nd _ _ _, fun s hs t ht => ?_⟩
    have h1 := (tg_mem hs).1
    have h2 := (tr_mem ht).1
    omega
theorem tr_len (i : Nat) (r : Row) (n : Nat) : (tr i r n).length ≤ n := by
  induction n with
  | zero => exact Nat.le_refl _
  | succ n ih =>
    simp only [tr, List.length_append]
    split <;> simp only [List.length_nil, List.length_cons] <;> omega
theorem tg_len {g : List Row} {c : Nat} (hc : ∀ r, r ∈ g → r.length ≤ c) (n : Nat) : (tg g n).length ≤ n * c := by
  induction n with
  | zero => exact Nat.zero_le _
  | succ n ih =>
    have h1 := tr_len n (g.getD n []) (g.getD n []).length
    have h2 : (g.getD n []).length ≤ c := by
      by_cases hn : n < g.length
      · exact hc _ (by rw [List.getD_eq_getElem?_getD, List.getElem?_eq_getElem hn]; exact List.getElem_mem hn)
      · rw [List.getD_eq_getElem?_getD, List.getElem?_eq_none (by omega)]; exact Nat.zero_le _
    simp only [tg, List.length_append, Nat.succ_mul]
    omega
theorem mput_new {L : List Ent3} {i j : Nat} (h : ∀ t, t ∈ L → ¬ (t.1 = i ∧ t.2.1 = j)) (a : Bool × List Nat) : mput L i j a = L ++ [(i, j, a)] := by
  unfold mput
  rw [List.findIdx?_eq_none_iff.2 fun t ht => by
    have := h t ht
    cases hb : (t.1 == i && t.2.1 == j)
    · rfl
    · simp only [Bool.and_eq_true, beq_iff_eq] at hb; exact absurd hb this]
theorem gterms_meets (v : Value) (g : List Row) (hk : ∀ r, r ∈ g → r.length ≤ 1048576 ∧ Fit 137438953472 r) (lg : g.length ≤ 1048576) :
    Meets Try.prog 50 [v] [(v, W g)] (fun r os fs => os = [] ∧ (∃ b, r = .map (some b)) ∧ fs = [(r, MD J z0 (tg g g.length))]) := by
  refine meets_of_vc Try.func50 (by kernel_rfl) rfl (by kernel_rfl) (Nat.le_of_ble_eq_true rfl) ?_
  refine make_L J z0 fun m hm => ?_
  refine len_fact (by repeat (first | exact List.Mem.head _ | apply List.Mem.tail)) fun _ => ?_
  refine loop_rule (X := Nat) (fun i => ([(3, m), (9, v), (10, .int .i64 (g.length : Nat)), (11, .int .i64 (i : Nat))], [ownMD J z0 m (tg g i)], [(v, W g)])) (fun i => i ≤ g.length) (fun i => g.length - i) rfl ?_ ?_
  · exact again 0 (Nat.zero_le _) trivial (by repeat (first | exact trivial | refine ⟨rfl, ?_⟩ | refine ⟨i64_eq (by first | omega | (simp only; omega)), ?_⟩ | refine ⟨u64_eq (by first | omega | (simp only; omega)), ?_⟩)) (Seals.sub (by repeat (first | exact Sub.nil _ | refine Sub.cons (by repeat (first | exact List.Mem.head _ | apply List.Mem.tail)) ?_)))
  · rintro i hi
    refine cmp_split _ rfl (fun hlt => ?_) (fun hlt => ?_)
    · have hin : i < g.length := by omega
      have hrm : g.getD i [] ∈ g := by rw [List.getD_eq_getElem?_getD, List.getElem?_eq_getElem hin]; exact List.getElem_mem hin
      obtain ⟨hrl, hrf⟩ := hk _ hrm
      have hlen := tg_len (fun r hr => (hk r hr).1) i
      have hmul : i * 1048576 ≤ 1048576 * 1048576 := Nat.mul_le_mul_right _ (by omega)
      have hmem := fun t => tg_mem (g := g) (n := i) (t := t)
      have hnd := tg_nd g i
      have hstep : tg g (i + 1) = tg g i ++ tr i (g.getD i []) (g.getD i []).length := rfl
      refine index_fact (by repeat (first | exact List.Mem.head _ | apply List.Mem.tail)) i rfl hin fun b1 => ?_
      refine load_fact (d := V (g.getD i [])) (by repeat (first | exact List.Mem.head _ | apply List.Mem.tail)) (show TOne Try.prog 27 from inferInstance) fun u => ?_
      generalize g.getD i [] = r at *
      generalize hT : tg g i = T at *
      refine len_fact (by repeat (first | exact List.Mem.head _ | apply List.Mem.tail)) fun _ => ?_
      refine loop_rule (X := Nat) (fun j => ([(3, m), (4, .int .i64 (i : Nat)), (9, v), (10, .int .i64 (g.length : Nat)), (11, .int .i64 (i : Nat)), (16, u), (17, .int .i64 (r.length : Nat)), (18, .int .i64 (j : Nat))], [ownMD J z0 m (T ++ tr i r j)], [(u, V r), (v, W g)])) (fun j => j ≤ r.length) (fun j => r.length - j) rfl ?_ ?_
      · refine again 0 (Nat.zero_le _) trivial (by repeat (first | exact trivial | refine ⟨rfl, ?_⟩ | refine ⟨i64_eq (by first | omega | (simp only; omega)), ?_⟩ | refine ⟨u64_eq (by first | omega | (simp only; omega)), ?_⟩)) ?_
        rw [show T ++ tr i r 0 = T from List.append_nil _]
        exact Seals.sub (by repeat (first | exact Sub.nil _ | refine Sub.cons (by repeat (first | exact List.Mem.head _ | apply List.Mem.tail)) ?_))
      · rintro j hj
        refine cmp_split _ rfl (fun hlt2 => ?_) (fun hlt2 => ?_)
        · have hjr : j < r.length := by omega
          have hx := hrf.get j
          have hs := fun u => zsign_meets u (r.getD j z0).1 (r.getD j z0).2 hx.1 hx.2
          have hstep2 : tr i r (j + 1) = tr i r j ++ if jv (r.getD j z0) = 0 then [] else [(i, j, r.getD j z0)] := rfl
          have htm := fun t => tr_mem (i := i) (r := r) (n := j) (t := t)
          have htl := tr_len i r j
          have hnd2 : Nd (T ++ tr i r j) := List.pairwise_append.2 ⟨hnd, tr_nd _ _ _, fun s hs t ht => by
            have h1 := (hmem s hs).1
            have h2 := (htm t ht).1
            omega⟩
          have hin64 : In64 (T ++ tr i r j) := fun t ht => by
            rcases List.mem_append.1 ht with ht | ht
            · obtain ⟨h1, h2, _⟩ := hmem t ht
              have : (g.getD t.1 []).length ≤ 1048576 := (hk _ (by rw [List.getD_eq_getElem?_getD, List.getElem?_eq_getElem (by omega)]; exact List.getElem_mem _)).1
              omega
            · obtain ⟨h1, h2, _⟩ := htm t ht
              omega
          have hnew := mput_new (L := T ++ tr i r j) (i := i) (j := j) (fun t ht e => by
            rcases List.mem_append.1 ht with ht | ht
            · have := (hmem t ht).1; omega
            · have := (htm t ht).2.1; omega) (r.getD j z0)
          refine index_fact (by repeat (first | exact List.Mem.head _ | apply List.Mem.tail)) j rfl hjr fun b2 => ?_
          refine load_fact (d := J (r.getD j z0)) (by repeat (first | exact List.Mem.head _ | apply List.Mem.tail)) (load_J _) fun y1 => ?_
          refine alloc_rule (d := I false []) fun q hq => ?_
          refine store_box (d := J (r.getD j z0)) 0 rfl hq rfl (by kernel_rfl) ?_ ?_; exact Reads.fact (by repeat (first | exact List.Mem.head _ | apply List.Mem.tail))
          refine load_box (d := J (r.getD j z0)) 0 rfl hq rfl (load_J _) fun y2 => ?_
          refine call_fn (hs y2) (Seals.refl _ _) (by repeat (first | exact Sub.nil _ | refine Sub.cons (by repeat (first | exact List.Mem.head _ | apply List.Mem.tail)) ?_)) ?_
          rintro _ _ _ ⟨rfl, rfl, rfl⟩
          by_cases h0 : jv (r.getD j z0) = 0
          · refine cmp_false rfl (fun hne => hne (by show (jv (r.getD j z0)).sign = 0; rw [h0]; rfl)) ?_
            refine ar rfl (by first | exact ⟨by omega, by omega⟩ | (simp only [inK]; omega)) ?_
            refine again (j + 1) (by omega) (by simp only; omega) (by repeat (first | exact trivial | refine ⟨rfl, ?_⟩ | refine ⟨i64_eq (by first | omega | (simp only; omega)), ?_⟩ | refine ⟨u64_eq (by first | omega | (simp only; omega)), ?_⟩)) ?_
            rw [hstep2, if_pos h0, List.append_nil]
            exact Seals.trans (Seals.drop 0 _ _) (Seals.sub (by repeat (first | exact Sub.nil _ | refine Sub.cons (by repeat (first | exact List.Mem.head _ | apply List.Mem.tail)) ?_)))
          · refine cmp_true rfl (fun e => h0 (Int.sign_eq_zero_iff_zero.1 e)) ?_
            refine build_spot ?_
            refine load_box (d := J (r.getD j z0)) 0 rfl hq rfl (load_J _) fun y3 => ?_
            refine put_L (r.getD j z0) 1 rfl hm hin64 hnd2 (by omega) (by omega) (by simp only [List.length_append]; unfold maxLen; omega) (Knw.fact (by repeat (first | exact List.Mem.head _ | apply List.Mem.tail))) ?_
            rw [hnew]
            refine ar rfl (by first | exact ⟨by omega, by omega⟩ | (simp only [inK]; omega)) ?_
            refine again (j + 1) (by omega) (by simp only; omega) (by repeat (first | exact trivial | refine ⟨rfl, ?_⟩ | refine ⟨i64_eq (by first | omega | (simp only; omega)), ?_⟩ | refine ⟨u64_eq (by first | omega | (simp only; omega)), ?_⟩)) ?_
            rw [hstep2, if_neg h0, ← List.append_assoc]
            exact Seals.trans (Seals.drop 0 _ _) (Seals.sub (by repeat (first | exact Sub.nil _ | refine Sub.cons (by repeat (first | exact List.Mem.head _ | apply List.Mem.tail)) ?_)))
        · have hjr : j = r.length := by omega
          subst hjr
          refine ar rfl (by first | exact ⟨by omega, by omega⟩ | (simp only [inK]; omega)) ?_
          refine again (i + 1) (by omega) (by simp only; omega) (by repeat (first | exact trivial | refine ⟨rfl, ?_⟩ | refine ⟨i64_eq (by first | omega | (simp only; omega)), ?_⟩ | refine ⟨u64_eq (by first | omega | (simp only; omega)), ?_⟩)) ?_
          rw [hstep]
          exact Seals.sub (by repeat (first | exact Sub.nil _ | refine Sub.cons (by repeat (first | exact List.Mem.head _ | apply List.Mem.tail)) ?_))
    · have hip : i = g.length := by omega
      subst hip
      exact fin ⟨rfl, hm, rfl⟩ (Seals.trans (Seals.mapL 0 rfl hm) (Seals.sub (by repeat (first | exact Sub.nil _ | refine Sub.cons (by repeat (first | exact List.Mem.head _ | apply List.Mem.tail)) ?_))))
end Go.Proofs.Ytfkeohlpcjpkbaa

namespace Go.Proofs.Ytfkeohlpcjpkbaa
open Go.RowKit
/-- A grid without its last rows that are empty. -/
def gtr : List (List Int) → List (List Int)
  | [] => []
  | r :: g => match gtr g with
    | [] => if r = [] then [] else [r]
    | s :: t => r :: s :: t
theorem gtr_snoc_nil (l : List (List Int)) : gtr (l ++ [[]]) = gtr l := by
  induction l with
  | nil => rfl
  | cons r l ih => simp only [List.cons_append, gtr, ih]
theorem gtr_snoc_ne {r : List Int} (h : r ≠ []) (l : List (List Int)) : gtr (l ++ [r]) = l ++ [r] := by
  induction l with
  | nil => simp [gtr, h]
  | cons s l ih =>
    simp only [List.cons_append, gtr, ih]
    cases l <;> rfl
def rowL (L : List Ent3) (i n : Nat) : Row := (List.range n).map fun j => lk z0 L i j
def laidN (L : List Ent3) (c n : Nat) : List (List Int) := (List.range n).map fun i => nrm (vv (rowL L i c))
theorem rowL_len (L : List Ent3) (i n : Nat) : (rowL L i n).length = n := by simp [rowL]
theorem rowL_get (L : List Ent3) {i n j : Nat} (h : j < n) : (rowL L i n).getD j z0 = lk z0 L i j := by simp [rowL, List.getD_eq_getElem?_getD, h]
theorem laidN_len (L : List Ent3) (c n : Nat) : (laidN L c n).length = n := by simp [laidN]
theorem laidN_succ (L : List Ent3) (c n : Nat) : laidN L c (n + 1) = laidN L c n ++ [nrm (vv (rowL L n c))] := by simp [laidN, List.range_succ]
theorem lk_mem {L : List Ent3} {i j : Nat} : lk z0 L i j = z0 ∨ ∃ t, t ∈ L ∧ t.1 = i ∧ t.2.1 = j ∧ lk z0 L i j = t.2.2 := by
  unfold lk
  cases hf : L.find? fun t => t.1 == i && t.2.1 == j with
  | none => exact .inl rfl
  | some t =>
    have h1 := List.find?_some hf
    simp only [Bool.and_eq_true, beq_iff_eq] at h1
    exact .inr ⟨t, List.mem_of_find?_eq_some hf, h1.1, h1.2, rfl⟩
theorem lay_s (F : Nat → Bool × List Nat) (j y : Nat) : upd (fun y => J (if y < j then F y else z0)) j (J (F j)) y = J (if y < j + 1 then F y else z0) := by
  unfold upd
  by_cases h : y = j
  · subst h; rw [if_pos rfl, if_pos (by omega)]
  · rw [if_neg h]
    show J (if y < j then F y else z0) = J (if y < j + 1 then F y else z0)
    by_cases h2 : y < j
    · rw [if_pos h2, if_pos (by omega)]
    · rw [if_neg h2, if_neg (by omega)]
theorem glaid_meets (v : Value) (L : List Ent3) (n c : Nat) (hL : In64 L) (hnd : Nd L) (hf : ∀ t, t ∈ L → Lim t.2.2.2 ∧ t.2.2.2.length ≤ 137438953472) (hn : n ≤ 1048576) (hc : c ≤ 1048576) :
    Meets Try.prog 53 [v, .int .i64 ((n : Nat) - 1 : Int), .int .i64 ((c : Nat) - 1 : Int)] [(v, MD J z0 L)] (fun r os fs => os = [] ∧ fs = [(r, wd (gtr (laidN L c n)))]) := by
  refine meets_of_vc Try.func53 (by kernel_rfl) rfl (by kernel_rfl) (Nat.le_of_ble_eq_true rfl) ?_
  refine ar rfl (by first | exact ⟨by omega, by omega⟩ | (simp only [inK]; omega)) ?_
  refine loop_rule (X := Nat × Value) (fun x => ([(0, v), (1, .int .i64 ((n : Nat) - 1 : Int)), (2, .int .i64 ((c : Nat) - 1 : Int)), (7, x.2), (12, .int .i64 (n : Nat)), (13, .int .i64 (x.1 : Nat))], [ownL 1 V [] x.2 ((laidN L c x.1).map (·.map cn))], [(v, MD J z0 L)]))
    (fun x => x.1 ≤ n ∧ isSl x.2) (fun x => n - x.1) rfl ?_ ?_
  · exact again (0, .slice none 0 0) ⟨Nat.zero_le _, isSl_nil⟩ trivial (by repeat (first | exact trivial | refine ⟨rfl, ?_⟩ | refine ⟨i64_eq (by first | omega | (simp only; omega)), ?_⟩ | refine ⟨u64_eq (by first | omega | (simp only; omega)), ?_⟩)) (Seals.trans (Seals.own_nil _ _ 1 (fun i => V (([] : List Row).getD i []))) (Seals.sub (by repeat (first | exact Sub.nil _ | refine Sub.cons (by repeat (first | exact List.Mem.head _ | apply List.Mem.tail)) ?_))))
  · rintro ⟨i, vo⟩ ⟨h1, hvo⟩
    simp only at h1 hvo ⊢
    refine cmp_split _ rfl (fun hlt => ?_) (fun hlt => ?_)
    · have hin : i < n := by omega
      have hlen := laidN_len L c i
      have hrow : Fit 137438953472 (rowL L i c) := fun x hx => by
        obtain ⟨j, hj, rfl⟩ := List.mem_map.1 hx
        rcases lk_mem (L := L) (i := i) (j := j) with h | ⟨t, ht, _, _, h⟩
        · rw [h]; exact ⟨Lim.nil, Nat.zero_le _⟩
        · rw [h]; exact hf t ht
      refine ar rfl (by first | exact ⟨by omega, by omega⟩ | (simp only [inK]; omega)) ?_
      refine make_rule (t := 28) (d := I false []) c (by omega) (by omega) (by omega) (by omega) fun u hu => ?_
      refine ar rfl (by first | exact ⟨by omega, by omega⟩ | (simp only [inK]; omega)) ?_
      refine loop_rule (X := Nat) (fun j => ([(0, v), (1, .int .i64 ((n : Nat) - 1 : Int)), (2, .int .i64 ((c : Nat) - 1 : Int)), (7, vo), (8, .int .i64 (i : Nat)), (9, u), (12, .int .i64 (n : Nat)), (13, .int .i64 (i : Nat)), (20, .int .i64 (c : Nat)), (21, .int .i64 (j : Nat))],
        [own1 u 2 c (fun y => J (if y < j then lk z0 L i y else z0)), ownL 1 V [] vo ((laidN L c i).map (·.map cn))], [(v, MD J z0 L)])) (fun j => j ≤ c) (fun j => c - j) rfl ?_ ?_
      · exact again 0 (Nat.zero_le _) trivial (by repeat (first | exact trivial | refine ⟨rfl, ?_⟩ | refine ⟨i64_eq (by first | omega | (simp only; omega)), ?_⟩ | refine ⟨u64_eq (by first | omega | (simp only; omega)), ?_⟩)) (Seals.trans (Seals.own_cong (os := [_, _]) 0 (fun y => J (if y < 0 then lk z0 L i y else z0)) rfl rfl fun y _ => by rw [if_neg (Nat.not_lt_zero _)]; rfl) (Seals.sub (by repeat (first | exact Sub.nil _ | refine Sub.cons (by repeat (first | exact List.Mem.head _ | apply List.Mem.tail)) ?_))))
      · rintro j hj
        refine cmp_split _ rfl (fun hlt2 => ?_) (fun hlt2 => ?_)
        · have hjc : j < c := by omega
          refine build_spot ?_
          refine get_L (by repeat (first | exact List.Mem.head _ | apply List.Mem.tail)) hL hnd (by omega) (by omega) fun y1 => ?_
          refine index_elem 0 rfl hu j rfl hjc ?_
          refine StoreK.post (store_elem (d := J (lk z0 L i j)) 0 rfl j hjc rfl (by kernel_rfl) (Reads.fact (by repeat (first | exact List.Mem.head _ | apply List.Mem.tail))) ⟨_, _, Seals.own_cong (os := [_, _]) 0 (fun y => J (if y < j + 1 then lk z0 L i y else z0)) rfl rfl (fun y _ => lay_s (fun y => lk z0 L i y) j y), ?_⟩)
          refine ar rfl (by first | exact ⟨by omega, by omega⟩ | (simp only [inK]; omega)) ?_
          exact again (j + 1) (by omega) (by simp only; omega) (by repeat (first | exact trivial | refine ⟨rfl, ?_⟩ | refine ⟨i64_eq (by first | omega | (simp only; omega)), ?_⟩ | refine ⟨u64_eq (by first | omega | (simp only; omega)), ?_⟩)) (Seals.sub (by repeat (first | exact Sub.nil _ | refine Sub.cons (by repeat (first | exact List.Mem.head _ | apply List.Mem.tail)) ?_)))
        · have hjc : j = c := by omega
          subst hjc
          refine call_fn (pNorm_meets u (rowL L i j) hrow (by rw [rowL_len]; omega)) (Seals.trans (Seals.own_cong (os := [_, _]) 0 (n' := (rowL L i j).length) (fun y => J ((rowL L i j).getD y z0)) rfl (rowL_len L i j).symm fun y hy => by rw [if_pos hy, rowL_get L hy]) (Seals.L (os := [ownL 2 J z0 u (rowL L i j), _]) 0 rfl hu)) (by repeat (first | exact Sub.nil _ | refine Sub.cons (by repeat (first | exact List.Mem.head _ | apply List.Mem.tail)) ?_)) ?_
          rintro x2 _ _ ⟨rfl, rfl⟩
          refine lit_L (size := 1) V [] ((nrm (vv (rowL L i j))).map cn) (by decide) (Reads.fact (d := V ((nrm (vv (rowL L i j))).map cn)) (by repeat (first | exact List.Mem.head _ | apply List.Mem.tail))) rfl fun l1 => ?_
          refine append_L 0 rfl hvo (Knw.fact (by repeat (first | exact List.Mem.head _ | apply List.Mem.tail))) (by simp only [List.length_map, List.length_cons, List.length_nil]; omega) (by simp only [List.length_map, List.length_cons, List.length_nil]; omega) fun w2 hw2 => ?_
          refine ar rfl (by first | exact ⟨by omega, by omega⟩ | (simp only [inK]; omega)) ?_
          refine again (i + 1, w2) ⟨by simp only; omega, hw2⟩ (by simp only; omega) (by repeat (first | exact trivial | refine ⟨rfl, ?_⟩ | refine ⟨i64_eq (by first | omega | (simp only; omega)), ?_⟩ | refine ⟨u64_eq (by first | omega | (simp only; omega)), ?_⟩)) ?_
          simp only [laidN_succ, List.map_append, List.map_cons, List.map_nil]
          exact Seals.sub (by repeat (first | exact Sub.nil _ | refine Sub.cons (by repeat (first | exact List.Mem.head _ | apply List.Mem.tail)) ?_))
    · have hip : i = n := by omega
      subst hip
      have hG := laidN_len L c i
      generalize laidN L c i = G at *
      have hGm : ∀ k, k ≤ i → ((G.take k).map (·.map cn)).length = k := fun k hk => by rw [List.length_map, List.length_take]; omega
      refine loop_rule (X := Nat × Value) (fun x => ([(7, x.2)], [], [(x.2, wd (G.take x.1))])) (fun x => x.1 ≤ i ∧ gtr (G.take x.1) = gtr G) (fun x => x.1) rfl ?_ ?_
      · refine again (i, vo) ⟨Nat.le_refl _, by simp only; rw [List.take_of_length_le (by omega)]⟩ trivial (by repeat (first | exact trivial | refine ⟨rfl, ?_⟩ | refine ⟨i64_eq (by first | omega | (simp only; omega)), ?_⟩ | refine ⟨u64_eq (by first | omega | (simp only; omega)), ?_⟩)) (Seals.trans (Seals.L 0 rfl hvo) ?_)
        simp only
        rw [List.take_of_length_le (show G.length ≤ i by omega)]
        exact Seals.sub (by repeat (first | exact Sub.nil _ | refine Sub.cons (by repeat (first | exact List.Mem.head _ | apply List.Mem.tail)) ?_))
      · rintro ⟨k, u⟩ ⟨g1, g2⟩
        simp only at g1 g2 ⊢
        have hm := hGm k g1
        refine len_fact (by repeat (first | exact List.Mem.head _ | apply List.Mem.tail)) fun _ => ?_
        rw [hm]
        refine cmp_split _ rfl (fun hk0 => ?_) (fun hk0 => ?_)
        · obtain ⟨j, rfl⟩ : ∃ j, k = j + 1 := ⟨k - 1, by omega⟩
          have hj : j < G.length := by omega
          have ht := take_snoc' [] hj
          have hget : ((G.take (j + 1)).map (·.map cn)).getD j [] = (G.getD j []).map cn := by
            rw [ht, List.map_append, List.getD_eq_getElem?_getD, List.getElem?_append_right (by rw [hGm j (by omega)]; exact Nat.le_refl _), hGm j (by omega), Nat.sub_self]; rfl
          refine len_fact (by repeat (first | exact List.Mem.head _ | apply List.Mem.tail)) fun _ => ?_
          rw [hm]
          refine ar rfl (by first | exact ⟨by omega, by omega⟩ | (simp only [inK]; omega)) ?_
          refine index_fact (by repeat (first | exact List.Mem.head _ | apply List.Mem.tail)) j (by omega) (by omega) fun b1 => ?_
          refine load_fact (d := V (((G.take (j + 1)).map (·.map cn)).getD j [])) (by repeat (first | exact List.Mem.head _ | apply List.Mem.tail)) (load_V _) fun y1 => ?_
          rw [hget]
          refine len_fact (by repeat (first | exact List.Mem.head _ | apply List.Mem.tail)) fun _ => ?_
          refine cmp_split _ rfl (fun hz => ?_) (fun hz => ?_)
          · have hnil : G.getD j [] = [] := List.eq_nil_of_length_eq_zero (by rw [List.length_map] at hz; omega)
            refine len_fact (by repeat (first | exact List.Mem.head _ | apply List.Mem.tail)) fun _ => ?_
            rw [hm]
            refine ar rfl (by first | exact ⟨by omega, by omega⟩ | (simp only [inK]; omega)) ?_
            refine slice_L (kl := .i64) (kh := .i64) (by repeat (first | exact List.Mem.head _ | apply List.Mem.tail)) 0 j _ _ (.inl ⟨rfl, rfl⟩) (.inr (by congr 2; omega)) (by omega) (by omega) fun u' => ?_
            refine again (j, u') ⟨by omega, by simp only; rw [← g2, ht, hnil, gtr_snoc_nil]⟩ (by simp only; omega) (by repeat (first | exact trivial | refine ⟨rfl, ?_⟩ | refine ⟨i64_eq (by first | omega | (simp only; omega)), ?_⟩ | refine ⟨u64_eq (by first | omega | (simp only; omega)), ?_⟩)) ?_
            simp only
            have e : ((G.take (j + 1)).map (·.map cn)).take j = (G.take j).map (·.map cn) := by rw [← List.map_take, List.take_take]; congr 2; omega
            rw [List.drop_zero, e]
            exact Seals.sub (by repeat (first | exact Sub.nil _ | refine Sub.cons (by repeat (first | exact List.Mem.head _ | apply List.Mem.tail)) ?_))
          · have hne : G.getD j [] ≠ [] := fun e => hz (by rw [e]; rfl)
            refine fin ⟨rfl, rfl⟩ ?_
            rw [← g2, ht, gtr_snoc_ne hne, ← ht]
            exact Seals.sub (by repeat (first | exact Sub.nil _ | refine Sub.cons (by repeat (first | exact List.Mem.head _ | apply List.Mem.tail)) ?_))
        · have hk : k = 0 := by omega
          subst hk
          refine fin ⟨rfl, rfl⟩ ?_
          rw [← g2]
          exact Seals.sub (by repeat (first | exact Sub.nil _ | refine Sub.cons (by repeat (first | exact List.Mem.head _ | apply List.Mem.tail)) ?_))
end Go.Proofs.Ytfkeohlpcjpkbaa

namespace Go.Proofs.Ytfkeohlpcjpkbaa
/-- An entry of a grid; 0 beyond the end. -/
def gv (G : List (List Int)) (i j : Nat) : Int := (G.getD i []).getD j 0
/-- Normal form. -/
def Gn (G : List (List Int)) : Prop := gtr G = G ∧ ∀ r, r ∈ G → Nm r
theorem gtr_gtr (G : List (List Int)) : gtr (gtr G) = gtr G := by
  induction G with
  | nil => rfl
  | cons r G ih =>
    simp only [gtr]
    split
    · split
      · rfl
      · rename_i h; simp [gtr, h]
    · rename_i s t h
      rw [h] at ih
      show (match gtr (s :: t) with | [] => _ | s :: t => _) = _
      rw [ih]
theorem gtr_getD (G : List (List Int)) (i : Nat) : (gtr G).getD i [] = G.getD i [] := by
  induction G generalizing i with
  | nil => rfl
  | cons r G ih =>
    simp only [gtr]
    split
    · rename_i h
      have hz : ∀ i, G.getD i [] = [] := fun i => by rw [← ih, h]; rfl
      split
      · rename_i hr
        cases i with
        | zero => simp [hr]
        | succ i => simpa using (hz i).symm
      · cases i with
        | zero => rfl
        | succ i => simpa using (hz i).symm
    · rename_i s t h
      cases i with
      | zero => rfl
      | succ i =>
        have := ih i
        rw [h] at this
        simpa using this
theorem gtr_mem {G : List (List Int)} {r : List Int} (h : r ∈ gtr G) : r ∈ G := by
  induction G with
  | nil => exact h
  | cons s G ih =>
    simp only [gtr] at h
    split at h
    · split at h
      · simp at h
      · simp only [List.mem_singleton] at h; exact List.mem_cons.2 (.inl h)
    · rename_i s' t hg
      rcases List.mem_cons.1 h with h | h
      · exact List.mem_cons.2 (.inl h)
      · exact List.mem_cons.2 (.inr (ih (by rw [hg]; exact h)))
/-- In normal form the last row is not empty. -/
theorem gtr_last {G : List (List Int)} (h : gtr G = G) : ∀ n, G.length = n + 1 → G.getD n [] ≠ [] := by
  intro n hn he
  have ht : G = G.take n ++ [G.getD n []] := by
    conv => lhs; rw [← List.take_length (l := G), hn]
    exact take_snoc' [] (by omega)
  rw [he] at ht
  have h1 : gtr G = gtr (G.take n) := by rw [ht, gtr_snoc_nil, List.take_append_of_le_length (by rw [List.length_take]; omega), List.take_take, Nat.min_self]
  have h2 : (gtr (G.take n)).length ≤ (G.take n).length := by
    have : ∀ H : List (List Int), (gtr H).length ≤ H.length := fun H => by
      induction H with
      | nil => exact Nat.le_refl _
      | cons r H ih =>
        simp only [gtr]
        split
        · split <;> simp
        · rename_i s t hg
          rw [hg] at ih
          simpa using ih
    exact this _
  rw [← h1, h, List.length_take] at h2
  omega
theorem Gn.ext {G H : List (List Int)} (hG : Gn G) (hH : Gn H) (h : ∀ i j, gv G i j = gv H i j) : G = H := by
  have rows : ∀ i, G.getD i [] = H.getD i [] := fun i => by
    have nm : ∀ {K : List (List Int)}, Gn K → Nm (K.getD i []) := fun {K} hK => by
      by_cases hi : i < K.length
      · exact hK.2 _ (by rw [List.getD_eq_getElem?_getD, List.getElem?_eq_getElem hi]; exact List.getElem_mem hi)
      · rw [List.getD_eq_getElem?_getD, List.getElem?_eq_none (by omega)]; exact rfl
    have e : nrm (G.getD i []) = nrm (H.getD i []) := nrm_ext fun j => h i j
    rwa [nm hG, nm hH] at e
  have len : G.length = H.length := by
    rcases Nat.lt_trichotomy G.length H.length with hl | hl | hl
    · obtain ⟨n, hn⟩ : ∃ n, H.length = n + 1 := ⟨H.length - 1, by omega⟩
      refine absurd ?_ (gtr_last hH.1 n hn)
      rw [← rows, List.getD_eq_getElem?_getD, List.getElem?_eq_none (by omega)]; rfl
    · exact hl
    · obtain ⟨n, hn⟩ : ∃ n, G.length = n + 1 := ⟨G.length - 1, by omega⟩
      refine absurd ?_ (gtr_last hG.1 n hn)
      rw [rows, List.getD_eq_getElem?_getD, List.getElem?_eq_none (by omega)]; rfl
  exact row_eq_of_getD [] len fun i _ => rows i
/-- The grid with those entries, as far as n rows and c columns go. -/
def gof (F : Nat → Nat → Int) (n c : Nat) : List (List Int) := gtr ((List.range n).map fun i => nrm (lst c (F i)))
theorem gof_gn (F : Nat → Nat → Int) (n c : Nat) : Gn (gof F n c) := ⟨gtr_gtr _, fun r hr => by
  obtain ⟨i, _, rfl⟩ := List.mem_map.1 (gtr_mem hr)
  exact nrm_nrm _⟩
theorem gof_gv (F : Nat → Nat → Int) (n c i j : Nat) : gv (gof F n c) i j = if i < n ∧ j < c then F i j else 0 := by
  unfold gv gof
  rw [gtr_getD]
  by_cases hi : i < n
  · have : ((List.range n).map fun i => nrm (lst c (F i))).getD i [] = nrm (lst c (F i)) := by simp [List.getD_eq_getElem?_getD, hi]
    rw [this, co_nrm]
    by_cases hj : j < c
    · rw [lst_get hj, if_pos ⟨hi, hj⟩]
    · rw [if_neg (fun h => hj h.2), List.getD_eq_getElem?_getD, List.getElem?_eq_none (by rw [lst_len]; omega)]; rfl
  · have : ((List.range n).map fun i => nrm (lst c (F i))).getD i [] = [] := by simp [List.getD_eq_getElem?_getD, show n ≤ i by omega]
    rw [this, if_neg (fun h => hi h.1)]; rfl
/-- What laid tells, by its entries. -/
theorem laid_gof (L : List Ent3) (n c : Nat) : gtr (laidN L c n) = gof (fun i j => jv (lk z0 L i j)) n c := by
  unfold laidN gof
  congr 2
  funext i
  congr 1
  refine row_eq_of_getD 0 (by rw [vv_len, rowL_len, lst_len]) fun j hj => ?_
  rw [vv_len, rowL_len] at hj
  rw [vv_get _ _ (by rw [rowL_len]; exact hj), rowL_get L hj, lst_get hj]
/-- The normal form of a grid. -/
def gn (G : List (List Int)) : List (List Int) := gtr (G.map nrm)
end Go.Proofs.Ytfkeohlpcjpkbaa

namespace Go.Proofs.Ytfkeohlpcjpkbaa
open Go.RowKit
theorem getD_end {α : Type} {l : List α} {z : α} {i : Nat} (h : l.length ≤ i) : l.getD i z = z := by
  rw [List.getD_eq_getElem?_getD, List.getElem?_eq_none h]; rfl
/-- How many rows, and columns, there are up to the last one that is not 0. -/
def gdxN (G : List (List Int)) : Nat → Nat
  | 0 => 0
  | n + 1 => if dg (G.getD n []) = 0 then gdxN G n else n + 1
def gdyN (G : List (List Int)) : Nat → Nat
  | 0 => 0
  | n + 1 => max (gdyN G n) (dg (G.getD n []))
def gdx (G : List (List Int)) : Nat := gdxN G G.length
def gdy (G : List (List Int)) : Nat := gdyN G G.length
theorem gdxN_le (G : List (List Int)) (n : Nat) : gdxN G n ≤ n := by
  induction n with
  | zero => exact Nat.le_refl _
  | succ n ih => simp only [gdxN]; split <;> omega
theorem gdyN_le {G : List (List Int)} {c : Nat} (hc : ∀ i, dg (G.getD i []) ≤ c) (n : Nat) : gdyN G n ≤ c := by
  induction n with
  | zero => exact Nat.zero_le _
  | succ n ih => have := hc n; simp only [gdyN]; omega
theorem gdxN_zero {G : List (List Int)} {n i : Nat} (h : gdxN G n ≤ i) (hi : i < n) : dg (G.getD i []) = 0 := by
  induction n with
  | zero => omega
  | succ n ih =>
    simp only [gdxN] at h
    split at h
    · rename_i hz
      by_cases e : i = n
      · subst e; exact hz
      · exact ih h (by omega)
    · omega
theorem gdyN_zero {G : List (List Int)} {n i : Nat} (hi : i < n) : dg (G.getD i []) ≤ gdyN G n := by
  induction n with
  | zero => omega
  | succ n ih =>
    simp only [gdyN]
    by_cases e : i = n
    · subst e; omega
    · have := ih (by omega); omega
theorem gv_zero {G : List (List Int)} {i j : Nat} (h : ¬ (i < gdx G ∧ j < gdy G)) : gv G i j = 0 := by
  unfold gv
  by_cases hi : i < G.length
  · by_cases hx : i < gdx G
    · exact dg_le.1 (gdyN_zero (G := G) hi) j (by unfold gdy at h; omega)
    · exact dg_le.1 (Nat.le_of_eq (gdxN_zero (Nat.le_of_not_lt hx) hi)) j (Nat.zero_le _)
  · rw [getD_end (Nat.le_of_not_lt hi)]; rfl
theorem lk_of_mem {L : List Ent3} (hn : Nd L) {i j : Nat} {a : Bool × List Nat} (h : (i, j, a) ∈ L) : lk z0 L i j = a := by
  rcases lk_mem (L := L) (i := i) (j := j) with hz | ⟨t, ht, h1, h2, h3⟩
  · unfold lk at hz
    cases hf : L.find? fun t => t.1 == i && t.2.1 == j with
    | none => have := List.find?_eq_none.1 hf _ h; simp at this
    | some t =>
      have h1 := List.find?_some hf
      simp only [Bool.and_eq_true, beq_iff_eq] at h1
      unfold lk
      rw [hf]
      have ht := List.mem_of_find?_eq_some hf
      have := nd_eq hn ht h h1.1 h1.2
      rw [this]; rfl
  · rw [h3, nd_eq hn ht h h1 h2]
where
  nd_eq {L : List Ent3} (hn : Nd L) {t : Ent3} {i j : Nat} {a : Bool × List Nat} (ht : t ∈ L) (h : (i, j, a) ∈ L) (h1 : t.1 = i) (h2 : t.2.1 = j) : t = (i, j, a) := by
    obtain ⟨m, hm, rfl⟩ := List.mem_iff_getElem.1 ht
    obtain ⟨n, hn', e⟩ := List.mem_iff_getElem.1 h
    have := hn.one (z := z0) hm hn' (by
      unfold mapK spk
      rw [List.getD_eq_getElem?_getD, List.getElem?_eq_getElem hm, List.getD_eq_getElem?_getD, List.getElem?_eq_getElem hn']
      simp only [Option.getD_some, h1, h2, e])
    subst this
    exact e
theorem mem_tr {i : Nat} {r : Row} {n j : Nat} (hj : j < n) (h0 : jv (r.getD j z0) ≠ 0) : (i, j, r.getD j z0) ∈ tr i r n := by
  induction n with
  | zero => omega
  | succ n ih =>
    simp only [tr, List.mem_append]
    by_cases e : j = n
    · subst e; exact .inr (by rw [if_neg h0]; exact List.mem_singleton.2 rfl)
    · exact .inl (ih (by omega))
theorem mem_tg {g : List Row} {n i j : Nat} (hi : i < n) (hj : j < (g.getD i []).length) (h0 : jv ((g.getD i []).getD j z0) ≠ 0) : (i, j, (g.getD i []).getD j z0) ∈ tg g n := by
  induction n with
  | zero => omega
  | succ n ih =>
    simp only [tg, List.mem_append]
    by_cases e : i = n
    · subst e; exact .inr (mem_tr hj h0)
    · exact .inl (ih (by omega))
theorem gv_ww (g : List Row) (i j : Nat) : gv (ww g) i j = jv ((g.getD i []).getD j z0) := by
  unfold gv
  rw [ww_get]
  by_cases h : j < (g.getD i []).length
  · exact vv_get _ _ h
  · rw [getD_end (by rw [vv_len]; omega), getD_end (l := g.getD i []) (by omega)]; rfl
theorem lk_tg (g : List Row) (i j : Nat) : jv (lk z0 (tg g g.length) i j) = gv (ww g) i j := by
  rw [gv_ww]
  by_cases h0 : jv ((g.getD i []).getD j z0) = 0
  · rw [h0]
    rcases lk_mem (L := tg g g.length) (i := i) (j := j) with h | ⟨t, ht, rfl, rfl, h⟩
    · rw [h]; rfl
    · obtain ⟨_, _, h1, h2⟩ := tg_mem ht
      rw [h1] at h2
      exact absurd h0 h2
  · have hj : j < (g.getD i []).length := Nat.lt_of_not_le fun h => h0 (by rw [getD_end h]; rfl)
    have hi : i < g.length := Nat.lt_of_not_le fun h => by
      rw [getD_end h] at hj
      exact absurd hj (Nat.not_lt_zero _)
    rw [lk_of_mem (tg_nd _ _) (mem_tg hi hj h0)]
theorem gDegrees_meets (v : Value) (g : List Row) (hk : ∀ r, r ∈ g → Fit 137438953472 r) (lg : g.length ≤ 1048576) (hl : ∀ r, r ∈ g → r.length ≤ 1048576) :
    Meets Try.prog 18 [v] [(v, W g)] (fun r os fs => os = [] ∧ fs = [] ∧ r = .tuple #[.int .i64 ((gdx (ww g) : Nat) - 1 : Int), .int .i64 ((gdy (ww g) : Nat) - 1 : Int)]) := by
  have hwl : (ww g).length = g.length := by simp [ww]
  have hfin : gdx (ww g) = gdxN (ww g) g.length ∧ gdy (ww g) = gdyN (ww g) g.length := by unfold gdx gdy; rw [hwl]; exact ⟨rfl, rfl⟩
  have hdb : ∀ i, dg ((ww g).getD i []) ≤ 1048576 := fun i => by
    rw [ww_get]
    refine Nat.le_trans (dg_le_len _) ?_
    rw [vv_len]
    by_cases h : i < g.length
    · exact hl _ (by rw [List.getD_eq_getElem?_getD, List.getElem?_eq_getElem h]; exact List.getElem_mem h)
    · rw [getD_end (Nat.le_of_not_lt h)]; exact Nat.zero_le _
  rw [hfin.1, hfin.2]
  refine meets_of_vc Try.func18 (by kernel_rfl) rfl (by kernel_rfl) (Nat.le_of_ble_eq_true rfl) ?_
  refine len_fact (by repeat (first | exact List.Mem.head _ | apply List.Mem.tail)) fun _ => ?_
  refine loop_rule (X := Nat) (fun i => ([(4, .int .i64 ((gdxN (ww g) i : Nat) - 1 : Int)), (5, .int .i64 ((gdyN (ww g) i : Nat) - 1 : Int)), (9, v), (10, .int .i64 (g.length : Nat)), (11, .int .i64 (i : Nat))], [], [(v, W g)])) (fun i => i ≤ g.length) (fun i => g.length - i) rfl ?_ ?_
  · exact again 0 (Nat.zero_le _) trivial (by repeat (first | exact trivial | refine ⟨rfl, ?_⟩ | refine ⟨i64_eq (by first | omega | (simp only; omega)), ?_⟩ | refine ⟨u64_eq (by first | omega | (simp only; omega)), ?_⟩)) (Seals.sub (by repeat (first | exact Sub.nil _ | refine Sub.cons (by repeat (first | exact List.Mem.head _ | apply List.Mem.tail)) ?_)))
  · rintro i hi
    refine cmp_split _ rfl (fun hlt => ?_) (fun hlt => ?_)
    · have hin : i < g.length := by omega
      have hrm : g.getD i [] ∈ g := by rw [List.getD_eq_getElem?_getD, List.getElem?_eq_getElem hin]; exact List.getElem_mem hin
      have hd := fun u => pDegree_meets u (g.getD i []) (hk _ hrm)
      have hx1 : gdxN (ww g) (i + 1) = if dg ((ww g).getD i []) = 0 then gdxN (ww g) i else i + 1 := rfl
      have hy1 : gdyN (ww g) (i + 1) = max (gdyN (ww g) i) (dg ((ww g).getD i [])) := rfl
      rw [ww_get] at hx1 hy1
      simp only [deg_dg] at hd
      have hb := hdb i
      rw [ww_get] at hb
      have hby := gdyN_le hdb i
      have hbx := gdxN_le (ww g) i
      generalize dg (vv (g.getD i [])) = D at *
      generalize gdxN (ww g) i = A at *
      generalize gdyN (ww g) i = B at *
      refine index_fact (by repeat (first | exact List.Mem.head _ | apply List.Mem.tail)) i rfl hin fun b1 => ?_
      refine load_fact (d := V (g.getD i [])) (by repeat (first | exact List.Mem.head _ | apply List.Mem.tail)) (load_V _) fun u => ?_
      refine call_fn (hd u) (Seals.refl _ _) (by repeat (first | exact Sub.nil _ | refine Sub.cons (by repeat (first | exact List.Mem.head _ | apply List.Mem.tail)) ?_)) ?_
      rintro _ _ _ ⟨rfl, rfl, rfl⟩
      refine cmp_split _ rfl (fun h0 => ?_) (fun h0 => ?_)
      · refine max2_rule ?_
        refine ar rfl (by first | exact ⟨by omega, by omega⟩ | (simp only [inK]; omega)) ?_
        rw [if_neg (by omega)] at hx1
        exact again (i + 1) (by omega) (by simp only; omega) ⟨i64_eq (by rw [hx1]; omega), i64_eq (by rw [hy1]; omega), rfl, rfl, i64_eq (by omega), trivial⟩ (Seals.sub (by repeat (first | exact Sub.nil _ | refine Sub.cons (by repeat (first | exact List.Mem.head _ | apply List.Mem.tail)) ?_)))
      · refine ar rfl (by first | exact ⟨by omega, by omega⟩ | (simp only [inK]; omega)) ?_
        rw [if_pos (by omega)] at hx1
        exact again (i + 1) (by omega) (by simp only; omega) ⟨i64_eq (by rw [hx1]), i64_eq (by rw [hy1]; omega), rfl, rfl, i64_eq (by omega), trivial⟩ (Seals.sub (by repeat (first | exact Sub.nil _ | refine Sub.cons (by repeat (first | exact List.Mem.head _ | apply List.Mem.tail)) ?_)))
    · have hip : i = g.length := by omega
      subst hip
      exact fin ⟨rfl, rfl, rfl⟩ (Seals.nil _ _)
end Go.Proofs.Ytfkeohlpcjpkbaa

namespace Go.Proofs.Ytfkeohlpcjpkbaa
open Go.RowKit
/-- A grid of at most so many rows and columns, and limbs. -/
structure Gf (k : Nat) (g : List Row) : Prop where
  len : g.length ≤ 1048576
  row : ∀ r, r ∈ g → r.length ≤ 1048576 ∧ Fit k r
theorem Gf.get {k : Nat} {g : List Row} (h : Gf k g) (i : Nat) : (g.getD i []).length ≤ 1048576 ∧ Fit k (g.getD i []) := by
  by_cases hi : i < g.length
  · exact h.row _ (by rw [List.getD_eq_getElem?_getD, List.getElem?_eq_getElem hi]; exact List.getElem_mem hi)
  · rw [getD_end (Nat.le_of_not_lt hi)]; exact ⟨Nat.zero_le _, fun x hx => by cases hx⟩
theorem Gf.in64 {k : Nat} {g : List Row} (h : Gf k g) (n : Nat) (hn : n ≤ 1048576) : In64 (tg g n) := fun t ht => by
  obtain ⟨h1, h2, _⟩ := tg_mem ht
  have := (h.get t.1).1
  omega
theorem Gf.fit {k : Nat} {g : List Row} (h : Gf k g) (n : Nat) : ∀ t, t ∈ tg g n → Lim t.2.2.2 ∧ t.2.2.2.length ≤ k := fun t ht => by
  obtain ⟨_, _, h3, _⟩ := tg_mem ht
  rw [h3]
  exact (h.get t.1).2.get _
theorem Gf.dx {k : Nat} {g : List Row} (h : Gf k g) : gdx (ww g) ≤ 1048576 := by
  have h1 := gdxN_le (ww g) (ww g).length
  have h2 := h.len
  rw [ww_len] at h1
  unfold gdx
  rw [ww_len]
  omega
theorem Gf.dy {k : Nat} {g : List Row} (h : Gf k g) : gdy (ww g) ≤ 1048576 := gdyN_le (fun i => by
  rw [ww_get]
  exact Nat.le_trans (dg_le_len _) (by rw [vv_len]; exact (h.get i).1)) _
-- Turn.
def sw (t : Ent3) : Ent3 := (t.2.1, t.1, t.2.2)
theorem Nd.sw {L : List Ent3} (h : Nd L) : Nd (L.map Go.Proofs.Ytfkeohlpcjpkbaa.sw) := List.pairwise_map.2 (h.imp fun {a b} hab e => hab ⟨e.2, e.1⟩)
theorem Nd.perm {L L' : List Ent3} (h : Nd L) (p : L.Perm L') : Nd L' := (p.pairwise_iff fun {a b} hab e => hab ⟨e.1.symm, e.2.symm⟩).1 h
theorem lk_perm {L L' : List Ent3} (h : Nd L) (p : L.Perm L') (i j : Nat) : lk z0 L i j = lk z0 L' i j := by
  rcases lk_mem (L := L) (i := i) (j := j) with h1 | ⟨t, ht, rfl, rfl, h1⟩
  · rcases lk_mem (L := L') (i := i) (j := j) with h2 | ⟨t, ht, rfl, rfl, h2⟩
    · rw [h1, h2]
    · rw [h2]; exact lk_of_mem h (p.mem_iff.2 ht)
  · rw [h1]; exact (lk_of_mem (h.perm p) (p.mem_iff.1 ht)).symm
theorem lk_sw {L : List Ent3} (h : Nd L) (i j : Nat) : lk z0 (L.map sw) i j = lk z0 L j i := by
  rcases lk_mem (L := L) (i := j) (j := i) with h1 | ⟨t, ht, rfl, rfl, h1⟩
  · rcases lk_mem (L := L.map sw) (i := i) (j := j) with h2 | ⟨t, ht, rfl, rfl, h2⟩
    · rw [h1, h2]
    · obtain ⟨s, hs, rfl⟩ := List.mem_map.1 ht
      rw [h2]; exact (lk_of_mem h hs).symm
  · rw [h1]; exact lk_of_mem h.sw (List.mem_map.2 ⟨t, ht, rfl⟩)
theorem erase_perm {α : Type} : ∀ (l : List α) (n : Nat) (h : n < l.length), l.Perm (l[n] :: l.eraseIdx n)
  | _ :: _, 0, _ => List.Perm.refl _
  | a :: l, n + 1, h => ((erase_perm l n (by simpa using h)).cons a).trans (List.Perm.swap _ _ _)
theorem perm_step {L D T : List Ent3} {n : Nat} {t : Ent3} (hg : L[n]? = some t) (hp : (L ++ D).Perm T) : (L.eraseIdx n ++ (D ++ [t])).Perm T := by
  obtain ⟨hn, rfl⟩ := List.getElem?_eq_some_iff.1 hg
  have h1 : L.Perm (L[n] :: L.eraseIdx n) := erase_perm L n hn
  refine List.Perm.trans ?_ hp
  rw [← List.append_assoc]
  refine List.perm_append_comm.trans ?_
  exact (h1.append_right D).symm
theorem gTurn_meets (v : Value) (g : List Row) (h : Gf 137438953472 g) :
    Meets Try.prog 28 [v] [(v, W g)] (fun r os fs => os = [] ∧ fs = [(r, wd (gof (fun i j => gv (ww g) j i) (gdy (ww g)) (gdx (ww g))))]) := by
  have h1 := gDegrees_meets v g (fun r hr => (h.row r hr).2) h.len (fun r hr => (h.row r hr).1)
  have h2 := gterms_meets v g h.row h.len
  have hnd := tg_nd g g.length
  have hin := h.in64 _ h.len
  have hft := h.fit g.length
  have hlk := lk_tg g
  have hlen : (tg g g.length).length ≤ 1048576 * 1048576 := Nat.le_trans (tg_len (fun r hr => (h.row r hr).1) _) (Nat.mul_le_mul_right _ h.len)
  have hdx := h.dx
  have hdy := h.dy
  generalize tg g g.length = T at *
  refine meets_of_vc Try.func28 (by kernel_rfl) rfl (by kernel_rfl) (Nat.le_of_ble_eq_true rfl) ?_
  refine make_L J z0 fun m hm => ?_
  refine call_fn h2 (Seals.refl _ _) (by repeat (first | exact Sub.nil _ | refine Sub.cons (by repeat (first | exact List.Mem.head _ | apply List.Mem.tail)) ?_)) ?_
  rintro tm _ _ ⟨rfl, _, rfl⟩
  refine range_L (by repeat (first | exact List.Mem.head _ | apply List.Mem.tail)) fun p hp => ?_
  refine loop_rule (X := List Ent3 × List Ent3 × Value) (fun x => ([(0, v), (3, m), (11, p)], [ownWD J z0 p x.1 x.2.2, ownMD J z0 m (x.2.1.map sw)], [(tm, MD J z0 T), (v, W g)])) (fun x => (x.1 ++ x.2.1).Perm T) (fun x => x.1.length) rfl ?_ ?_
  · exact again (T, [], .bool false) (by simp) trivial (by repeat (first | exact trivial | refine ⟨rfl, ?_⟩ | refine ⟨i64_eq (by first | omega | (simp only; omega)), ?_⟩ | refine ⟨u64_eq (by first | omega | (simp only; omega)), ?_⟩)) (Seals.sub (by repeat (first | exact Sub.nil _ | refine Sub.cons (by repeat (first | exact List.Mem.head _ | apply List.Mem.tail)) ?_)))
  · rintro ⟨L, D, c⟩ hperm
    simp only at hperm ⊢
    have hndD : Nd (L ++ D) := hnd.perm hperm.symm
    have hlD : (L ++ D).length ≤ 1048576 * 1048576 := by rw [hperm.length_eq]; exact hlen
    rw [List.length_append] at hlD
    have hndM : Nd (D.map sw) := (List.pairwise_append.1 hndD).2.1 |> Nd.sw
    have hinM : In64 (D.map sw) := fun t ht => by
      obtain ⟨s, hs, rfl⟩ := List.mem_map.1 ht
      have := hin s (hperm.mem_iff.1 (List.mem_append.2 (.inr hs)))
      exact ⟨this.2, this.1⟩
    refine next_L 0 rfl hp (fun e => ?_) fun n i j a x hn hg => ?_
    · subst e
      rw [List.nil_append] at hperm
      have h3 := fun u => glaid_meets u (D.map sw) (gdy (ww g)) (gdx (ww g)) hinM hndM (fun t ht => by
        obtain ⟨s, hs, rfl⟩ := List.mem_map.1 ht
        exact hft s (hperm.mem_iff.1 hs)) hdy hdx
      have e : gtr (laidN (D.map sw) (gdx (ww g)) (gdy (ww g))) = gof (fun i j => gv (ww g) j i) (gdy (ww g)) (gdx (ww g)) := by
        rw [laid_gof]
        congr 1
        funext i j
        rw [lk_sw (hnd.perm hperm.symm), lk_perm (hnd.perm hperm.symm) hperm, hlk]
      rw [e] at h3
      refine call_fn h1 (Seals.refl _ _) (by repeat (first | exact Sub.nil _ | refine Sub.cons (by repeat (first | exact List.Mem.head _ | apply List.Mem.tail)) ?_)) ?_
      rintro _ _ _ ⟨rfl, rfl, rfl⟩
      refine call_fn (h3 m) (Seals.trans (Seals.mapL 1 rfl hm) (Seals.drop 0 _ _)) (by repeat (first | exact Sub.nil _ | refine Sub.cons (by repeat (first | exact List.Mem.head _ | apply List.Mem.tail)) ?_)) ?_
      rintro r _ _ ⟨rfl, rfl⟩
      exact fin ⟨rfl, rfl⟩ (Seals.sub (by repeat (first | exact Sub.nil _ | refine Sub.cons (by repeat (first | exact List.Mem.head _ | apply List.Mem.tail)) ?_)))
    · have htT : (i, j, a) ∈ T := hperm.mem_iff.1 (List.mem_append.2 (.inl (List.mem_of_getElem? hg)))
      obtain ⟨hi, hj⟩ := hin _ htT
      simp only at hi hj
      have hnew := mput_new (L := D.map sw) (i := j) (j := i) (fun t ht e => by
        obtain ⟨s, hs, rfl⟩ := List.mem_map.1 ht
        exact (List.pairwise_append.1 hndD).2.2 (i, j, a) (List.mem_of_getElem? hg) s hs ⟨e.2.symm, e.1.symm⟩) a
      refine walk_entry 0 rfl hp ?_
      refine alloc_rule (d := spotD 0 0) fun b1 hb1 => ?_
      refine alloc_rule (d := I false []) fun b2 hb2 => ?_
      refine store_box (d := spotD (i : Nat) (j : Nat)) 1 rfl hb1 rfl (by kernel_rfl) ?_ ?_; exact Reads.spot _ _
      refine store_box (d := J a) 0 rfl hb2 rfl (by kernel_rfl) ?_ ?_; exact Reads.fact (by repeat (first | exact List.Mem.head _ | apply List.Mem.tail))
      refine field_box 1 rfl hb1 ?_
      refine load_box_field_one (u := .int .i64 (j : Nat)) 1 rfl (Part.right (Part.refl _)) ?_
      refine field_box 1 rfl hb1 ?_
      refine load_box_field_one (u := .int .i64 (i : Nat)) 1 rfl (Part.left (Part.refl _)) ?_
      refine build_spot ?_
      refine load_box (d := J a) 0 rfl hb2 rfl (load_J _) fun y1 => ?_
      refine put_L a 3 rfl hm hinM hndM hj hi (by rw [List.length_map]; unfold maxLen; omega) (Knw.fact (by repeat (first | exact List.Mem.head _ | apply List.Mem.tail))) ?_
      rw [hnew]
      refine again (L.eraseIdx n, D ++ [(i, j, a)], .tuple #[spot (i : Nat) (j : Nat), x]) (perm_step hg hperm) (by simp only [List.length_eraseIdx, if_pos hn]; omega) (by repeat (first | exact trivial | refine ⟨rfl, ?_⟩ | refine ⟨i64_eq (by first | omega | (simp only; omega)), ?_⟩ | refine ⟨u64_eq (by first | omega | (simp only; omega)), ?_⟩)) ?_
      simp only [List.map_append, List.map_cons, List.map_nil]
      exact Seals.trans (Seals.drop 0 _ _) (Seals.trans (Seals.drop 0 _ _) (Seals.sub (by repeat (first | exact Sub.nil _ | refine Sub.cons (by repeat (first | exact List.Mem.head _ | apply List.Mem.tail)) ?_))))
end Go.Proofs.Ytfkeohlpcjpkbaa

namespace Go.Proofs.Ytfkeohlpcjpkbaa
open Go.RowKit
def zrow (f : List Int → List Int → List Int) (G H : List (List Int)) (n : Nat) : List (List Int) := (List.range n).map fun i => f (G.getD i []) (H.getD i [])
theorem zrow_len (f : List Int → List Int → List Int) (G H : List (List Int)) (n : Nat) : (zrow f G H n).length = n := by simp [zrow]
def gadd (G H : List (List Int)) : List (List Int) := gn (zrow padd G H (max G.length H.length))
def gsub (G H : List (List Int)) : List (List Int) := gn (zrow psub G H (max G.length H.length))
end Go.Proofs.Ytfkeohlpcjpkbaa

namespace Go.Proofs.Ytfkeohlpcjpkbaa
open Go.RowKit
/-- A grid at that y: a polynomial of x; at that x: one of y. -/
def gpy (G : List (List Int)) (y : Int) : List Int := nrm (G.map fun r => pev r y)
theorem put_s (F : Nat → Int) (i y : Nat) : upd (fun y => zd (if y < i then F y else 0)) i (zd (F i)) y = zd (if y < i + 1 then F y else 0) :=
  upd_zd (G := fun y => if y < i then F y else 0) (H := fun y => if y < i + 1 then F y else 0) (by rw [if_pos (by omega)]) (fun y hy => by
    by_cases h : y < i
    · rw [if_pos h, if_pos (by omega)]
    · rw [if_neg h, if_neg (by omega)]) y
theorem gPutYJ (v w : Value) (g : List Row) (y : Bool × List Nat) (k a : Nat) (hg : Gf k g) (hy : Lim y.2) (ha : y.2.length ≤ a) (hk : k + 1048577 * (a + 1) ≤ 137438953472) :
    Meets Try.prog 27 [v, w] [(v, W g), (w, J y)] (fun r os fs => os = [] ∧ fs = [(r, vd (gpy (ww g) (jv y)))]) := by
  have hsy : sz (jv y) a := sz_jv hy ha
  have hkk : ∀ n, n ≤ 1048576 → k + (n + 1) * (a + 1) ≤ k + 1048577 * (a + 1) := fun n hn => Nat.add_le_add_left (Nat.mul_le_mul_right _ (by omega)) _
  have hval := fun i u u' => pValueJ u u' (g.getD i []) y k a (hg.get i).2 hy ha (Nat.le_trans (hkk _ (hg.get i).1) hk) (Nat.le_trans (hg.get i).1 (by decide))
  have hlen := hg.len
  have hszF : szR (k + 1048577 * (a + 1)) (lst g.length fun i => pev ((ww g).getD i []) (jv y)) := szR.lst fun i _ => by
    have h1 := ev_sz (l := (ww g).getD i []) (x := jv y) (k := k) (a := a) (by rw [ww_get]; exact (hg.get i).2.szR) hsy
    refine h1.mono ?_
    have h2 := hkk _ (hg.get i).1
    rw [ww_get, vv_len]
    have : (g.getD i []).length * (a + 1) ≤ ((g.getD i []).length + 1) * (a + 1) := Nat.mul_le_mul_right _ (by omega)
    omega
  have hfin : lst g.length (fun i => pev ((ww g).getD i []) (jv y)) = (ww g).map fun r => pev r (jv y) := by
    refine row_eq_of_getD 0 (by rw [lst_len, List.length_map, ww_len]) fun i hi => ?_
    rw [lst_len] at hi
    rw [lst_get hi]
    simp [List.getD_eq_getElem?_getD, ww_len, hi]
  unfold gpy
  rw [← hfin]
  simp only [← ww_get] at hval
  generalize hF : (fun i => pev ((ww g).getD i []) (jv y)) = F at *
  have hval' : ∀ i u u', Meets Try.prog 25 [u, u'] [(u, V (g.getD i [])), (u', J y)] (fun r os fs => os = [] ∧ fs = [(r, zd (F i))]) := fun i u u' => by rw [← hF]; exact hval i u u'
  refine meets_of_vc Try.func27 (by kernel_rfl) rfl (by kernel_rfl) (Nat.le_of_ble_eq_true rfl) ?_
  refine box_fact (Reads.fact (d := J y) (by repeat (first | exact List.Mem.head _ | apply List.Mem.tail))) fun q => ?_
  refine len_fact (by repeat (first | exact List.Mem.head _ | apply List.Mem.tail)) fun _ => ?_
  refine make_rule (t := 28) (d := I false []) g.length rfl rfl (by omega) (by omega) fun u hu => ?_
  refine len_fact (by repeat (first | exact List.Mem.head _ | apply List.Mem.tail)) fun _ => ?_
  refine loop_rule (X := Nat) (fun i => ([(0, v), (3, q), (5, u), (11, .int .i64 (g.length : Nat)), (12, .int .i64 (i : Nat))], [own1 u 2 g.length (fun y => zd (if y < i then F y else 0))], [(v, W g), (q, .ptr (J y))])) (fun i => i ≤ g.length) (fun i => g.length - i) rfl ?_ ?_
  · exact again 0 (Nat.zero_le _) trivial (by repeat (first | exact trivial | refine ⟨rfl, ?_⟩ | refine ⟨i64_eq (by first | omega | (simp only; omega)), ?_⟩ | refine ⟨u64_eq (by first | omega | (simp only; omega)), ?_⟩)) (Seals.trans (Seals.own_cong (os := [_]) 0 (fun y => zd (if y < 0 then F y else 0)) rfl rfl fun y _ => by rw [if_neg (Nat.not_lt_zero _)]; show I false [] = I _ (lims 0); rw [lims_zero]; rfl) (Seals.sub (by repeat (first | exact Sub.nil _ | refine Sub.cons (by repeat (first | exact List.Mem.head _ | apply List.Mem.tail)) ?_))))
  · rintro i hi
    refine cmp_split _ rfl (fun hlt => ?_) (fun hlt => ?_)
    · have hin : i < g.length := by omega
      refine draw_rule [0, 1, 2, 3, 4, 5, 6, 7, 8, 9] [0, 1, 2, 3, 4, 5, 6, 7, 8, 9] (by kernel_rfl) (by kernel_rfl) ?_
      refine index_fact (by repeat (first | exact List.Mem.head _ | apply List.Mem.tail)) i rfl hin fun b1 => ?_
      refine load_fact (d := V (g.getD i [])) (by repeat (first | exact List.Mem.head _ | apply List.Mem.tail)) (load_V _) fun y1 => ?_
      refine load_fact (d := J y) (by repeat (first | exact List.Mem.head _ | apply List.Mem.tail)) (load_J _) fun y2 => ?_
      refine call_fn (hval' i y1 y2) (Seals.refl _ _) (by repeat (first | exact Sub.nil _ | refine Sub.cons (by repeat (first | exact List.Mem.head _ | apply List.Mem.tail)) ?_)) ?_
      rintro y3 _ _ ⟨rfl, rfl⟩
      refine index_elem 0 rfl hu i rfl hin ?_
      refine StoreK.post (store_elem (d := zd (F i)) 0 rfl i hin rfl (by kernel_rfl) (Reads.fact (by repeat (first | exact List.Mem.head _ | apply List.Mem.tail))) ⟨_, _, Seals.own_cong (os := [_]) 0 (fun y => zd (if y < i + 1 then F y else 0)) rfl rfl (fun y _ => put_s F i y), ?_⟩)
      refine ar rfl (by first | exact ⟨by omega, by omega⟩ | (simp only [inK]; omega)) ?_
      exact again (i + 1) (by omega) (by simp only; omega) (by repeat (first | exact trivial | refine ⟨rfl, ?_⟩ | refine ⟨i64_eq (by first | omega | (simp only; omega)), ?_⟩ | refine ⟨u64_eq (by first | omega | (simp only; omega)), ?_⟩)) (Seals.sub (by repeat (first | exact Sub.nil _ | refine Sub.cons (by repeat (first | exact List.Mem.head _ | apply List.Mem.tail)) ?_)))
    · have hip : i = g.length := by omega
      subst hip
      have hn := pNormT u (lst g.length F) (hszF.mono hk) (by rw [lst_len]; omega)
      refine call_fn hn (Seals.told (g := F) hu fun y hy => by rw [if_pos hy]) (by repeat (first | exact Sub.nil _ | refine Sub.cons (by repeat (first | exact List.Mem.head _ | apply List.Mem.tail)) ?_)) ?_
      rintro r _ _ ⟨rfl, rfl⟩
      exact fin ⟨rfl, rfl⟩ (Seals.sub (by repeat (first | exact Sub.nil _ | refine Sub.cons (by repeat (first | exact List.Mem.head _ | apply List.Mem.tail)) ?_)))
/-- The grid with x and y changed about. -/
def gtu (G : List (List Int)) : List (List Int) := gof (fun i j => gv G j i) (gdy G) (gdx G)
theorem gtu_gn (G : List (List Int)) : Gn (gtu G) := gof_gn _ _ _
theorem gtu_gv (G : List (List Int)) (i j : Nat) : gv (gtu G) i j = gv G j i := by
  rw [gtu, gof_gv]
  split
  · rfl
  · rename_i h; exact (gv_zero fun h' => h (by omega)).symm
theorem gof_gf {F : Nat → Nat → Int} {n c k : Nat} (hF : ∀ i j, sz (F i j) k) (hn : n ≤ 1048576) (hc : c ≤ 1048576) : Gf k ((gof F n c).map (·.map cn)) := by
  have hlen : ∀ H : List (List Int), (gtr H).length ≤ H.length := fun H => by
    induction H with
    | nil => exact Nat.le_refl _
    | cons r H ih =>
      simp only [gtr]
      split
      · split <;> simp
      · rename_i s t hg
        rw [hg] at ih
        simpa using ih
  refine ⟨?_, fun r hr => ?_⟩
  · rw [List.length_map]
    refine Nat.le_trans (hlen _) ?_
    rw [List.length_map, List.length_range]
    exact hn
  · obtain ⟨l, hl, rfl⟩ := List.mem_map.1 hr
    obtain ⟨i, _, rfl⟩ := List.mem_map.1 (gtr_mem hl)
    refine ⟨?_, (szR.nrm (szR.lst fun j _ => hF i j)).fit⟩
    rw [List.length_map]
    exact Nat.le_trans (nrm_length_le _) (by rw [lst_len]; exact hc)
theorem Gf.gv {k : Nat} {g : List Row} (h : Gf k g) (i j : Nat) : sz (Go.Proofs.Ytfkeohlpcjpkbaa.gv (ww g) i j) k := by
  unfold Go.Proofs.Ytfkeohlpcjpkbaa.gv
  rw [ww_get]
  exact (h.get i).2.szR.get j
theorem Gf.turn {k : Nat} {g : List Row} (h : Gf k g) : Gf k ((gtu (ww g)).map (·.map cn)) := gof_gf (fun i j => h.gv j i) h.dy h.dx
theorem gPutXJ (v w : Value) (g : List Row) (x : Bool × List Nat) (k a : Nat) (hg : Gf k g) (hx : Lim x.2) (ha : x.2.length ≤ a) (hk : k + 1048577 * (a + 1) ≤ 137438953472) :
    Meets Try.prog 26 [v, w] [(v, W g), (w, J x)] (fun r os fs => os = [] ∧ fs = [(r, vd (gpy (gtu (ww g)) (jv x)))]) := by
  have h1 := gTurn_meets v g ⟨hg.len, fun r hr => ⟨(hg.row r hr).1, (hg.row r hr).2.mono (by omega)⟩⟩
  have h2 := fun u u' => gPutYJ u u' ((gtu (ww g)).map (·.map cn)) x k a hg.turn hx ha hk
  simp only [ww_cn] at h2
  refine meets_of_vc Try.func26 (by kernel_rfl) rfl (by kernel_rfl) (Nat.le_of_ble_eq_true rfl) ?_
  refine box_fact (Reads.fact (d := J x) (by repeat (first | exact List.Mem.head _ | apply List.Mem.tail))) fun q => ?_
  refine draw_rule [0, 2, 1, 3, 4] [0, 1, 2, 3, 4] (by kernel_rfl) (by kernel_rfl) ?_
  refine load_fact (d := J x) (by repeat (first | exact List.Mem.head _ | apply List.Mem.tail)) (load_J _) fun y1 => ?_
  refine call_fn h1 (Seals.refl _ _) (by repeat (first | exact Sub.nil _ | refine Sub.cons (by repeat (first | exact List.Mem.head _ | apply List.Mem.tail)) ?_)) ?_
  rintro y2 _ _ ⟨rfl, rfl⟩
  refine call_fn (h2 y2 y1) (Seals.refl _ _) (by repeat (first | exact Sub.nil _ | refine Sub.cons (by repeat (first | exact List.Mem.head _ | apply List.Mem.tail)) ?_)) ?_
  rintro y3 _ _ ⟨rfl, rfl⟩
  exact fin ⟨rfl, rfl⟩ (Seals.sub (by repeat (first | exact Sub.nil _ | refine Sub.cons (by repeat (first | exact List.Mem.head _ | apply List.Mem.tail)) ?_)))
theorem gpy_len (G : List (List Int)) (y : Int) : (gpy G y).length ≤ G.length := Nat.le_trans (nrm_length_le _) (by rw [List.length_map]; exact Nat.le_refl _)
end Go.Proofs.Ytfkeohlpcjpkbaa

namespace Go.Proofs.Ytfkeohlpcjpkbaa
open Go.RowKit
def esum (L : List Ent3) (φ : Ent3 → Int) : Int := (L.map φ).sum
/-- What a pair of entries gives at (i, j). -/
def con (s t : Ent3) (i j : Nat) : Int := if s.1 + t.1 = i ∧ s.2.1 + t.2.1 = j then jv s.2.2 * jv t.2.2 else 0
theorem esum_nil (φ : Ent3 → Int) : esum [] φ = 0 := rfl
theorem esum_snoc (L : List Ent3) (t : Ent3) (φ : Ent3 → Int) : esum (L ++ [t]) φ = esum L φ + φ t := by
  simp [esum]
theorem esum_perm {L L' : List Ent3} (p : L.Perm L') (φ : Ent3 → Int) : esum L φ = esum L' φ := by
  have hc : ∀ (t : Ent3) (L : List Ent3), esum (t :: L) φ = φ t + esum L φ := fun t L => by simp [esum]
  induction p with
  | nil => rfl
  | cons t _ ih => rw [hc, hc, ih]
  | swap s t l => rw [hc, hc, hc, hc]; omega
  | trans _ _ a b => exact a.trans b
theorem esum_bound {L : List Ent3} {φ : Ent3 → Int} {B : Nat} (h : ∀ t, t ∈ L → (φ t).natAbs ≤ B) : (esum L φ).natAbs ≤ L.length * B := by
  induction L with
  | nil => simp [esum]
  | cons t L ih =>
    have h1 := ih fun s hs => h s (.tail _ hs)
    have h2 := h t (.head _)
    have e : esum (t :: L) φ = φ t + esum L φ := by simp [esum]
    rw [e, List.length_cons, Nat.succ_mul]
    omega
/-- All entries are in normal form. -/
def Cn (M : List Ent3) : Prop := ∀ t, t ∈ M → t.2.2 = cn (jv t.2.2)
theorem z0_cn : z0 = cn 0 := by show (false, []) = (decide ((0 : Int) < 0), lims 0); rw [lims_zero]; rfl
theorem jv_z0 : jv z0 = 0 := by rw [z0_cn, jv_cn]
theorem lk_cn {M : List Ent3} (h : Cn M) (i j : Nat) : lk z0 M i j = cn (jv (lk z0 M i j)) := by
  rcases lk_mem (L := M) (i := i) (j := j) with h1 | ⟨t, ht, _, _, h1⟩
  · rw [h1, jv_z0]; exact z0_cn
  · rw [h1]; exact h t ht
structure MapOK (M : List Ent3) : Prop where
  nd : Nd M
  cn : Cn M
theorem mput_mem {M : List Ent3} {i j : Nat} {a : Bool × List Nat} {t : Ent3} (h : t ∈ mput M i j a) : t ∈ M ∨ t = (i, j, a) := by
  unfold mput at h
  split at h
  · exact List.mem_or_eq_of_mem_set h
  · rcases List.mem_append.1 h with h | h
    · exact .inl h
    · exact .inr (List.mem_singleton.1 h)
theorem mput_len (M : List Ent3) (i j : Nat) (a : Bool × List Nat) : (mput M i j a).length ≤ M.length + 1 := by
  unfold mput
  split
  · rw [List.length_set]; omega
  · simp
theorem mput_nd {M : List Ent3} {i j : Nat} {a : Bool × List Nat} (h : Nd M) : Nd (mput M i j a) := by
  unfold mput
  split
  · rename_i n hf
    obtain ⟨hn, h1, _⟩ := List.findIdx?_eq_some_iff_getElem.1 hf
    simp only [Bool.and_eq_true, beq_iff_eq] at h1
    refine List.pairwise_iff_getElem.2 fun x y hx hy hxy => ?_
    rw [List.length_set] at hx hy
    have := List.pairwise_iff_getElem.1 h x y hx hy hxy
    rw [List.getElem_set, List.getElem_set]
    by_cases e1 : n = x
    · subst e1
      rw [if_pos rfl, if_neg (by omega)]
      rw [h1.1, h1.2] at this
      exact this
    · rw [if_neg e1]
      by_cases e2 : n = y
      · subst e2
        rw [if_pos rfl]
        rw [h1.1, h1.2] at this
        exact this
      · rw [if_neg e2]; exact this
  · rename_i hf
    refine List.pairwise_append.2 ⟨h, List.pairwise_singleton _ _, fun s hs t ht e => ?_⟩
    simp only [List.mem_singleton] at ht
    subst ht
    have := List.findIdx?_eq_none_iff.1 hf s hs
    simp [e.1, e.2] at this
theorem mput_lk {M : List Ent3} {i j : Nat} {a : Bool × List Nat} (h : Nd M) (i' j' : Nat) : lk z0 (mput M i j a) i' j' = if i' = i ∧ j' = j then a else lk z0 M i' j' := by
  have hin : (i, j, a) ∈ mput M i j a := by
    unfold mput
    split
    · rename_i n hf
      obtain ⟨hn, _⟩ := List.findIdx?_eq_some_iff_getElem.1 hf
      exact List.mem_iff_getElem.2 ⟨n, by rw [List.length_set]; exact hn, by simp⟩
    · exact List.mem_append.2 (.inr (List.mem_singleton.2 rfl))
  by_cases e : i' = i ∧ j' = j
  · rw [if_pos e, e.1, e.2]; exact lk_of_mem (mput_nd h) hin
  · rw [if_neg e]
    rcases lk_mem (L := mput M i j a) (i := i') (j := j') with h1 | ⟨t, ht, e1, e2, h1⟩
    · rcases lk_mem (L := M) (i := i') (j := j') with h2 | ⟨t, ht, e1, e2, h2⟩
      · rw [h1, h2]
      · have hm : t ∈ mput M i j a := by
          unfold mput
          split
          · rename_i n hf
            obtain ⟨hn, h3, _⟩ := List.findIdx?_eq_some_iff_getElem.1 hf
            simp only [Bool.and_eq_true, beq_iff_eq] at h3
            obtain ⟨m, hm, rfl⟩ := List.mem_iff_getElem.1 ht
            have hne : n ≠ m := fun q => by subst q; exact e ⟨e1.symm.trans h3.1, e2.symm.trans h3.2⟩
            exact List.mem_iff_getElem.2 ⟨m, by rw [List.length_set]; exact hm, by rw [List.getElem_set, if_neg hne]⟩
          · exact List.mem_append.2 (.inl ht)
        subst e1 e2
        rw [h2]; exact lk_of_mem (mput_nd h) hm
    · rcases mput_mem ht with ht | rfl
      · subst e1 e2
        rw [h1]; exact (lk_of_mem h ht).symm
      · exact absurd ⟨e1.symm, e2.symm⟩ e
theorem mput_cn {M : List Ent3} {i j : Nat} {x : Int} (h : Cn M) : Cn (mput M i j (cn x)) := fun t ht => by
  rcases mput_mem ht with ht | rfl
  · exact h t ht
  · rw [jv_cn]
end Go.Proofs.Ytfkeohlpcjpkbaa

namespace Go.Proofs.Ytfkeohlpcjpkbaa
open Go.RowKit
def pairs (A B : List Ent3) (i j : Nat) : Int := esum A fun s => esum B fun t => con s t i j
def some2 (s : Ent3) (B : List Ent3) (i j : Nat) : Int := esum B fun t => con s t i j
theorem con_sz {s t : Ent3} {k l : Nat} (hs : sz (jv s.2.2) k) (ht : sz (jv t.2.2) l) (i j : Nat) : (con s t i j).natAbs ≤ 18446744073709551616 ^ (k + l) := by
  unfold con
  split
  · have := hs.mul ht
    unfold sz at this
    omega
  · simp
theorem sum_sz {A B C : List Ent3} {s : Ent3} {k l : Nat} (hA : ∀ t, t ∈ A → sz (jv t.2.2) k) (hs : sz (jv s.2.2) k) (hB : ∀ t, t ∈ B → sz (jv t.2.2) l) (hC : ∀ t, t ∈ C → sz (jv t.2.2) l)
    (lA : A.length ≤ 1048576) (lB : B.length ≤ 1048576) (lC : C.length ≤ 1048576) (i j : Nat) : sz (pairs A B i j + some2 s C i j) (k + l + 1) := by
  have h1 : ∀ t, t ∈ A → (esum B fun t' => con t t' i j).natAbs ≤ B.length * 18446744073709551616 ^ (k + l) := fun t ht => esum_bound fun t' ht' => con_sz (hA t ht) (hB t' ht') i j
  have h2 := esum_bound h1
  have h3 : (some2 s C i j).natAbs ≤ C.length * 18446744073709551616 ^ (k + l) := esum_bound fun t' ht' => con_sz hs (hC t' ht') i j
  unfold sz
  rw [Nat.pow_succ]
  have hW : 0 < 18446744073709551616 ^ (k + l) := Nat.pow_pos (by decide)
  have e1 : pairs A B i j = esum A fun s => esum B fun t => con s t i j := rfl
  rw [← e1] at h2
  generalize 18446744073709551616 ^ (k + l) = W at *
  have h4 : A.length * (B.length * W) ≤ 1048576 * (1048576 * W) := Nat.mul_le_mul lA (Nat.mul_le_mul_right _ lB)
  have h5 : C.length * W ≤ 1048576 * W := Nat.mul_le_mul_right _ lC
  omega
/-- A grid of at most so many entries. -/
structure Gs (k : Nat) (g : List Row) : Prop where
  len : g.length ≤ 1024
  row : ∀ r, r ∈ g → r.length ≤ 1024 ∧ Fit k r
theorem Gs.gf {k : Nat} {g : List Row} (h : Gs k g) {e : Nat} (he : k ≤ e) : Gf e g := ⟨Nat.le_trans h.len (by decide), fun r hr => ⟨Nat.le_trans (h.row r hr).1 (by decide), (h.row r hr).2.mono he⟩⟩
theorem Gs.tlen {k : Nat} {g : List Row} (h : Gs k g) : (tg g g.length).length ≤ 1048576 :=
  Nat.le_trans (tg_len (fun r hr => (h.row r hr).1) _) (Nat.mul_le_mul_right 1024 h.len)
theorem Gs.tin {k : Nat} {g : List Row} (h : Gs k g) : ∀ t, t ∈ tg g g.length → t.1 < 1024 ∧ t.2.1 < 1024 ∧ Lim t.2.2.2 ∧ t.2.2.2.length ≤ k := fun t ht => by
  obtain ⟨h1, h2, h3, _⟩ := tg_mem ht
  have h4 := h.row (g.getD t.1 []) (by rw [List.getD_eq_getElem?_getD, List.getElem?_eq_getElem h1]; exact List.getElem_mem h1)
  have h5 := h.len
  rw [h3]
  exact ⟨by omega, by omega, h4.2.get _⟩
/-- The state of the map of sums: what is done of the outer walk, the entry at hand, what is done of the inner one. -/
structure Sums (M A B C : List Ent3) (s : Ent3) (q : Nat) : Prop where
  nd : Nd M
  cn : Cn M
  low : ∀ t, t ∈ M → t.1 < 2048 ∧ t.2.1 < 2048
  val : ∀ i j, jv (lk z0 M i j) = pairs A B i j + some2 s C i j
  few : M.length ≤ q
theorem Sums.step {M A B C : List Ent3} {s t : Ent3} {q : Nat} (h : Sums M A B C s q) (hs : s.1 < 1024 ∧ s.2.1 < 1024) (ht : t.1 < 1024 ∧ t.2.1 < 1024) :
    Sums (mput M (s.1 + t.1) (s.2.1 + t.2.1) (Go.Proofs.Ytfkeohlpcjpkbaa.cn (jv (lk z0 M (s.1 + t.1) (s.2.1 + t.2.1)) + jv s.2.2 * jv t.2.2))) A B (C ++ [t]) s (q + 1) := by
  refine ⟨mput_nd h.nd, mput_cn h.cn, fun u hu => ?_, fun i j => ?_, Nat.le_trans (mput_len _ _ _ _) (Nat.succ_le_succ h.few)⟩
  · rcases mput_mem hu with hu | rfl
    · exact h.low u hu
    · exact ⟨by simp only; omega, by simp only; omega⟩
  · rw [mput_lk h.nd]
    have e1 : some2 s (C ++ [t]) i j = some2 s C i j + con s t i j := esum_snoc _ _ _
    rw [e1]
    split
    · rename_i e
      rw [jv_cn, h.val, ← e.1, ← e.2]
      unfold con
      rw [if_pos ⟨e.1.symm, e.2.symm⟩]
      omega
    · rename_i e
      rw [h.val]
      unfold con
      rw [if_neg fun e' => e ⟨e'.1.symm, e'.2.symm⟩]
      omega
theorem Sums.start {M A B C : List Ent3} {s t : Ent3} {q : Nat} (h : Sums M A B C s q) (hC : C.Perm B) : Sums M (A ++ [s]) B [] t q :=
  ⟨h.nd, h.cn, h.low, fun i j => by
    rw [h.val]
    have e1 : pairs (A ++ [s]) B i j = pairs A B i j + some2 s B i j := esum_snoc _ _ _
    have e2 : some2 s C i j = some2 s B i j := esum_perm hC _
    rw [e1, e2]
    show _ = _ + esum [] _
    rw [esum_nil]
    omega, h.few⟩
theorem Sums.other {M A B : List Ent3} {s t : Ent3} {q : Nat} (h : Sums M A B [] s q) : Sums M A B [] t q :=
  ⟨h.nd, h.cn, h.low, fun i j => h.val i j, h.few⟩
end Go.Proofs.Ytfkeohlpcjpkbaa

namespace Go.Proofs.Ytfkeohlpcjpkbaa
open Go.RowKit
/-- What Mul tells, by the entries' sums. -/
def gmuE (g h : List Row) : List (List Int) :=
  if gdx (ww g) = 0 ∨ gdx (ww h) = 0 then [] else gof (pairs (tg g g.length) (tg h h.length)) (gdx (ww g) + gdx (ww h) - 1) (gdy (ww g) + gdy (ww h) - 1)
theorem gdy_pos {G : List (List Int)} (h : gdx G ≠ 0) : gdy G ≠ 0 := fun h0 => h (by
  have h1 : ∀ n, gdyN G n = 0 → gdxN G n = 0 := fun n => by
    induction n with
    | zero => intro _; rfl
    | succ n ih =>
      intro hn
      simp only [gdyN] at hn
      simp only [gdxN]
      rw [if_pos (by omega)]
      exact ih (by omega)
  exact h1 _ h0)
theorem gMul_meets (v w : Value) (g h : List Row) (k l : Nat) (hg : Gs k g) (hh : Gs l h) (hk : k + l + 1 ≤ 1073741824) :
    Meets Try.prog 16 [v, w] [(v, W g), (w, W h)] (fun r os fs => os = [] ∧ fs = [(r, wd (gmuE g h))]) := by
  have fg := hg.gf (e := 137438953472) (by omega)
  have fh := hh.gf (e := 137438953472) (by omega)
  have hd1 := gDegrees_meets v g (fun r hr => (fg.row r hr).2) fg.len (fun r hr => (fg.row r hr).1)
  have hd2 := gDegrees_meets w h (fun r hr => (fh.row r hr).2) fh.len (fun r hr => (fh.row r hr).1)
  have ht1 := gterms_meets v g fg.row fg.len
  have ht2 := gterms_meets w h fh.row fh.len
  have bx1 : gdx (ww g) ≤ 1024 := Nat.le_trans (gdxN_le _ _) (by rw [ww_len]; exact hg.len)
  have bx2 : gdx (ww h) ≤ 1024 := Nat.le_trans (gdxN_le _ _) (by rw [ww_len]; exact hh.len)
  have bys : ∀ {e : Nat} {g : List Row}, Gs e g → gdy (ww g) ≤ 1024 := fun {e g} hg => gdyN_le (fun i => by
    rw [ww_get]
    refine Nat.le_trans (dg_le_len _) ?_
    rw [vv_len]
    by_cases hi : i < g.length
    · exact (hg.row _ (by rw [List.getD_eq_getElem?_getD, List.getElem?_eq_getElem hi]; exact List.getElem_mem hi)).1
    · rw [getD_end (Nat.le_of_not_lt hi)]; exact Nat.zero_le _) _
  have by1 := bys hg
  have by2 := bys hh
  have lA := hg.tlen
  have lB := hh.tlen
  have iA := hg.tin
  have iB := hh.tin
  have nA := tg_nd g g.length
  have sA : ∀ t, t ∈ tg g g.length → sz (jv t.2.2) k := fun t ht => sz_jv (iA t ht).2.2.1 (iA t ht).2.2.2
  have sB : ∀ t, t ∈ tg h h.length → sz (jv t.2.2) l := fun t ht => sz_jv (iB t ht).2.2.1 (iB t ht).2.2.2
  have hdef : gmuE g h = if gdx (ww g) = 0 ∨ gdx (ww h) = 0 then [] else gof (pairs (tg g g.length) (tg h h.length)) (gdx (ww g) + gdx (ww h) - 1) (gdy (ww g) + gdy (ww h) - 1) := rfl
  rw [hdef]
  generalize tg g g.length = A at *
  generalize tg h h.length = B at *
  refine meets_of_vc Try.func16 (by kernel_rfl) rfl (by kernel_rfl) (Nat.le_of_ble_eq_true rfl) ?_
  have hS0 : Sums [] [] B [] (0, 0, z0) (([] : List Ent3).length * B.length) := ⟨List.Pairwise.nil, fun t ht => (nomatch ht), fun t ht => (nomatch ht), fun i j => jv_z0, Nat.zero_le _⟩
  refine make_L J z0 fun m hm => ?_
  refine call_fn ht2 (Seals.refl _ _) (by repeat (first | exact Sub.nil _ | refine Sub.cons (by repeat (first | exact List.Mem.head _ | apply List.Mem.tail)) ?_)) ?_
  rintro tb _ _ ⟨rfl, _, rfl⟩
  refine call_fn ht1 (Seals.refl _ _) (by repeat (first | exact Sub.nil _ | refine Sub.cons (by repeat (first | exact List.Mem.head _ | apply List.Mem.tail)) ?_)) ?_
  rintro ta _ _ ⟨rfl, _, rfl⟩
  refine range_L (L := A) (by repeat (first | exact List.Mem.head _ | apply List.Mem.tail)) fun p hp => ?_
  refine loop_rule (X := List Ent3 × List Ent3 × List Ent3 × Value) (fun x => ([(0, v), (1, w), (5, m), (6, tb), (21, p)], [ownWD J z0 p x.1 x.2.2.2, ownMD J z0 m x.2.2.1], [(ta, MD J z0 A), (tb, MD J z0 B), (v, W g), (w, W h)]))
    (fun x => (x.1 ++ x.2.1).Perm A ∧ Sums x.2.2.1 x.2.1 B [] (0, 0, z0) (x.2.1.length * B.length)) (fun x => x.1.length) rfl ?_ ?_
  · exact again (A, [], [], .bool false) ⟨by simp, hS0⟩ trivial (by repeat (first | exact trivial | refine ⟨rfl, ?_⟩ | refine ⟨i64_eq (by first | omega | (simp only; omega)), ?_⟩ | refine ⟨u64_eq (by first | omega | (simp only; omega)), ?_⟩)) (Seals.sub (by repeat (first | exact Sub.nil _ | refine Sub.cons (by repeat (first | exact List.Mem.head _ | apply List.Mem.tail)) ?_)))
  · rintro ⟨L, D, M, c⟩ ⟨hperm, hS⟩
    simp only at hperm hS ⊢
    have hDA : ∀ t, t ∈ D → t ∈ A := fun t ht => hperm.mem_iff.1 (List.mem_append.2 (.inr ht))
    have hlD : L.length + D.length = A.length := by rw [← hperm.length_eq, List.length_append]
    refine next_L 0 rfl hp (fun e => ?_) fun n i j a x hn hgn => ?_
    · subst e
      rw [List.nil_append] at hperm
      have hV : ∀ i j, jv (lk z0 M i j) = pairs A B i j := fun i j => by
        rw [hS.val]
        have e1 : pairs D B i j = pairs A B i j := esum_perm hperm _
        have e2 : some2 (0, 0, z0) [] i j = 0 := rfl
        rw [e1, e2]; omega
      have hfit : ∀ t, t ∈ M → Lim t.2.2.2 ∧ t.2.2.2.length ≤ 137438953472 := fun t ht => by
        have h1 := hS.cn t ht
        have h2 := lk_of_mem hS.nd (show (t.1, t.2.1, t.2.2) ∈ M from ht)
        have h3 := sum_sz (s := (0, 0, z0)) (C := []) (fun u hu => sA u (hDA u hu)) (by rw [jv_z0]; exact sz_zero _) sB (fun u hu => by cases hu) (by omega) lB (Nat.zero_le _) t.1 t.2.1
        rw [← hS.val, h2] at h3
        rw [h1]
        exact ⟨Lim_lims _, Nat.le_trans h3.len (by omega)⟩
      have hlaid := fun u => glaid_meets u M (gdx (ww g) + gdx (ww h) - 1) (gdy (ww g) + gdy (ww h) - 1) (fun t ht => by have := hS.low t ht; omega) hS.nd hfit (by omega) (by omega)
      have e : gtr (laidN M (gdy (ww g) + gdy (ww h) - 1) (gdx (ww g) + gdx (ww h) - 1)) = gof (pairs A B) (gdx (ww g) + gdx (ww h) - 1) (gdy (ww g) + gdy (ww h) - 1) := by
        rw [laid_gof]
        congr 1
        funext i j
        exact hV i j
      rw [e] at hlaid
      refine call_fn hd1 (Seals.refl _ _) (by repeat (first | exact Sub.nil _ | refine Sub.cons (by repeat (first | exact List.Mem.head _ | apply List.Mem.tail)) ?_)) ?_
      rintro _ _ _ ⟨rfl, rfl, rfl⟩
      refine call_fn hd2 (Seals.refl _ _) (by repeat (first | exact Sub.nil _ | refine Sub.cons (by repeat (first | exact List.Mem.head _ | apply List.Mem.tail)) ?_)) ?_
      rintro _ _ _ ⟨rfl, rfl, rfl⟩
      by_cases z1 : gdx (ww g) = 0
      · refine cmp_true rfl (by omega) ?_
        refine fin ⟨rfl, rfl⟩ ?_
        rw [if_pos (.inl z1)]
        exact Seals.trans (Seals.drop 0 _ _) (Seals.trans (Seals.drop 0 _ _) (Seals.cons (Knw.nil 1 _) (Seals.nil _ _)))
      refine cmp_false rfl (by omega) ?_
      by_cases z2 : gdx (ww h) = 0
      · refine cmp_true rfl (by omega) ?_
        refine fin ⟨rfl, rfl⟩ ?_
        rw [if_pos (.inr z2)]
        exact Seals.trans (Seals.drop 0 _ _) (Seals.trans (Seals.drop 0 _ _) (Seals.cons (Knw.nil 1 _) (Seals.nil _ _)))
      refine cmp_false rfl (by omega) ?_
      have y1 := gdy_pos z1
      have y2 := gdy_pos z2
      refine ar (n := ((gdx (ww g) + gdx (ww h) - 1 : Nat) : Int) - 1) (by simp only [arZ, Option.some.injEq]; omega) (by first | exact ⟨by omega, by omega⟩ | (simp only [inK]; omega)) ?_
      refine ar (n := ((gdy (ww g) + gdy (ww h) - 1 : Nat) : Int) - 1) (by simp only [arZ, Option.some.injEq]; omega) (by first | exact ⟨by omega, by omega⟩ | (simp only [inK]; omega)) ?_
      refine call_fn (hlaid m) (Seals.trans (Seals.mapL 1 rfl hm) (Seals.drop 0 _ _)) (by repeat (first | exact Sub.nil _ | refine Sub.cons (by repeat (first | exact List.Mem.head _ | apply List.Mem.tail)) ?_)) ?_
      rintro r _ _ ⟨rfl, rfl⟩
      refine fin ⟨rfl, rfl⟩ ?_
      rw [if_neg (fun e => e.elim z1 z2)]
      exact Seals.sub (by repeat (first | exact Sub.nil _ | refine Sub.cons (by repeat (first | exact List.Mem.head _ | apply List.Mem.tail)) ?_))
    · have hsA : (i, j, a) ∈ A := hperm.mem_iff.1 (List.mem_append.2 (.inl (List.mem_of_getElem? hgn)))
      have his := iA _ hsA
      simp only at his
      refine walk_entry 0 rfl hp ?_
      refine alloc_rule (d := spotD 0 0) fun b7 hb7 => ?_
      refine alloc_rule (d := I false []) fun b8 hb8 => ?_
      refine store_box (d := spotD (i : Nat) (j : Nat)) 1 rfl hb7 rfl (by kernel_rfl) ?_ ?_; exact Reads.spot _ _
      refine store_box (d := J a) 0 rfl hb8 rfl (by kernel_rfl) ?_ ?_; exact Reads.fact (by repeat (first | exact List.Mem.head _ | apply List.Mem.tail))
      refine range_L (L := B) (by repeat (first | exact List.Mem.head _ | apply List.Mem.tail)) fun p2 hp2 => ?_
      refine loop_rule (X := List Ent3 × List Ent3 × List Ent3 × Value) (fun y => ([(0, v), (1, w), (5, m), (6, tb), (7, b7), (8, b8), (21, p), (28, p2)],
        [ownWD J z0 p2 y.1 y.2.2.2, own1 b8 2 1 (fun _ => J a), own1 b7 2 1 (fun _ => spotD (i : Nat) (j : Nat)), ownWD J z0 p (L.eraseIdx n) (.tuple #[spot (i : Nat) (j : Nat), x]), ownMD J z0 m y.2.2.1], [(ta, MD J z0 A), (tb, MD J z0 B), (v, W g), (w, W h)]))
        (fun y => (y.1 ++ y.2.1).Perm B ∧ Sums y.2.2.1 D B y.2.1 (i, j, a) (D.length * B.length + y.2.1.length)) (fun y => y.1.length) rfl ?_ ?_
      · refine again (B, [], M, .bool false) ⟨by simp, hS.other⟩ trivial (by repeat (first | exact trivial | refine ⟨rfl, ?_⟩ | refine ⟨i64_eq (by first | omega | (simp only; omega)), ?_⟩ | refine ⟨u64_eq (by first | omega | (simp only; omega)), ?_⟩)) ?_
        refine Seals.trans (Seals.own_cong (os := [_, _, _, _, _]) 1 (fun _ => J a) rfl rfl fun y hy => (by
          have h0 : y = 0 := by omega
          subst h0
          rfl)) ?_
        refine Seals.trans (Seals.own_cong (os := [_, _, _, _, _]) 2 (fun _ => spotD (i : Nat) (j : Nat)) rfl rfl fun y hy => (by
          have h0 : y = 0 := by omega
          subst h0
          rfl)) ?_
        exact Seals.sub (by repeat (first | exact Sub.nil _ | refine Sub.cons (by repeat (first | exact List.Mem.head _ | apply List.Mem.tail)) ?_))
      · rintro ⟨L2, C, M2, c2⟩ ⟨hperm2, hS2⟩
        simp only at hperm2 hS2 ⊢
        have hlC : L2.length + C.length = B.length := by rw [← hperm2.length_eq, List.length_append]
        refine next_L 0 rfl hp2 (fun e => ?_) fun n2 i2 j2 a2 x2 hn2 hgn2 => ?_
        · subst e
          rw [List.nil_append] at hperm2
          have hst := hS2.start (t := (0, 0, z0)) hperm2
          rw [hperm2.length_eq] at hst
          refine again (L.eraseIdx n, D ++ [(i, j, a)], M2, .tuple #[spot (i : Nat) (j : Nat), x]) ⟨perm_step hgn hperm, by
            simp only
            rw [show (D ++ [(i, j, a)]).length * B.length = D.length * B.length + B.length by simp [Nat.add_mul]]
            exact hst⟩ (by simp only [List.length_eraseIdx, if_pos hn]; omega) (by repeat (first | exact trivial | refine ⟨rfl, ?_⟩ | refine ⟨i64_eq (by first | omega | (simp only; omega)), ?_⟩ | refine ⟨u64_eq (by first | omega | (simp only; omega)), ?_⟩)) ?_
          exact Seals.trans (Seals.drop 0 _ _) (Seals.trans (Seals.drop 0 _ _) (Seals.trans (Seals.drop 0 _ _) (Seals.sub (by repeat (first | exact Sub.nil _ | refine Sub.cons (by repeat (first | exact List.Mem.head _ | apply List.Mem.tail)) ?_)))))
        · have htB : (i2, j2, a2) ∈ B := hperm2.mem_iff.1 (List.mem_append.2 (.inl (List.mem_of_getElem? hgn2)))
          have hit := iB _ htB
          simp only at hit
          have hVs := sum_sz (s := (i, j, a)) (C := C) (fun u hu => sA u (hDA u hu)) (sA _ hsA) sB (fun u hu => sB u (hperm2.mem_iff.1 (List.mem_append.2 (.inr hu)))) (by omega) lB (by omega) (i + i2) (j + j2)
          rw [← hS2.val] at hVs
          have hlkc := lk_cn hS2.cn (i + i2) (j + j2)
          have hprod : sz (jv a * jv a2) (k + l) := (sA _ hsA).mul (sB _ htB)
          have hstep := hS2.step (t := (i2, j2, a2)) ⟨his.1, his.2.1⟩ ⟨hit.1, hit.2.1⟩
          simp only at hstep
          have hmul := fun u u' => zMulJ u u' a a2 his.2.2.1 (Nat.le_trans his.2.2.2 (by omega)) hit.2.2.1 (Nat.le_trans hit.2.2.2 (by omega))
          have hadd := fun u u' => zAddZ u u' _ _ _ _ hVs hprod (by omega) (by omega)
          have hfew := hS2.few
          have hmulle : D.length * B.length ≤ 1048576 * 1048576 := Nat.mul_le_mul (by omega) lB
          have hJ : J (lk z0 M2 (i + i2) (j + j2)) = zd (jv (lk z0 M2 (i + i2) (j + j2))) := congrArg J hlkc
          refine walk_entry 0 rfl hp2 ?_
          refine alloc_rule (d := spotD 0 0) fun b9 hb9 => ?_
          refine alloc_rule (d := I false []) fun b10 hb10 => ?_
          refine store_box (d := spotD (i2 : Nat) (j2 : Nat)) 1 rfl hb9 rfl (by kernel_rfl) ?_ ?_; exact Reads.spot _ _
          refine store_box (d := J a2) 0 rfl hb10 rfl (by kernel_rfl) ?_ ?_; exact Reads.fact (by repeat (first | exact List.Mem.head _ | apply List.Mem.tail))
          refine field_box 4 rfl hb7 ?_
          refine load_box_field_one (u := .int .i64 (i : Nat)) 4 rfl (Part.left (Part.refl _)) ?_
          refine field_box 1 rfl hb9 ?_
          refine load_box_field_one (u := .int .i64 (i2 : Nat)) 1 rfl (Part.left (Part.refl _)) ?_
          refine ar (n := ((i + i2 : Nat) : Int)) (by simp [arZ]) (by first | exact ⟨by omega, by omega⟩ | (simp only [inK]; omega)) ?_
          refine field_box 4 rfl hb7 ?_
          refine load_box_field_one (u := .int .i64 (j : Nat)) 4 rfl (Part.right (Part.refl _)) ?_
          refine field_box 1 rfl hb9 ?_
          refine load_box_field_one (u := .int .i64 (j2 : Nat)) 1 rfl (Part.right (Part.refl _)) ?_
          refine ar (n := ((j + j2 : Nat) : Int)) (by simp [arZ]) (by first | exact ⟨by omega, by omega⟩ | (simp only [inK]; omega)) ?_
          refine build_spot ?_
          refine alloc_rule (d := spotD 0 0) fun b11 hb11 => ?_
          refine store_box (d := spotD ((i + i2 : Nat) : Int) ((j + j2 : Nat) : Int)) 0 rfl hb11 rfl (by kernel_rfl) ?_ ?_; exact Reads.spot _ _
          refine draw_rule [0, 1, 2, 3, 4, 5, 6, 7, 8, 9] [0, 1, 2, 3, 4, 5, 6, 7, 8, 9] (by kernel_rfl) (by kernel_rfl) ?_
          refine load_spot 0 rfl hb11 rfl ?_
          refine load_spot 0 rfl hb11 rfl ?_
          refine get_own_L (f := J) (z := z0) 7 rfl hm (fun t ht => by have := hS2.low t ht; omega) hS2.nd (by omega) (by omega) fun y1 => ?_
          rw [hJ]
          refine load_box (d := J a) 4 rfl hb8 rfl (load_J _) fun y2 => ?_
          refine load_box (d := J a2) 1 rfl hb10 rfl (load_J _) fun y3 => ?_
          refine call_fn (hmul y2 y3) (Seals.refl _ _) (by repeat (first | exact Sub.nil _ | refine Sub.cons (by repeat (first | exact List.Mem.head _ | apply List.Mem.tail)) ?_)) ?_
          rintro y4 _ _ ⟨rfl, rfl⟩
          refine call_fn (hadd y1 y4) (Seals.refl _ _) (by repeat (first | exact Sub.nil _ | refine Sub.cons (by repeat (first | exact List.Mem.head _ | apply List.Mem.tail)) ?_)) ?_
          rintro y5 _ _ ⟨rfl, rfl⟩
          refine put_L (f := J) (z := z0) (cn (jv (lk z0 M2 (i + i2) (j + j2)) + jv a * jv a2)) 7 rfl hm (fun t ht => by have := hS2.low t ht; omega) hS2.nd (by omega) (by omega) (by unfold maxLen; omega) (Knw.fact (by repeat (first | exact List.Mem.head _ | apply List.Mem.tail))) ?_
          refine again (L2.eraseIdx n2, C ++ [(i2, j2, a2)], mput M2 (i + i2) (j + j2) (cn (jv (lk z0 M2 (i + i2) (j + j2)) + jv a * jv a2)), .tuple #[spot (i2 : Nat) (j2 : Nat), x2]) ⟨perm_step hgn2 hperm2, by simp only [List.length_append, List.length_cons, List.length_nil]; exact hstep⟩ (by simp only [List.length_eraseIdx, if_pos hn2]; omega) (by repeat (first | exact trivial | refine ⟨rfl, ?_⟩ | refine ⟨i64_eq (by first | omega | (simp only; omega)), ?_⟩ | refine ⟨u64_eq (by first | omega | (simp only; omega)), ?_⟩)) ?_
          exact Seals.trans (Seals.drop 0 _ _) (Seals.trans (Seals.drop 0 _ _) (Seals.trans (Seals.drop 0 _ _) (Seals.sub (by repeat (first | exact Sub.nil _ | refine Sub.cons (by repeat (first | exact List.Mem.head _ | apply List.Mem.tail)) ?_)))))
end Go.Proofs.Ytfkeohlpcjpkbaa

namespace Go.Proofs.Ytfkeohlpcjpkbaa
open Go.RowKit
theorem gtr_len (H : List (List Int)) : (gtr H).length ≤ H.length := by
  induction H with
  | nil => exact Nat.le_refl _
  | cons r H ih =>
    simp only [gtr]
    split
    · split <;> simp
    · rename_i s t hg
      rw [hg] at ih
      simpa using ih
theorem gdx_zero {G : List (List Int)} : gdx G = 0 ↔ ∀ i j, gv G i j = 0 := by
  constructor
  · intro h i j
    exact gv_zero (by omega)
  · intro h
    have hz : ∀ i, dg (G.getD i []) = 0 := fun i => Nat.le_zero.1 (dg_le.2 fun j _ => h i j)
    have : ∀ n, gdxN G n = 0 := fun n => by
      induction n with
      | zero => rfl
      | succ n ih => simp only [gdxN]; rw [if_pos (hz n)]; exact ih
    exact this _
end Go.Proofs.Ytfkeohlpcjpkbaa

namespace Go.Proofs.Ytfkeohlpcjpkbaa
theorem kernel_det {n : Nat} {A : Mx} {u : Nat → Int} {i : Nat} (hi : i < n) (hu : u i ≠ 0) (h : ∀ j, j < n → isum (fun i => u i * A i j) n = 0) : det n A = 0 := by
  obtain ⟨n, rfl⟩ : ∃ m, n = m + 1 := ⟨n - 1, by omega⟩
  have h1 : isum (fun j => isum (fun k => u k * A k j) (n + 1) * adj n A j i) (n + 1) = 0 := isum_zero fun k hk => by rw [h k hk]; simp
  rw [isum_congr (g' := fun j => isum (fun k => u k * (A k j * adj n A j i)) (n + 1)) fun j _ => by
    rw [← isum_mul_right]; exact isum_congr fun k _ => by grind, isum_swap,
    isum_congr (g' := fun k => u k * (if k = i then det (n + 1) A else 0)) fun k hk => by rw [isum_mul, ← mul_adj A hk hi]; rfl,
    isum_one hi fun k _ hk => by rw [if_neg hk]; simp, if_pos rfl] at h1
  rcases Int.mul_eq_zero.1 h1 with h2 | h2
  · exact absurd h2 hu
  · exact h2
theorem isum_rev (g : Nat → Int) : ∀ n, isum (fun k => g (n - 1 - k)) n = isum g n
  | 0 => rfl
  | n + 1 => by
    rw [isum_front]
    show g (n + 1 - 1 - 0) + isum (fun k => g (n + 1 - 1 - (k + 1))) n = isum g n + g n
    rw [isum_congr (g' := fun k => g (n - 1 - k)) fun k hk => by congr 1; omega, isum_rev g n]
    simp only [Nat.add_sub_cancel, Nat.sub_zero]
    omega
/-- A row of Sylvester's matrix. -/
def sF (f : Nat → Int) (d i k : Nat) : Int := if i ≤ k ∧ k ≤ i + d then f (d + i - k) else 0
def S2 (m n : Nat) (f g : Nat → Int) : Mx := fun i k => if i < n then sF f m i k else sF g n (i - n) k
/-- The resultant of formal degrees m and n. -/
def RS (m n : Nat) (f g : Nat → Int) : Int := det (m + n) (S2 m n f g)
theorem S2_top {m n : Nat} {f g : Nat → Int} {i : Nat} (h : i < n) : S2 m n f g i = sF f m i := by funext k; exact if_pos h
theorem S2_low {m n : Nat} {f g : Nat → Int} {i : Nat} (h : n ≤ i) : S2 m n f g i = sF g n (i - n) := by funext k; exact if_neg (by omega)
-- Turned about.
end Go.Proofs.Ytfkeohlpcjpkbaa

namespace Go.Proofs.Ytfkeohlpcjpkbaa
open Go.RowKit
end Go.Proofs.Ytfkeohlpcjpkbaa

namespace Go.Proofs.Ytfkeohlpcjpkbaa
open Go.RowKit
/-- A row, what it stands for, its limbs and length. -/
structure Lk (A : Row) (l : List Int) (k n : Nat) : Prop where
  val : vv A = l
  fit : Fit k A
  len : A.length ≤ n
theorem Lk.raw {n c : Nat} {p : Row} (h : smallR n c p) (hl : limR p) : Lk p (vv p) c n := ⟨rfl, h.fit hl, h.1⟩
theorem Lk.told {l : List Int} {k n : Nat} (h : szR k l) (hn : l.length ≤ n) : Lk (l.map cn) l k n := ⟨vv_cn l, h.fit, by rw [List.length_map]; exact hn⟩
theorem Lk.sz {A : Row} {l : List Int} {k n : Nat} (h : Lk A l k n) : szR k l := by rw [← h.val]; exact h.fit.szR
theorem Lk.ll {A : Row} {l : List Int} {k n : Nat} (h : Lk A l k n) : l.length ≤ n := by rw [← h.val, vv_len]; exact h.len
theorem Lk.mono {A : Row} {l : List Int} {k n k' n' : Nat} (h : Lk A l k n) (hk : k ≤ k') (hn : n ≤ n') : Lk A l k' n' := ⟨h.val, h.fit.mono hk, Nat.le_trans h.len hn⟩
theorem pmul_len (l m : List Int) : (pmul l m).length ≤ l.length + m.length := by
  by_cases h1 : 0 < dg l
  · by_cases h2 : 0 < dg m
    · have := (pmul_dg h1 h2).1
      rw [dg_nm (pmul_nm l m)] at this
      have a1 := dg_le_len l
      have a2 := dg_le_len m
      omega
    · have : pmul l m = [] := (pmul_nm l m).ext Nm.nil fun x => by rw [ev_pmul, dg_zero.1 (show dg m = 0 by omega)]; simp [pev]
      rw [this]; exact Nat.zero_le _
  · have : pmul l m = [] := (pmul_nm l m).ext Nm.nil fun x => by rw [ev_pmul, dg_zero.1 (show dg l = 0 by omega)]; simp [pev]
    rw [this]; exact Nat.zero_le _
theorem szR.pmul {k j : Nat} {l m : List Int} (h : szR k l) (h' : szR j m) (hl : l.length < 18446744073709551616) : szR (k + j + 1) (pmul l m) := by
  have hn : (Go.Proofs.Ytfkeohlpcjpkbaa.nrm l).length ≤ l.length := nrm_length_le l
  unfold Go.Proofs.Ytfkeohlpcjpkbaa.pmul
  simp only
  split
  · exact fun x hx => by simp at hx
  · exact szR.nrm (szR.lst fun i _ => conv_sz h.nrm h'.nrm (by omega) i)
section
variable {A B : Row} {l m : List Int} {k j n n' : Nat}
theorem Lk.nrm (h : Lk A l k n) : Lk ((nrm l).map cn) (Go.Proofs.Ytfkeohlpcjpkbaa.nrm l) k n := Lk.told h.sz.nrm (Nat.le_trans (nrm_length_le _) h.ll)
theorem Lk.add (h : Lk A l k n) (h' : Lk B m k n) : Lk ((padd l m).map cn) (padd l m) (k + 1) n := Lk.told (h.sz.padd h'.sz) (Nat.le_trans (padd_len _ _) (Nat.max_le.2 ⟨h.ll, h'.ll⟩))
theorem Lk.sub (h : Lk A l k n) (h' : Lk B m k n) : Lk ((psub l m).map cn) (psub l m) (k + 1) n := Lk.told (h.sz.psub h'.sz) (Nat.le_trans (psub_len _ _) (Nat.max_le.2 ⟨h.ll, h'.ll⟩))
theorem Lk.mul (h : Lk A l k n) (h' : Lk B m j n') (hn : n < 1073741824) : Lk ((pmul l m).map cn) (pmul l m) (k + j + 1) (n + n') := Lk.told (h.sz.pmul h'.sz (by have := h.ll; omega)) (by have := pmul_len l m; have := h.ll; have := h'.ll; omega)
theorem xValueJ (v w : Value) {x : Bool × List Nat} (h : Lk A l k n) (hl : Lim x.2) (hx : x.2.length ≤ j) (hk : k + (n + 1) * (j + 1) ≤ 137438953472 := by decide) (hn : n ≤ 1073741824 := by decide) :
    Meets Try.prog 25 [v, w] [(v, V A), (w, J x)] (fun r os fs => os = [] ∧ fs = [(r, zd (pev l (jv x)))]) := by
  have hl' := h.len
  have := pValueJ v w A x k j h.fit hl hx (by have : (A.length + 1) * (j + 1) ≤ (n + 1) * (j + 1) := Nat.mul_le_mul_right _ (by omega); omega) (by omega)
  rw [h.val] at this; exact this
theorem ev_szn {x : Int} (h : Lk A l k n) (hx : sz x j) : sz (pev l x) (k + n * (j + 1)) := (ev_sz h.sz hx).mono (by
  have : l.length * (j + 1) ≤ n * (j + 1) := Nat.mul_le_mul_right _ h.ll
  omega)
end
end Go.Proofs.Ytfkeohlpcjpkbaa

namespace Go.Proofs.Ytfkeohlpcjpkbaa
open Go.RowKit
end Go.Proofs.Ytfkeohlpcjpkbaa

namespace Go.Proofs.Ytfkeohlpcjpkbaa
open Go.RowKit
end Go.Proofs.Ytfkeohlpcjpkbaa

namespace Go.Proofs.Ytfkeohlpcjpkbaa
open Go.RowKit
theorem ptim_len (c : Int) (l : List Int) : (ptim c l).length ≤ l.length := by
  have := prai_len c 0 l
  rw [prai_zero] at this; omega
theorem ptim_szR {k a : Nat} {c : Int} {l : List Int} (h : szR k l) (hc : sz c a) : szR (k + a) (ptim c l) := by
  have := h.prai hc 0
  rwa [prai_zero] at this
end Go.Proofs.Ytfkeohlpcjpkbaa

namespace Go.Proofs.Ytfkeohlpcjpkbaa
/-- A matrix of polynomials. -/
abbrev Px := Nat → Nat → List Int
/-- It at t. -/
def evm (A : Px) (t : Int) : Mx := fun i j => pev (A i j) t
def psumf (f : Nat → List Int) : Nat → List Int
  | 0 => []
  | n + 1 => padd (psumf f n) (f n)
def pdet : Nat → Px → List Int
  | 0, _ => [1]
  | n + 1, A => psumf (fun i => ptim (sg i) (pmul (A i 0) (pdet n fun x y => A (sk i x) (sk 0 y)))) (n + 1)
theorem ev_psumf (f : Nat → List Int) (n : Nat) (t : Int) : pev (psumf f n) t = isum (fun i => pev (f i) t) n := by
  induction n with
  | zero => rfl
  | succ n ih => rw [psumf, ev_padd, ih]; rfl
theorem psumf_nm (f : Nat → List Int) (n : Nat) : Nm (psumf f n) := by
  cases n with
  | zero => exact Nm.nil
  | succ n => exact padd_nm _ _
theorem psumf_len {f : Nat → List Int} {n l : Nat} (h : ∀ i, i < n → (f i).length ≤ l) : (psumf f n).length ≤ l := by
  induction n with
  | zero => exact Nat.zero_le _
  | succ n ih => exact Nat.le_trans (padd_len _ _) (Nat.max_le.2 ⟨ih fun i hi => h i (by omega), h n (by omega)⟩)
theorem psumf_sz {f : Nat → List Int} {n k : Nat} (h : ∀ i, i < n → szR k (f i)) : szR (k + n) (psumf f n) := by
  induction n with
  | zero => exact fun x hx => by simp [psumf] at hx
  | succ n ih => exact (ih fun i hi => h i (by omega)).padd ((h n (by omega)).mono (by omega))
theorem ev_pdet : ∀ (n : Nat) (A : Px) (t : Int), pev (pdet n A) t = det n (evm A t)
  | 0, _, t => by simp [pdet, det, pev]
  | n + 1, A, t => by
    rw [pdet, ev_psumf, det]
    exact isum_congr fun i _ => by rw [ev_ptim, ev_pmul, ev_pdet n]; rfl
theorem pdet_nm (n : Nat) (A : Px) : Nm (pdet n A) := by
  cases n with
  | zero => rfl
  | succ n => exact psumf_nm _ _
theorem pdet_len {l : Nat} : ∀ {n : Nat} {A : Px}, (∀ i j, (A i j).length ≤ l) → (pdet n A).length ≤ n * l + 1
  | 0, A, _ => by simp [pdet]
  | n + 1, A, h => by
    refine psumf_len fun i _ => Nat.le_trans (ptim_len _ _) (Nat.le_trans (pmul_len _ _) ?_)
    have h1 := h i 0
    have h2 := pdet_len (n := n) (A := fun x y => A (sk i x) (sk 0 y)) fun x y => h _ _
    rw [Nat.succ_mul]; omega
def pdk (k n : Nat) : Nat := n * (k + n + 3) + 1
theorem pdk_succ (k n : Nat) : k + pdk k n + 2 + (n + 1) ≤ pdk k (n + 1) := by unfold pdk; grind
theorem pdk_mono (k : Nat) {m n : Nat} (h : m ≤ n) : pdk k m ≤ pdk k n := Nat.succ_le_succ (Nat.mul_le_mul h (by omega))
theorem pdet_sz {k l : Nat} : ∀ {n : Nat} {A : Px}, (∀ i j, szR k (A i j)) → (∀ i j, (A i j).length ≤ l) → l < 18446744073709551616 → szR (pdk k n) (pdet n A)
  | 0, A, _, _, _ => fun x hx => by
    rw [List.mem_singleton.1 hx]; exact (sz_one 1 (by decide)).mono (by unfold pdk; omega)
  | n + 1, A, h, hl, h64 => by
    refine (psumf_sz (k := k + pdk k n + 2) fun i _ => ?_).mono (pdk_succ k n)
    have h1 := pdet_sz (n := n) (A := fun x y => A (sk i x) (sk 0 y)) (fun x y => h _ _) (fun x y => hl _ _) h64
    have h2 := (h i 0).pmul h1 (Nat.lt_of_le_of_lt (hl i 0) h64)
    exact (ptim_szR h2 (sz_one (sg i) (by unfold sg; split <;> decide))).mono (by omega)
theorem pdet_eq {n : Nat} {A : Px} {l : List Int} (hl : Nm l) (h : ∀ t, pev l t = det n (evm A t)) : l = pdet n A := hl.ext (pdet_nm _ _) fun t => by rw [h, ev_pdet]
def psu (A : Px) (rl cl : List Nat) : Px := fun i j => A (rl.getD i 0) (cl.getD j 0)
theorem ev_mi (A : Px) (s : Nat) (rl cl : List Nat) (t : Int) : pev (pdet s (psu A rl cl)) t = det s (sub' (evm A t) rl cl) := ev_pdet _ _ _
theorem psylv (A : Px) (s x y c k : Nat) (rl cl : List Nat) (hd : 0 < dg (pdet s (psu A rl cl))) (t : Int) :
    pev (pdet s (psu A rl cl)) t * pev (pdet (s + 2) (psu A (y :: x :: rl) (k :: c :: cl))) t =
      pev (pdet (s + 1) (psu A (x :: rl) (c :: cl))) t * pev (pdet (s + 1) (psu A (y :: rl) (k :: cl))) t - pev (pdet (s + 1) (psu A (y :: rl) (c :: cl))) t * pev (pdet (s + 1) (psu A (x :: rl) (k :: cl))) t := by
  have h := cancel hd (u := pmul (pdet s (psu A rl cl)) (pdet (s + 2) (psu A (y :: x :: rl) (k :: c :: cl))))
    (v := psub (pmul (pdet (s + 1) (psu A (x :: rl) (c :: cl))) (pdet (s + 1) (psu A (y :: rl) (k :: cl)))) (pmul (pdet (s + 1) (psu A (y :: rl) (c :: cl))) (pdet (s + 1) (psu A (x :: rl) (k :: cl)))))
    (fun z => by
      by_cases h0 : pev (pdet s (psu A rl cl)) z = 0
      · rw [h0, Int.zero_mul, Int.zero_mul]
      · congr 1
        rw [ev_pmul, ev_psub, ev_pmul, ev_pmul]
        simp only [ev_mi] at h0 ⊢
        exact sylv _ s x y c k rl cl h0) t
  rw [ev_pmul, ev_psub, ev_pmul, ev_pmul] at h
  exact h
def xc (s q i : Nat) : Nat := if i = s then q else if i = q then s else i
theorem xc_xc (s q i : Nat) : xc s q (xc s q i) = i := by unfold xc; split <;> split <;> (try split) <;> omega
theorem xc_lt {s q i N : Nat} (hs : s < N) (hq : q < N) (hi : i < N) : xc s q i < N := by unfold xc; split <;> (try split) <;> omega
theorem xc_ge {s q i : Nat} (hq : s ≤ q) (hi : s ≤ i) : s ≤ xc s q i := by unfold xc; split <;> (try split) <;> omega
theorem xc_low {s q i : Nat} (hq : s ≤ q) (hi : i < s) : xc s q i = i := by unfold xc; rw [if_neg (by omega), if_neg (by omega)]
theorem xc_at (s q : Nat) : xc s q s = q := if_pos rfl
/-- What holds at step s. -/
structure PInv (A : Px) (N : Nat) (x : Px) (last : List Int) (odd : Bool) (s : Nat) (rl cl : List Nat) (p : Nat → Nat) : Prop where
  le : s ≤ N
  into : ∀ i, i < N → p i < N
  onto : ∀ i, i < N → ∃ j, j < N ∧ p j = i
  rows : ∀ j, j < s → rl.getD j 0 = p (s - 1 - j)
  cols : ∀ j, j < s → cl.getD j 0 = s - 1 - j
  lst : last = pdet s (psu A rl cl)
  ne : 0 < dg last
  val : ∀ i k, s ≤ i → i < N → s ≤ k → k < N → x i k = pdet (s + 1) (psu A (p i :: rl) (k :: cl))
  sign : ∀ t, det N (fun i j => evm A t (p i) j) = (if odd then -1 else 1) * det N (evm A t)
theorem PInv.start {A : Px} {N : Nat} (h : ∀ i k, i < N → k < N → Nm (A i k)) : PInv A N A [1] false 0 [] [] (fun i => i) :=
  ⟨Nat.zero_le _, fun _ h => h, fun i h => ⟨i, h, rfl⟩, fun j h => absurd h (Nat.not_lt_zero _), fun j h => absurd h (Nat.not_lt_zero _), rfl, by decide,
    fun i k _ hi _ hk => pdet_eq (h i k hi hk) fun t => by simp [det, isum, sg, psu, evm], fun t => by simp⟩
/-- What is divided: there is an other side. -/
theorem PInv.dv {A : Px} {N : Nat} {x : Px} {last : List Int} {odd : Bool} {s : Nat} {rl cl : List Nat} {p : Nat → Nat} (h : PInv A N x last odd s rl cl p) {a b k : Nat} (ha : s ≤ a) (haN : a < N) (hb : s ≤ b) (hbN : b < N) (hs : s < N) (hk : s ≤ k) (hkN : k < N) (t : Int) :
    pev last t * pev (pdet (s + 2) (psu A (p b :: p a :: rl) (k :: s :: cl))) t = pev (x a s) t * pev (x b k) t - pev (x b s) t * pev (x a k) t := by
  rw [h.lst, h.val a s ha haN (Nat.le_refl _) hs, h.val b k hb hbN hk hkN, h.val b s hb hbN (Nat.le_refl _) hs, h.val a k ha haN hk hkN]
  exact psylv A s (p a) (p b) s k rl cl (by rw [← h.lst]; exact h.ne) t
theorem PInv.step {A : Px} {N : Nat} {x : Px} {last : List Int} {odd : Bool} {s : Nat} {rl cl : List Nat} {p : Nat → Nat} (h : PInv A N x last odd s rl cl p) {q : Nat} (hq : s ≤ q) (hqN : q < N) (h0 : x q s ≠ []) {z : Px}
    (hz : ∀ i k, s + 1 ≤ i → i < N → s + 1 ≤ k → k < N → z i k = pdet (s + 2) (psu A (p (xc s q i) :: p q :: rl) (k :: s :: cl))) :
    PInv A N z (x q s) (if q = s then odd else !odd) (s + 1) (p q :: rl) (s :: cl) (fun i => p (xc s q i)) := by
  have hs : s < N := by omega
  have hval := h.val q s hq hqN (Nat.le_refl _) hs
  refine ⟨by omega, fun i hi => h.into _ (xc_lt hs hqN hi), fun i hi => ?_, fun j hj => ?_, fun j hj => ?_, hval, ?_, hz, fun t => ?_⟩
  · obtain ⟨j, hj, e⟩ := h.onto i hi
    exact ⟨xc s q j, xc_lt hs hqN hj, by rw [xc_xc, e]⟩
  · cases j with
    | zero => rw [List.getD_cons_zero, show s + 1 - 1 - 0 = s by omega, xc_at]
    | succ j => rw [List.getD_cons_succ, h.rows j (by omega), show s + 1 - 1 - (j + 1) = s - 1 - j by omega, xc_low hq (by omega)]
  · cases j with
    | zero => rw [List.getD_cons_zero]; omega
    | succ j => rw [List.getD_cons_succ, h.cols j (by omega)]; omega
  · have hn : Nm (x q s) := by rw [hval]; exact pdet_nm _ _
    rw [dg_nm hn]
    exact List.length_pos_iff.2 h0
  · have hsg := h.sign t
    by_cases e : q = s
    · rw [if_pos e, ← hsg]
      refine det_congr fun i j _ _ => ?_
      have : xc s q i = i := by unfold xc; split <;> (try split) <;> omega
      rw [this]
    · rw [if_neg e]
      have hw := (det_form N).swap (A := fun i j => evm A t (p i) j) (r := s) (s := q) hs hqN (fun e' => e e'.symm)
      rw [hsg] at hw
      have : det N (fun i j => evm A t (p (xc s q i)) j) = - ((if odd = true then -1 else 1) * det N (evm A t)) := by
        rw [← hw]
        refine det_congr fun i j _ _ => ?_
        simp only [rw', xc]
        by_cases h1 : i = q
        · simp [h1, e]
        · by_cases h2 : i = s
          · have : ¬ s = q := fun e' => e e'.symm
            simp [h2, this]
          · simp [h1, h2]
      rw [this]
      cases odd <;> simp
theorem isum_beyond {f : Nat → Int} {m n : Nat} (hm : m ≤ n) (h : ∀ i, m ≤ i → f i = 0) : isum f n = isum f m := by
  induction hm with
  | refl => rfl
  | step hm ih => rw [isum, ih, h _ hm, Int.add_zero]
/-- No pivot: the determinant is 0. -/
theorem PInv.none {A : Px} {N : Nat} {x : Px} {last : List Int} {odd : Bool} {s : Nat} {rl cl : List Nat} {p : Nat → Nat} (h : PInv A N x last odd s rl cl p) (hs : s < N) (h0 : ∀ i, s ≤ i → i < N → x i s = []) : pdet N A = [] := by
  have key : ∀ t, pev last t * pev (pdet N A) t = 0 := fun t => by
    by_cases hl : pev last t = 0
    · rw [hl, Int.zero_mul]
    · rw [ev_pdet, ← det_tr]
      refine Int.mul_eq_zero.2 (.inr ?_)
      let B : Nat → Mx := fun a => sub' (evm A t) (a :: rl) (s :: cl)
      have hrow : ∀ a, a < N → det (s + 1) (B a) = 0 := fun a ha => by
        obtain ⟨i, hi, rfl⟩ := h.onto a ha
        by_cases his : s ≤ i
        · have h1 := h.val i s his hi (Nat.le_refl _) hs
          rw [h0 i his hi] at h1
          have h2 := ev_mi A (s + 1) (p i :: rl) (s :: cl) t
          rw [← h1] at h2
          exact h2.symm
        · refine (det_form (s + 1)).eqRows (r := 0) (s := s - 1 - i + 1) (by omega) (by omega) (by omega) fun j _ => ?_
          show evm A t (p i) _ = evm A t ((p i :: rl).getD (s - 1 - i + 1) 0) _
          rw [List.getD_cons_succ, h.rows _ (by omega), show s - 1 - (s - 1 - i) = i by omega]
      let u : Nat → Int := fun c => if c ≤ s then sg (s - c) * det s (cut (B 0) 0 (s - c)) else 0
      refine kernel_det (i := s) hs (u := u) ?_ fun a ha => ?_
      · show (if s ≤ s then sg (s - s) * det s (cut (B 0) 0 (s - s)) else 0) ≠ 0
        rw [if_pos (Nat.le_refl _), Nat.sub_self, sg_zero, Int.one_mul]
        intro e
        refine hl ?_
        rw [h.lst, ev_mi, ← e]
        exact det_congr fun i j _ _ => by simp [cut, B, sub', sk_zero]
      · have h1 := hrow a ha
        rw [det_row (B a) (i := 0) (by omega)] at h1
        rw [isum_beyond (m := s + 1) (by omega) fun i hi => by show (if i ≤ s then _ else (0 : Int)) * _ = 0; rw [if_neg (by omega), Int.zero_mul], ← isum_rev, ← h1]
        refine isum_congr fun j hj => ?_
        show (if s + 1 - 1 - j ≤ s then sg (s - (s + 1 - 1 - j)) * det s (cut (B 0) 0 (s - (s + 1 - 1 - j))) else 0) * evm A t a (s + 1 - 1 - j) = _
        rw [if_pos (by omega), show s - (s + 1 - 1 - j) = j by omega, Nat.zero_add]
        have e1 : det s (cut (B 0) 0 j) = det s (cut (B a) 0 j) := det_congr fun i k _ _ => by simp [cut, B, sub', sk_zero]
        have e2 : B a 0 j = evm A t a (s + 1 - 1 - j) := by
          show evm A t a ((s :: cl).getD j 0) = _
          congr 1
          cases j with
          | zero => rw [List.getD_cons_zero]; omega
          | succ j => rw [List.getD_cons_succ, h.cols j (by omega)]; omega
        rw [e1, e2]; grind
  rcases mul_zero' key with h1 | h1
  · have := h.ne; omega
  · rw [dg_nm (pdet_nm _ _)] at h1
    exact List.length_eq_zero_iff.1 h1
/-- All steps done: the determinant, but for its sign. -/
theorem PInv.done {A : Px} {N : Nat} {x : Px} {last : List Int} {odd : Bool} {rl cl : List Nat} {p : Nat → Nat} (h : PInv A N x last odd N rl cl p) (t : Int) : pev (pdet N A) t = if odd then - pev last t else pev last t := by
  have e : pev last t = det N (fun i j => evm A t (p i) j) := by
    rw [h.lst, ev_mi, ← det_rev N (fun i j => evm A t (p i) j)]
    refine det_congr fun i j hi hj => ?_
    simp only [sub', rev]
    rw [h.rows i hi, h.cols j hj]
  rw [e, h.sign t, ev_pdet]
  cases odd <;> simp
end Go.Proofs.Ytfkeohlpcjpkbaa

namespace Go.Proofs.Ytfkeohlpcjpkbaa
open Go.RowKit
theorem info_pp : (Try.prog.info? 62).map (fun i => (i.zero, i.size, i.bytes)) = some (some (.slice none 0 0), 1, 24) := by kernel_rfl
theorem info_p : (Try.prog.info? 28).map (fun i => (i.zero, i.size, i.bytes)) = some (some (.slice none 0 0), 1, 24) := by kernel_rfl
instance : TSl Try.prog 58 62 1 := ⟨Try.underlying58, by kernel_rfl⟩
instance : TOne Try.prog 62 := ⟨⟨_, Try.underlying62, trivial⟩, by kernel_rfl⟩
instance : TEl Try.prog 62 1 24 := tel info_pp rfl (by decide)
theorem tz_pp : TZero Try.prog 62 (.one (.slice none 0 0)) := tzero info_pp fun _ _ => ⟨rfl, rfl⟩
theorem tz_p : TZero Try.prog 28 (vd []) := tzero info_p fun S w => rd_nil S w 2 _
/-- Rows of polynomials of one's own. -/
def famP (vs : Nat → Value) (R C : Nat) (x : Px) : Own := ⟨R, vs, 1, fun _ => C, fun i k => vd (x i k)⟩
theorem load_famP {vs : Nat → Value} {R C : Nat} {x : Px} {os : List Own} {fs : List Fact} {K : Cont} (pos i j : Nat) (h : nthOwn os pos = some (famP vs R C x)) (hi : i < R) (hj : j < C) (a : List Int) (ha : x i j = a)
    (k : ∀ u, K u os ((u, vd a) :: fs)) : LoadK Try.prog 28 (eptr (vs i) (j * 1)) os fs K := by
  subst ha
  exact load_own (o := famP vs R C x) pos i h hi j 0 rfl hj (Part.refl _) (load_P _) k
theorem index_famP {kk : IntKind} {z : Int} {vs : Nat → Value} {R C : Nat} {x : Px} {os : List Own} {fs : List Fact} {K : Cont} (pos i : Nat) (h : nthOwn os pos = some (famP vs R C x)) (hi : i < R) (hs : isSl (vs i)) (j : Nat) (hz : z = (j : Int)) (hj : j < C)
    (k : K (eptr (vs i) (j * 1)) os fs) : IndexAddrK Try.prog 62 (vs i) (.int kk z) os fs K :=
  index_own (o := famP vs R C x) pos i h hi (fun r => by obtain ⟨a, n, c, e⟩ := hs; show vs i ≠ _; rw [e]; simp) j hz hj k
end Go.Proofs.Ytfkeohlpcjpkbaa
