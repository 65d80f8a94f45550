/- Towards the statement, part 5 of 6: contracts of functions, and what they rest on. Conditions: each theorem names its own. -/
import Derived.Test.YtabdfhdddmbmlaaGreatM4
set_option linter.unusedVariables false
set_option linter.unusedSimpArgs false
namespace Go.Proofs.YtabdfhdddmbmlaaGreat
open Go.RowKit
def inL (l : List Nat) (i : Nat) : Bool := l.any (Nat.beq i)
def InO : List Own → List Own → Prop
  | [], _ => True
  | E :: r, os => E ∈ os ∧ InO r os
theorem InO.get {Es os : List Own} (h : InO Es os) {E : Own} (hE : E ∈ Es) : E ∈ os := by
  induction Es with
  | nil => cases hE
  | cons x r ih =>
    rcases List.mem_cons.1 hE with rfl | hE
    · exact h.1
    · exact ih h.2 hE
structure DoE (P : Program) (E : List Own) (f : Fr) (o : Oper) (os : List Own) (fs : List Fact) (K : Cont) : Prop where
  out : ∃ v, (∀ a : Act, KAt (opReads o.op) f a → ∀ G os fs w, InO E os → Holds G os fs w → (execOp a.eval o).run P w = .ok (.value v) w) ∧ InO E os ∧ K v os fs
def noB : Bool → Bool
  | true => false
  | false => true
def isCallV : Op → Bool
  | .call c => match c.callee with
    | .value _ => true
    | _ => false
  | _ => false
theorem DoK.semD {P : Program} {f : Fr} {os : List Own} {fs : List Fact} {K : Cont} (o : Oper) (hc : isCallV o.op = true)
    (h : DoK P false f o.type os fs K o.op) : ∃ s, (∀ a : Act, KAt (opReads o.op) f a → execOp a.eval o = s) ∧ Dyn P s os fs K := by
  cases hop : o.op <;> simp only [hop, isCallV, Bool.false_eq_true] at hc
  rename_i c
  have hargs : ∀ x, x ∈ c.args.toList → x ∈ o.op.operands.toList := fun x hx => by simp [hop, Op.operands, Call.operands]; exact .inr (by simpa using hx)
  cases hcl : c.callee <;> simp only [hcl, Bool.false_eq_true] at hc
  rw [hop] at h
  simp only [DoK, hcl] at h
  obtain ⟨x, h1, h⟩ := withV_elim h
  obtain ⟨y, h2, h⟩ := withVs_elim h
  refine ⟨_, fun a hk => ?_, h.out⟩
  rw [← hop] at hk
  unfold execOp
  simp only [hop, resolve, hcl, hk.ev (by simp [hop, Op.operands, Call.operands, hcl]) h1, arr_map _ _ _ (hk.evs hargs h2)]
theorem callV_dyn {o : Op} (h : isCallV o = true) : isDyn o = true := by
  cases o <;> simp only [isCallV, Bool.false_eq_true] at h
  rename_i c
  cases hc : c.callee <;> simp only [hc, Bool.false_eq_true] at h
  simp [isDyn, hc]
def andB (b : Bool) (p q : Prop) : Prop :=
  match b with
  | true => p ∧ q
  | false => q
def selE (b : Bool) (p q : Prop) : Prop :=
  match b with
  | true => p
  | false => q
noncomputable def VCE (P : Program) (L : List Oper) (E : List Own) (fl p1 sl : List Nat) (c : List Nat) : Fr → List Own → List Fact → Next1 → Prop :=
  @List.rec Nat (fun _ => Fr → List Own → List Fact → Next1 → Prop) (fun f os fs K => K f os fs)
    (fun i _ ih f os fs K => match nthO L i with
      | some o => selE (inL fl i) (orF (gd L f o.guard) (DoE P E f o os fs fun v os fs => ih (putF f o.dst v) os fs K) False)
        (orF (gd L f o.guard)
          (orV (detv f o.op) (fun v => ih (putF f o.dst v) os fs K) (DoK P (noB (inL sl i)) f o.type os fs (fun v os fs => andB (inL p1 i) (InO E os) (ih (putF f o.dst v) os fs K)) o.op))
          (ih (putF f o.dst undef) os fs K))
      | none => ih f os fs K) c
theorem VCE_cons (P : Program) (L : List Oper) (E : List Own) (fl p1 sl : List Nat) (i : Nat) (c : List Nat) (f : Fr) (os : List Own) (fs : List Fact) (K : Next1) (o : Oper) (ho : L[i]? = some o) :
    VCE P L E fl p1 sl (i :: c) f os fs K = selE (inL fl i) (orF (gd L f o.guard) (DoE P E f o os fs fun v os fs => VCE P L E fl p1 sl c (putF f o.dst v) os fs K) False)
        (orF (gd L f o.guard)
          (orV (detv f o.op) (fun v => VCE P L E fl p1 sl c (putF f o.dst v) os fs K) (DoK P (noB (inL sl i)) f o.type os fs (fun v os fs => andB (inL p1 i) (InO E os) (VCE P L E fl p1 sl c (putF f o.dst v) os fs K)) o.op))
          (VCE P L E fl p1 sl c (putF f o.dst undef) os fs K)) := by
  have h : nthO L i = some o := by rw [nthO_eq, ho]
  show (match nthO L i with
    | some o => _
    | none => _) = _
  rw [h]
  rfl
def pairE (L : List Oper) (tbl fl p1 sl : List Nat) (i : Nat) (oi : Oper) (j : Nat) (oj : Oper) : Bool :=
  !Nat.beq i j && !sameD oi.dst oj.dst && ((!(hits oi.dst (slotsOf L oj) || hits oj.dst (slotsOf L oi) || isDyn oi.op || (isDyn oj.op && inL fl i && !inL p1 j) || ((isSt oj.op || inL sl j) && !isPu oi.op && !inL fl i))) || anc tbl i j)
def pairsE (L : List Oper) (tbl fl p1 sl : List Nat) : List Nat → Bool
  | [] => true
  | i :: r => (match nthO L i with
      | none => false
      | some oi => !hits oi.dst (slotsOf L oi) && !(inL fl i && isDyn oi.op) && !(inL sl i && !isCallV oi.op) && r.all fun j => match nthO L j with
        | some oj => pairE L tbl fl p1 sl i oi j oj
        | none => false) && pairsE L tbl fl p1 sl r
def ordEOK (L : List Oper) (fl p1 sl c : List Nat) : Bool :=
  Nat.beq c.length L.length && (List.range L.length).all (fun i => c.any (Nat.beq i)) && pairsE L (ancs L []) fl p1 sl c
structure CheckedE (L : List Oper) (tbl fl p1 sl : List Nat) (c : List Nat) : Prop where
  nodup : c.Nodup
  all : ∀ i, i ∈ c ↔ i < L.length
  self : ∀ i o, i ∈ c → L[i]? = some o → (∀ t, o.dst = some t → t ∉ slotsOf L o) ∧ (inL fl i = true → isDyn o.op = false) ∧ (inL sl i = true → isCallV o.op = true)
  pair : ∀ pre i post j oi oj, c = pre ++ i :: post → j ∈ post → L[i]? = some oi → L[j]? = some oj →
    (∀ t, oi.dst = some t → oj.dst ≠ some t) ∧ ((∃ t, oi.dst = some t ∧ t ∈ slotsOf L oj) ∨ (∃ t, oj.dst = some t ∧ t ∈ slotsOf L oi) ∨ isDyn oi.op = true ∨ (isDyn oj.op = true ∧ inL fl i = true ∧ inL p1 j = false) ∨ ((isSt oj.op || inL sl j) = true ∧ isPu oi.op = false ∧ inL fl i = false) → anc tbl i j = true)
theorem pairsE_sound {L : List Oper} {tbl fl p1 sl : List Nat} : ∀ {c : List Nat}, pairsE L tbl fl p1 sl c = true →
    c.Nodup ∧ (∀ i, i ∈ c → i < L.length) ∧ (∀ i o, i ∈ c → L[i]? = some o → (∀ t, o.dst = some t → t ∉ slotsOf L o) ∧ (inL fl i = true → isDyn o.op = false) ∧ (inL sl i = true → isCallV o.op = true)) ∧
    ∀ pre i post j oi oj, c = pre ++ i :: post → j ∈ post → L[i]? = some oi → L[j]? = some oj →
      (∀ t, oi.dst = some t → oj.dst ≠ some t) ∧ ((∃ t, oi.dst = some t ∧ t ∈ slotsOf L oj) ∨ (∃ t, oj.dst = some t ∧ t ∈ slotsOf L oi) ∨ isDyn oi.op = true ∨ (isDyn oj.op = true ∧ inL fl i = true ∧ inL p1 j = false) ∨ ((isSt oj.op || inL sl j) = true ∧ isPu oi.op = false ∧ inL fl i = false) → anc tbl i j = true)
  | [], _ => ⟨List.nodup_nil, by simp, by simp, fun pre i post j oi oj h => by simp at h⟩
  | x :: r, h => by
    simp only [pairsE, Bool.and_eq_true] at h
    obtain ⟨h1, h2⟩ := h
    obtain ⟨g1, g2, g3, g4⟩ := pairsE_sound h2
    cases hx : nthO L x with
    | none => simp [hx] at h1
    | some ox =>
      simp only [hx, Bool.and_eq_true] at h1
      obtain ⟨⟨⟨h3, h3'⟩, h3''⟩, h4⟩ := h1
      have hxL : L[x]? = some ox := by rw [← nthO_eq]; exact hx
      have hpair : ∀ j, j ∈ r → ∃ oj, nthO L j = some oj ∧ pairE L tbl fl p1 sl x ox j oj = true := by
        intro j hj
        have := List.all_eq_true.1 h4 j hj
        cases hoj : nthO L j with
        | none => simp [hoj] at this
        | some oj => simp only [hoj] at this; exact ⟨oj, rfl, this⟩
      refine ⟨List.nodup_cons.2 ⟨fun hm => ?_, g1⟩, fun i hi => ?_, fun i o hi ho => ?_, fun pre i post j oi oj hp hj hoi hoj => ?_⟩
      · obtain ⟨oj, _, hp⟩ := hpair x hm
        simp [pairE] at hp
      · rcases List.mem_cons.1 hi with rfl | hi
        · exact (List.getElem?_eq_some_iff.1 hxL).1
        · exact g2 i hi
      · rcases List.mem_cons.1 hi with rfl | hi
        · rw [hxL] at ho
          obtain rfl := Option.some.inj ho
          refine ⟨fun t ht hm => ?_, fun hf => ?_, fun hf => ?_⟩
          · rw [hits_iff.2 ⟨t, ht, hm⟩] at h3
            cases h3
          · rw [hf] at h3'
            cases hd : isDyn ox.op with
            | false => rfl
            | true => rw [hd] at h3'; cases h3'
          · rw [hf] at h3''
            cases hd : isCallV ox.op with
            | true => rfl
            | false => rw [hd] at h3''; cases h3''
        · exact g3 i o hi ho
      · cases pre with
        | nil =>
          simp only [List.nil_append, List.cons.injEq] at hp
          obtain ⟨rfl, rfl⟩ := hp
          obtain ⟨oj', h5, h6⟩ := hpair j hj
          rw [nthO_eq, hoj] at h5
          obtain rfl := Option.some.inj h5
          rw [hxL] at hoi
          obtain rfl := Option.some.inj hoi
          simp only [pairE, Bool.and_eq_true, Bool.or_eq_true, Bool.not_eq_true'] at h6
          obtain ⟨⟨_, h7⟩, h8⟩ := h6
          refine ⟨fun t ht ht' => ?_, fun hc => ?_⟩
          · rw [ht, ht'] at h7; simp [sameD] at h7
          · rcases h8 with h8 | h8
            · exfalso
              simp only [Bool.or_eq_false_iff] at h8
              obtain ⟨⟨⟨⟨q1, q2⟩, q3⟩, q5⟩, q4⟩ := h8
              rcases hc with hc | hc | hc | hc | hc
              · rw [hits_iff.2 hc] at q1; cases q1
              · rw [hits_iff.2 hc] at q2; cases q2
              · rw [hc] at q3; cases q3
              · rw [hc.1, hc.2.1, hc.2.2] at q5; cases q5
              · rw [hc.1, hc.2.1, hc.2.2] at q4; cases q4
            · exact h8
        | cons y pre =>
          simp only [List.cons_append, List.cons.injEq] at hp
          obtain ⟨rfl, rfl⟩ := hp
          exact g4 pre i post j oi oj rfl hj hoi hoj
theorem ordEOK_sound {L : List Oper} {fl p1 sl c : List Nat} (h : ordEOK L fl p1 sl c = true) : CheckedE L (ancs L []) fl p1 sl c := by
  simp only [ordEOK, Bool.and_eq_true] at h
  obtain ⟨⟨_, h2⟩, h3⟩ := h
  obtain ⟨g1, g2, g3, g4⟩ := pairsE_sound h3
  refine ⟨g1, fun i => ⟨g2 i, fun hi => ?_⟩, g3, g4⟩
  have := List.all_eq_true.1 h2 i (by simpa using hi)
  obtain ⟨x, hx, hb⟩ := List.any_eq_true.1 this
  have := Nat.eq_of_beq_eq_true hb
  subst this
  exact hx
def PendE (P : Program) (L : List Oper) (tbl : List Nat) (E : List Own) (f0 : Fr) (vd : List Nat) (val : Nat → Value) (k : Nat) (o : Oper) : Prop :=
  ∃ fk : Fr, (∀ t v, t ∈ slotsOf L o → look fk t = some v → Src L tbl f0 vd val k t v) ∧ gd L fk o.guard = some true ∧
    ∀ a : Act, KAt (opReads o.op) fk a → ∀ G os fs w, InO E os → Holds G os fs w → (execOp a.eval o).run P w = .ok (.value (val k)) w
structure InvE (P : Program) (N : Nat) (L : List Oper) (E : List Own) (fl p1 sl : List Nat) (f0 : Fr) (G : Ctx) (K : Next1) (c : List Nat) (D : Nat → Prop) (vd c' : List Nat) (val : Nat → Value) (vf : Fr) (os : List Own) (fs : List Fact) (a : Act) (w : World) : Prop where
  split : c = vd ++ c'
  sub : ∀ i, D i → i ∈ vd
  clos : ∀ i, D i → ∀ j, Binds .any L j i → D j
  defers : a.defers = []
  size : a.tmps.size = N
  act : ∀ t v, ((∃ j o, D j ∧ L[j]? = some o ∧ o.dst = some t ∧ val j = v) ∨ (look f0 t = some v ∧ ∀ j o, D j → L[j]? = some o → o.dst ≠ some t)) → a.tmps[t]? = some v
  virt : ∀ t v, look vf t = some v → (∃ j o, j ∈ vd ∧ L[j]? = some o ∧ o.dst = some t ∧ val j = v) ∨ (look f0 t = some v ∧ ∀ j o, j ∈ vd → L[j]? = some o → o.dst ≠ some t)
  pend : ∀ k o, k ∈ vd → ¬ D k → L[k]? = some o → inL fl k = false → Pend P L (ancs L []) f0 vd val w k o
  pendE : ∀ k o, k ∈ vd → ¬ D k → L[k]? = some o → inL fl k = true → PendE P L (ancs L []) E f0 vd val k o
  ent : ∀ k, k ∈ vd → ¬ D k → inL fl k = true → InO E os
  st : Holds G os fs w
  vc : VCE P L E fl p1 sl c' vf os fs K
section
variable {P : Program} {N : Nat} {L : List Oper} {E : List Own} {fl p1 sl : List Nat} {f0 : Fr} {G : Ctx} {K : Next1} {c : List Nat}
theorem srcE_next (hc : CheckedE L (ancs L []) fl p1 sl c) {vd c' : List Nat} {k : Nat} {val : Nat → Value} {vf : Fr} {o : Oper} (hs : c = vd ++ k :: c') (ho : L[k]? = some o)
    (virt : ∀ t v, look vf t = some v → (∃ j o, j ∈ vd ∧ L[j]? = some o ∧ o.dst = some t ∧ val j = v) ∨ (look f0 t = some v ∧ ∀ j o, j ∈ vd → L[j]? = some o → o.dst ≠ some t)) :
    ∀ t v, t ∈ slotsOf L o → look vf t = some v → Src L (ancs L []) f0 vd val k t v := by
  intro t v ht hl
  rcases virt t v hl with ⟨j, oj, h1, h2, h3, h4⟩ | ⟨h1, h2⟩
  · left
    refine ⟨j, oj, h1, h2, h3, h4, ?_⟩
    obtain ⟨pre, post, rfl⟩ := List.append_of_mem h1
    exact (hc.pair pre j (post ++ k :: c') k oj o (by rw [hs]; simp) (by simp) h2 ho).2 (.inl ⟨t, h3, ht⟩)
  · right
    refine ⟨h1, fun j oj hj hd => ?_⟩
    have hjc : j ∈ c := (hc.all j).2 (List.getElem?_eq_some_iff.1 hj).1
    rw [hs] at hjc
    rcases List.mem_append.1 hjc with hm | hm
    · exact absurd hd (h2 j oj hm hj)
    · rcases List.mem_cons.1 hm with rfl | hm
      · rw [ho] at hj
        obtain rfl := Option.some.inj hj
        exact absurd ht ((hc.self j o ((hc.all j).2 (List.getElem?_eq_some_iff.1 ho).1) ho).1 t hd)
      · exact (hc.pair vd k c' j o oj hs hm ho hj).2 (.inr (.inl ⟨t, hd, ht⟩))
theorem PendE.keep {tbl : List Nat} {vd : List Nat} {val : Nat → Value} {k : Nat} {o : Oper} {u : Value} {x : Nat} (hx : x ∉ vd) (hk : k ∈ vd) (h : PendE P L tbl E f0 vd val k o) :
    PendE P L tbl E f0 (vd ++ [x]) (setV val x u) k o := by
  have hkx : k ≠ x := fun e => hx (e ▸ hk)
  obtain ⟨fk, h1, h2, h3⟩ := h
  refine ⟨fk, fun t v ht hl => (h1 t v ht hl).keep hx, h2, ?_⟩
  simpa [setV, hkx] using h3
theorem virtE_keep {vd : List Nat} {val : Nat → Value} {vf : Fr} {x : Nat} {o : Oper} {u : Value} (hxvd : x ∉ vd) (ho : L[x]? = some o)
    (virt : ∀ t v, look vf t = some v → (∃ j o, j ∈ vd ∧ L[j]? = some o ∧ o.dst = some t ∧ val j = v) ∨ (look f0 t = some v ∧ ∀ j o, j ∈ vd → L[j]? = some o → o.dst ≠ some t)) :
    ∀ t v, look (putF vf o.dst u) t = some v → (∃ j o, j ∈ vd ++ [x] ∧ L[j]? = some o ∧ o.dst = some t ∧ setV val x u j = v) ∨ (look f0 t = some v ∧ ∀ j o, j ∈ vd ++ [x] → L[j]? = some o → o.dst ≠ some t) := by
  intro t v hl
  have old : look vf t = some v → o.dst ≠ some t → (∃ j o, j ∈ vd ++ [x] ∧ L[j]? = some o ∧ o.dst = some t ∧ setV val x u j = v) ∨ (look f0 t = some v ∧ ∀ j o, j ∈ vd ++ [x] → L[j]? = some o → o.dst ≠ some t) := by
    intro hl hne
    rcases virt t v hl with ⟨j, oj, h1, h2, h3, h4⟩ | ⟨h1, h2⟩
    · refine .inl ⟨j, oj, by simp [h1], h2, h3, ?_⟩
      have : j ≠ x := fun e => hxvd (e ▸ h1)
      simp [setV, this, h4]
    · refine .inr ⟨h1, fun j oj hj hjo => ?_⟩
      rcases List.mem_append.1 hj with hj | hj
      · exact h2 j oj hj hjo
      · simp only [List.mem_singleton] at hj
        subst hj
        rw [ho] at hjo
        obtain rfl := Option.some.inj hjo
        exact hne
  cases hd : o.dst with
  | none => rw [hd] at hl; exact old hl (by rw [hd]; simp)
  | some d =>
    rw [hd] at hl
    simp only [putF, look] at hl
    cases hb : Nat.beq d t with
    | true =>
      have := Nat.eq_of_beq_eq_true hb
      subst this
      simp only [hb, Option.some.injEq] at hl
      exact .inl ⟨x, o, by simp, ho, hd, by simp [setV, hl]⟩
    | false =>
      simp only [hb] at hl
      exact old hl (by rw [hd]; intro e; simp only [Option.some.injEq] at e; subst e; simp at hb)
theorem virtE_step (hc : CheckedE L (ancs L []) fl p1 sl c) {D : Nat → Prop} {vd c' : List Nat} {k : Nat} {val : Nat → Value} {vf : Fr} {os : List Own} {fs : List Fact} {a : Act} {w : World} {o : Oper}
    (h : InvE P N L E fl p1 sl f0 G K c D vd (k :: c') val vf os fs a w) (ho : L[k]? = some o) (hdyn : isDyn o.op = false) (hp1 : inL p1 k = false) :
    ∃ val' vf' fs', InvE P N L E fl p1 sl f0 G K c D (vd ++ [k]) c' val' vf' os fs' a w := by
  have hnod := hc.nodup
  rw [h.split, List.nodup_append] at hnod
  have hk : k ∉ vd := fun hm => hnod.2.2 k hm k (by simp) rfl
  have src := srcE_next hc h.split ho h.virt
  have hvc := h.vc
  rw [VCE_cons _ _ _ _ _ _ _ _ _ _ _ _ _ ho] at hvc
  have fin : ∀ (u : Value) (fs' : List Fact), Holds G os fs' w → VCE P L E fl p1 sl c' (putF vf o.dst u) os fs' K →
      (inL fl k = false → (gd L vf o.guard = some false ∧ u = undef) ∨ (gd L vf o.guard = some true ∧ ∀ (a : Act) (w' : World), KAt (opReads o.op) vf a → (isPu o.op = true ∨ Below w.heap.size w w') → (execOp a.eval o).run P w' = .ok (.value u) w')) →
      (inL fl k = true → InO E os ∧ gd L vf o.guard = some true ∧ ∀ a : Act, KAt (opReads o.op) vf a → ∀ G os fs w, InO E os → Holds G os fs w → (execOp a.eval o).run P w = .ok (.value u) w) →
      ∃ val' vf' fs', InvE P N L E fl p1 sl f0 G K c D (vd ++ [k]) c' val' vf' os fs' a w := by
    intro u fs' hst hv hp hpE
    refine ⟨setV val k u, putF vf o.dst u, fs', by rw [h.split]; simp, fun i hi => by simp [h.sub i hi], h.clos, h.defers, h.size, ?_, virtE_keep hk ho h.virt, ?_, ?_, ?_, hst, hv⟩
    · intro t v ht
      refine h.act t v ?_
      rcases ht with ⟨j, oj, h1, h2, h3, h4⟩ | ht
      · have : j ≠ k := fun e => hk (e ▸ h.sub j h1)
        exact .inl ⟨j, oj, h1, h2, h3, by simpa [setV, this] using h4⟩
      · exact .inr ht
    · intro x ox hx hnD hox hfl
      rcases List.mem_append.1 hx with hx | hx
      · exact (h.pend x ox hx hnD hox hfl).keep hk hx (.inr (Below.refl _ _))
      · simp only [List.mem_singleton] at hx
        subst hx
        rw [ho] at hox
        obtain rfl := Option.some.inj hox
        refine ⟨hdyn, vf, fun t v ht hl => (src t v ht hl).keep hk, ?_⟩
        rcases hp hfl with ⟨h1, h2⟩ | ⟨h1, h2⟩
        · exact .inl ⟨h1, by simp [setV, h2]⟩
        · exact .inr ⟨h1, fun a w' ha hb => by simpa [setV] using h2 a w' ha hb⟩
    · intro x ox hx hnD hox hfl
      rcases List.mem_append.1 hx with hx | hx
      · exact (h.pendE x ox hx hnD hox hfl).keep hk hx
      · simp only [List.mem_singleton] at hx
        subst hx
        rw [ho] at hox
        obtain rfl := Option.some.inj hox
        obtain ⟨_, h1, h2⟩ := hpE hfl
        exact ⟨vf, fun t v ht hl => (src t v ht hl).keep hk, h1, by simpa [setV] using h2⟩
    · intro x hx hnD hfl
      rcases List.mem_append.1 hx with hx | hx
      · exact h.ent x hx hnD hfl
      · simp only [List.mem_singleton] at hx
        subst hx
        exact (hpE hfl).1
  have hsk : inL sl k = false := by
    cases e : inL sl k with
    | false => rfl
    | true =>
      have := callV_dyn ((hc.self k o ((hc.all k).2 (List.getElem?_eq_some_iff.1 ho).1) ho).2.2 e)
      rw [hdyn] at this; cases this
  cases hfl : inL fl k with
  | true =>
    simp only [hfl, selE] at hvc
    cases hg : gd L vf o.guard with
    | none => simp only [hg, orF] at hvc
    | some b =>
      cases b with
      | false => simp only [hg, orF] at hvc
      | true =>
        simp only [hg, orF] at hvc
        obtain ⟨v, h1, h2, h3⟩ := hvc.out
        exact fin v fs h.st h3 (fun e => by rw [hfl] at e; cases e) (fun _ => ⟨h2, hg, h1⟩)
  | false =>
  have nE : ∀ {p : Prop}, inL fl k = true → p := fun e => by rw [hfl] at e; cases e
  simp only [hfl, selE] at hvc
  cases hg : gd L vf o.guard with
  | none => simp only [hg, orF] at hvc
  | some b =>
    cases b with
    | false => simp only [hg, orF] at hvc; exact fin undef fs h.st hvc (fun _ => .inl ⟨hg, rfl⟩) nE
    | true =>
      simp only [hg, orF] at hvc
      cases hv : detv vf o.op with
      | some v => simp only [hv, orV] at hvc; exact fin v fs h.st hvc (fun _ => .inr ⟨hg, fun a w' ha _ => detv_soundK P ha hv w'⟩) nE
      | none =>
        simp only [hv, orV, hp1, andB, hsk, noB] at hvc
        cases hfa : isFa o.op with
        | true =>
          obtain ⟨s, hs1, hs2⟩ := fa_sem o hfa hvc
          obtain ⟨v, fs', h1, h2, h3⟩ := hs2 G w h.st
          exact fin v fs' h3 h2 (fun _ => .inr ⟨hg, fun a w' ha _ => by rw [hs1 a ha]; exact h1 w' trivial⟩) nE
        | false =>
        obtain ⟨s, hs⟩ := DoK.sem o hvc
        obtain ⟨v, fs', h1, h2, h3⟩ := hs.det hdyn G w h.st
        exact fin v fs' h3 h2 (fun _ => .inr ⟨hg, fun a w' ha hb => by
          rcases hb with hb | hb
          · exact (pu_dok hb hfa hvc).elim
          · rw [hs.same a ha]; exact h1 w' hb⟩) nE
theorem dst_at {L : List Oper} {N k : Nat} {o : Oper} (hd : dstsOK N L = true) (h : L[k]? = some o) : dstOK N o.dst = true := by
  induction L generalizing k with
  | nil => simp at h
  | cons x r ih =>
    simp only [dstsOK, Bool.and_eq_true] at hd
    cases k with
    | zero => simp only [List.getElem?_cons_zero, Option.some.injEq] at h; subst h; exact hd.1
    | succ k => exact ih hd.2 (by simpa using h)
theorem doE_pend (hc : CheckedE L (ancs L []) fl p1 sl c) (hdst : dstsOK N L = true) {Q : Post} {D : Nat → Prop} {vd c' : List Nat} {k : Nat} {val : Nat → Value} {vf : Fr} {os : List Own} {fs : List Fact} {a : Act} {w : World} {o : Oper} {rest : List Nat}
    (h : InvE P N L E fl p1 sl f0 G K c D vd c' val vf os fs a w) (ho : L[k]? = some o) (hk : k ∈ vd) (hnD : ¬ D k) (hready : ∀ j, Binds .any L j k → D j)
    (next : ∀ a', InvE P N L E fl p1 sl f0 G K c (fun i => D i ∨ i = k) vd c' val vf os fs a' w → wpOps P L.toArray (Qhat N G Q) rest a' w) : wpOps P L.toArray (Qhat N G Q) (k :: rest) a w := by
  have hdk := dst_at hdst ho
  have distinct : ∀ j oj, D j → L[j]? = some oj → ∀ t, o.dst = some t → oj.dst ≠ some t := by
    intro j oj hj hjo t ht
    have hjv := h.sub j hj
    have hne : j ≠ k := fun e => hnD (e ▸ hj)
    have hjc : j ∈ c := by rw [h.split]; simp [hjv]
    have hkc : k ∈ c := by rw [h.split]; simp [hk]
    obtain ⟨pre, post, hp⟩ := List.append_of_mem hjc
    rw [hp] at hkc
    rcases List.mem_append.1 hkc with hm | hm
    · obtain ⟨pre', post', hp'⟩ := List.append_of_mem hm
      exact (hc.pair pre' k (post' ++ j :: post) j o oj (by rw [hp, hp']; simp) (by simp) ho hjo).1 t ht
    · rcases List.mem_cons.1 hm with hm | hm
      · exact absurd hm.symm hne
      · intro hjt
        exact (hc.pair pre j post k oj o hp hm hjo ho).1 t hjt ht
  have inv' : InvE P N L E fl p1 sl f0 G K c (fun i => D i ∨ i = k) vd c' val vf os fs (a.put o.dst (val k)) w := by
    refine ⟨h.split, fun i hi => hi.elim (h.sub i) (fun e => e ▸ hk), fun i hi j hj => ?_, ?_, ?_, act_put hdk h.size ho distinct h.act, h.virt, fun x ox hx hnx => h.pend x ox hx (fun hx' => hnx (.inl hx')), fun x ox hx hnx => h.pendE x ox hx (fun hx' => hnx (.inl hx')), fun x hx hnx => h.ent x hx (fun hx' => hnx (.inl hx')), h.st, h.vc⟩
    · rcases hi with hi | rfl
      · exact .inl (h.clos i hi j hj)
      · exact .inl (hready j hj)
    · cases hd : o.dst <;> simp [Act.put, h.defers]
    · cases hd : o.dst <;> simp [Act.put, h.size]
  have ho' : L.toArray[k]? = some o := by simpa using ho
  simp only [wpOps, ho']
  cases hfl : inL fl k with
  | true =>
    obtain ⟨fk, hsrc, hg, hrun⟩ := h.pendE k o hk hnD ho hfl
    have hkat : KAt (slotsOf L o) fk a := kat_of_src h.clos hnD hready h.act hsrc
    have hkat' : KAt (opReads o.op) fk a := fun t v ht => hkat t v (List.mem_append_left _ ht)
    rw [gd_soundK hkat hg]
    simp only [if_true]
    left
    unfold Oper.wp
    rw [hrun a hkat' G os fs w (h.ent k hk hnD hfl) h.st]
    exact next _ inv'
  | false =>
  obtain ⟨_, fk, hsrc, hcase⟩ := h.pend k o hk hnD ho hfl
  have hkat : KAt (slotsOf L o) fk a := kat_of_src h.clos hnD hready h.act hsrc
  have hkat' : KAt (opReads o.op) fk a := fun t v ht => hkat t v (List.mem_append_left _ ht)
  rcases hcase with ⟨h1, h2⟩ | ⟨h1, h2⟩
  · rw [gd_soundK hkat h1]
    simp only [Bool.false_eq_true, if_false]
    rw [← h2]
    exact next _ inv'
  · rw [gd_soundK hkat h1]
    simp only [if_true]
    left
    unfold Oper.wp
    rw [h2 a w hkat' (.inr (Below.refl _ _))]
    exact next _ inv'
theorem doE_dyn (hc : CheckedE L (ancs L []) fl p1 sl c) (hdst : dstsOK N L = true) {Q : Post} {D : Nat → Prop} {vd c' : List Nat} {k : Nat} {val : Nat → Value} {vf : Fr} {os : List Own} {fs : List Fact} {a : Act} {w : World} {o : Oper} {rest : List Nat}
    (h : InvE P N L E fl p1 sl f0 G K c D vd (k :: c') val vf os fs a w) (ho : L[k]? = some o) (hdyn : isDyn o.op = true) (hnD : ¬ D k) (hready : ∀ j, Binds .any L j k → D j)
    (next : ∀ val' vf' os' fs' a' w', InvE P N L E fl p1 sl f0 G K c (fun i => D i ∨ i = k) (vd ++ [k]) c' val' vf' os' fs' a' w' → wpOps P L.toArray (Qhat N G Q) rest a' w') : wpOps P L.toArray (Qhat N G Q) (k :: rest) a w := by
  have hdk := dst_at hdst ho
  have hnod := hc.nodup
  rw [h.split, List.nodup_append] at hnod
  have hk : k ∉ vd := fun hm => hnod.2.2 k hm k (by simp) rfl
  have src := srcE_next hc h.split ho h.virt
  have hkat : KAt (slotsOf L o) vf a := kat_of_src h.clos hnD hready h.act src
  have hkat' : KAt (opReads o.op) vf a := fun t v ht => hkat t v (List.mem_append_left _ ht)
  have distinct : ∀ j oj, D j → L[j]? = some oj → ∀ t, o.dst = some t → oj.dst ≠ some t := by
    intro j oj hj hjo t ht hjt
    obtain ⟨pre, post, hp⟩ := List.append_of_mem (h.sub j hj)
    exact (hc.pair pre j (post ++ k :: c') k oj o (by rw [h.split, hp]; simp) (by simp) hjo ho).1 t hjt ht
  have hfk : inL fl k = false := by
    cases e : inL fl k with
    | false => rfl
    | true =>
      have := (hc.self k o ((hc.all k).2 (List.getElem?_eq_some_iff.1 ho).1) ho).2.1 e
      rw [hdyn] at this; cases this
  have hvc := h.vc
  rw [VCE_cons _ _ _ _ _ _ _ _ _ _ _ _ _ ho] at hvc
  simp only [hfk, selE] at hvc
  have early : ∀ x, x ∈ vd → ¬ D x → inL fl x = true → inL p1 k = true := fun x hx hnx hfx => by
    cases e : inL p1 k with
    | true => rfl
    | false =>
      exfalso
      obtain ⟨pre, post, hp⟩ := List.append_of_mem hx
      have hxc : x < L.length := (hc.all x).1 (by rw [h.split]; simp [hx])
      have := (hc.pair pre x (post ++ k :: c') k L[x] o (by rw [h.split, hp]; simp) (by simp) (by simp [hxc]) ho).2 (.inr (.inr (.inr (.inl ⟨hdyn, hfx, e⟩))))
      exact hnx ((anc_tc this).closed h.clos hready)
  have inv' : ∀ (u : Value) (os' : List Own) (fs' : List Fact) (w' : World), Holds G os' fs' w' → VCE P L E fl p1 sl c' (putF vf o.dst u) os' fs' K → ((∀ i o, i ∈ vd → L[i]? = some o → D i ∨ isPu o.op = true ∨ inL fl i = true) ∨ Below w.heap.size w w') →
      ((∃ x, x ∈ vd ∧ ¬ D x ∧ inL fl x = true) → InO E os') →
      InvE P N L E fl p1 sl f0 G K c (fun i => D i ∨ i = k) (vd ++ [k]) c' (setV val k u) (putF vf o.dst u) os' fs' (a.put o.dst u) w' := by
    intro u os' fs' w' hst hv hpd hE
    have hset : setV val k u k = u := by simp [setV]
    have old : ∀ x, x ∈ vd ++ [k] → ¬ (D x ∨ x = k) → x ∈ vd ∧ ¬ D x := fun x hx hnx => by
      refine ⟨?_, fun hd => hnx (.inl hd)⟩
      rcases List.mem_append.1 hx with hx | hx
      · exact hx
      · exact absurd (.inr (by simpa using hx)) hnx
    refine ⟨by rw [h.split]; simp, fun i hi => ?_, fun i hi j hj => ?_, ?_, ?_, ?_, virtE_keep hk ho h.virt, fun x ox hx hnx hox hfx => ?_, fun x ox hx hnx hox hfx => ?_, fun x hx hnx hfx => ?_, hst, hv⟩
    · rcases hi with hi | rfl
      · simp [h.sub i hi]
      · simp
    · rcases hi with hi | rfl
      · exact .inl (h.clos i hi j hj)
      · exact .inl (hready j hj)
    · cases hd : o.dst <;> simp [Act.put, h.defers]
    · cases hd : o.dst <;> simp [Act.put, h.size]
    · have := act_put (val := setV val k u) (f0 := f0) (D := D) hdk h.size ho distinct (fun t v ht => h.act t v (by
        rcases ht with ⟨j, oj, h1, h2, h3, h4⟩ | ht
        · have : j ≠ k := fun e => hnD (e ▸ h1)
          exact .inl ⟨j, oj, h1, h2, h3, by simpa [setV, this] using h4⟩
        · exact .inr ht))
      rw [hset] at this
      exact this
    · obtain ⟨hxv, hnx'⟩ := old x hx hnx
      rcases hpd with hpd | hb
      · rcases hpd x ox hxv hox with h1 | h1 | h1
        · exact absurd h1 hnx'
        · exact (h.pend x ox hxv hnx' hox hfx).keep hk hxv (.inl h1)
        · rw [hfx] at h1; cases h1
      · exact (h.pend x ox hxv hnx' hox hfx).keep hk hxv (.inr hb)
    · obtain ⟨hxv, hnx'⟩ := old x hx hnx
      exact (h.pendE x ox hxv hnx' hox hfx).keep hk hxv
    · obtain ⟨hxv, hnx'⟩ := old x hx hnx
      exact hE ⟨x, hxv, hnx', hfx⟩
  have still : (∃ x, x ∈ vd ∧ ¬ D x ∧ inL fl x = true) → InO E os := fun ⟨x, h1, h2, h3⟩ => h.ent x h1 h2 h3
  have ho' : L.toArray[k]? = some o := by simpa using ho
  simp only [wpOps, ho']
  cases hg : gd L vf o.guard with
  | none => simp only [hg, orF] at hvc
  | some b =>
    rw [gd_soundK hkat hg]
    cases b with
    | false =>
      simp only [hg, orF] at hvc
      simp only [Bool.false_eq_true, if_false]
      exact next _ _ _ _ _ _ (inv' undef os fs w h.st hvc (.inr (Below.refl _ _)) still)
    | true =>
      simp only [hg, orF] at hvc
      simp only [if_true]
      left
      unfold Oper.wp
      cases hv : detv vf o.op with
      | some v =>
        simp only [hv, orV] at hvc
        rw [detv_soundK P hkat' hv w]
        exact next _ _ _ _ _ _ (inv' v os fs w h.st hvc (.inr (Below.refl _ _)) still)
      | none =>
        simp only [hv, orV] at hvc
        have main : Comes1 P (fun v w' => ((∀ i o, i ∈ vd → L[i]? = some o → D i ∨ isPu o.op = true ∨ inL fl i = true) ∨ Below w.heap.size w w') ∧ ∃ os' fs', andB (inL p1 k) (InO E os') (VCE P L E fl p1 sl c' (putF vf o.dst v) os' fs' K) ∧ Holds G os' fs' w') ((execOp a.eval o).run P w) := by
          have stl : (isSt o.op || inL sl k) = true → ∀ i oi, i ∈ vd → L[i]? = some oi → D i ∨ isPu oi.op = true ∨ inL fl i = true := fun hst i oi hi hoi => by
            cases hpu : isPu oi.op with
            | true => exact .inr (.inl rfl)
            | false =>
            cases hfi : inL fl i with
            | true => exact .inr (.inr rfl)
            | false =>
            left
            obtain ⟨pre, post, hp⟩ := List.append_of_mem hi
            exact (anc_tc ((hc.pair pre i (post ++ k :: c') k oi o (by rw [h.split, hp]; simp) (by simp) hoi ho).2 (.inr (.inr (.inr (.inr ⟨hst, hpu, hfi⟩)))))).closed h.clos hready
          cases hsk : inL sl k with
          | true =>
            simp only [hsk, noB] at hvc
            obtain ⟨s, hs1, hs2⟩ := DoK.semD o ((hc.self k o ((hc.all k).2 (List.getElem?_eq_some_iff.1 ho).1) ho).2.2 hsk) hvc
            rw [hs1 a hkat']
            exact (hs2 G w h.st).mono fun v w' h2 => ⟨.inl (stl (by rw [hsk, Bool.or_true])), h2⟩
          | false =>
          simp only [hsk, noB] at hvc
          obtain ⟨s, hs⟩ := DoK.sem o hvc
          rw [hs.same a hkat']
          cases hst : isSt o.op with
          | false => exact (hs.grw hst G w h.st).mono fun v w' ⟨h1, h2⟩ => ⟨.inr h1, h2⟩
          | true => exact (hs.dyn G w h.st).mono fun v w' h2 => ⟨.inl (stl (by rw [hst, Bool.true_or])), h2⟩
        have fin : ∀ (v : Value) (w' : World), (((∀ i o, i ∈ vd → L[i]? = some o → D i ∨ isPu o.op = true ∨ inL fl i = true) ∨ Below w.heap.size w w') ∧ ∃ os' fs', andB (inL p1 k) (InO E os') (VCE P L E fl p1 sl c' (putF vf o.dst v) os' fs' K) ∧ Holds G os' fs' w') →
            ∃ os' fs', InvE P N L E fl p1 sl f0 G K c (fun i => D i ∨ i = k) (vd ++ [k]) c' (setV val k v) (putF vf o.dst v) os' fs' (a.put o.dst v) w' := by
          rintro v w' ⟨h1, os', fs', h2, h3⟩
          cases hp1 : inL p1 k with
          | true =>
            rw [hp1] at h2
            exact ⟨os', fs', inv' v os' fs' w' h3 h2.2 h1 fun _ => h2.1⟩
          | false =>
            rw [hp1] at h2
            refine ⟨os', fs', inv' v os' fs' w' h3 h2 h1 fun ⟨x, g1, g2, g3⟩ => ?_⟩
            have := early x g1 g2 g3
            rw [hp1] at this; cases this
        generalize (execOp a.eval o).run P w = res at main
        match res, main with
        | .ok (.value v) w', hm =>
          obtain ⟨os', fs', hi⟩ := fin v w' hm
          exact next _ _ _ _ _ _ hi
        | .ok .skip w', hm =>
          obtain ⟨os', fs', hi⟩ := fin undef w' hm
          exact next _ _ _ _ _ _ hi
        | .ok (.enter g args) w', hcall =>
          refine Calls.mono hcall ?_
          rintro e w'' ⟨v, rfl, hm⟩
          obtain ⟨os', fs', hi⟩ := fin v w'' hm
          exact next _ _ _ _ _ _ hi
theorem catchE_up (hc : CheckedE L (ancs L []) fl p1 sl c) : ∀ (pre : List Nat) {D : Nat → Prop} {vd c' : List Nat} {val : Nat → Value} {vf : Fr} {fs : List Fact} {os : List Own} {a : Act} {w : World},
    InvE P N L E fl p1 sl f0 G K c D vd (pre ++ c') val vf os fs a w → (∀ x, x ∈ pre → inL p1 x = false ∧ ∀ o, L[x]? = some o → isDyn o.op = false) →
    ∃ val' vf' fs', InvE P N L E fl p1 sl f0 G K c D (vd ++ pre) c' val' vf' os fs' a w
  | [], D, vd, c', val, vf, fs, os, a, w, h, _ => ⟨val, vf, fs, by simpa using h⟩
  | x :: pre, D, vd, c', val, vf, fs, os, a, w, h, hd => by
    have hx : x < L.length := (hc.all x).1 (by rw [h.split]; simp)
    obtain ⟨val1, vf1, fs1, h1⟩ := virtE_step hc h (show L[x]? = some L[x] by simp [hx]) ((hd x (by simp)).2 _ (by simp [hx])) (hd x (by simp)).1
    obtain ⟨val2, vf2, fs2, h2⟩ := catchE_up hc pre (vd := vd ++ [x]) h1 (fun y hy => hd y (by simp [hy]))
    exact ⟨val2, vf2, fs2, by simpa using h2⟩
theorem simE (hc : CheckedE L (ancs L []) fl p1 sl c) (hp : ∀ x o, inL p1 x = true → L[x]? = some o → isDyn o.op = true) (hdst : dstsOK N L = true) {Q : Post} (hQ : Q .normal = K) : ∀ (l : List Nat) (D : Nat → Prop) {vd c' : List Nat} {val : Nat → Value} {vf : Fr} {os : List Own} {fs : List Fact} {a : Act} {w : World},
    InvE P N L E fl p1 sl f0 G K c D vd c' val vf os fs a w → (∀ i, i < L.length ↔ D i ∨ i ∈ l) → l.Nodup → (∀ i, i ∈ l → ¬ D i) →
    (∀ pre i post, l = pre ++ i :: post → ∀ j, Binds .any L j i → D j ∨ j ∈ pre) → wpOps P L.toArray (Qhat N G Q) l a w
  | [], D, vd, c', val, vf, os, fs, a, w, h, hall, _, _, _ => by
    have hc' : c' = [] := by
      cases c' with
      | nil => rfl
      | cons x r =>
        exfalso
        have hx : x ∈ c := by rw [h.split]; simp
        have := h.sub x (((hall x).1 ((hc.all x).1 hx)).resolve_right (by simp))
        have hnod := hc.nodup
        rw [h.split, List.nodup_append] at hnod
        exact hnod.2.2 x this x (by simp) rfl
    subst hc'
    have hv := h.vc
    refine ⟨vf, os, fs, ⟨h.defers, h.size, fun t v ht => h.act t v ?_⟩, h.st, by rw [hQ]; exact hv⟩
    have hD : ∀ j, j ∈ vd → D j := fun j hj => ((hall j).1 ((hc.all j).1 (by rw [h.split]; simp [hj]))).resolve_right (by simp)
    rcases h.virt t v ht with ⟨j, o, h1, h2, h3, h4⟩ | ⟨h1, h2⟩
    · exact .inl ⟨j, o, hD j h1, h2, h3, h4⟩
    · exact .inr ⟨h1, fun j o hj => h2 j o (h.sub j hj)⟩
  | i :: rest, D, vd, c', val, vf, os, fs, a, w, h, hall, hnod, hdis, hbef => by
    have hi : i < L.length := (hall i).2 (.inr (by simp))
    have ho : L[i]? = some L[i] := by simp [hi]
    have hnD : ¬ D i := hdis i (by simp)
    have hready : ∀ j, Binds .any L j i → D j := fun j hj => (hbef [] i rest rfl j hj).resolve_right (by simp)
    have nx : ∀ {vd c' : List Nat} {val : Nat → Value} {vf : Fr} {os : List Own} {fs : List Fact} {a : Act} {w : World},
        InvE P N L E fl p1 sl f0 G K c (fun x => D x ∨ x = i) vd c' val vf os fs a w → wpOps P L.toArray (Qhat N G Q) rest a w := by
      intro vd c' val vf os fs a w h'
      refine simE hc hp hdst hQ rest (fun x => D x ∨ x = i) h' (fun x => ?_) (List.nodup_cons.1 hnod).2 (fun x hx hx' => ?_) (fun pre x post hp j hj => ?_)
      · rw [hall x, List.mem_cons]
        constructor
        · rintro (h | h | h)
          · exact .inl (.inl h)
          · exact .inl (.inr h)
          · exact .inr h
        · rintro ((h | h) | h)
          · exact .inl h
          · exact .inr (.inl h)
          · exact .inr (.inr h)
      · rcases hx' with hx' | rfl
        · exact hdis x (by simp [hx]) hx'
        · exact (List.nodup_cons.1 hnod).1 hx
      · rcases hbef (i :: pre) x post (by rw [hp]; rfl) j hj with hj' | hj'
        · exact .inl (.inl hj')
        · rcases List.mem_cons.1 hj' with rfl | hj'
          · exact .inl (.inr rfl)
          · exact .inr hj'
    by_cases hiv : i ∈ vd
    · exact doE_pend hc hdst h ho hiv hnD hready fun a' h' => nx h'
    · have hic : i ∈ c := (hc.all i).2 hi
      rw [h.split] at hic
      obtain ⟨pre, post, hpp⟩ := List.append_of_mem ((List.mem_append.1 hic).resolve_left hiv)
      have hpre0 : ∀ x, x ∈ pre → ∀ o, L[x]? = some o → isDyn o.op = false := by
        intro x hx o hox
        cases hd : isDyn o.op with
        | false => rfl
        | true =>
          exfalso
          obtain ⟨p1, p2, hp2⟩ := List.append_of_mem hx
          have := (hc.pair (vd ++ p1) x (p2 ++ i :: post) i o L[i] (by rw [h.split, hpp, hp2]; simp) (by simp) hox ho).2 (.inr (.inr (.inl hd)))
          have hDx := (anc_tc this).closed h.clos hready
          have hxv := h.sub x hDx
          have hn := hc.nodup
          rw [h.split, List.nodup_append] at hn
          exact hn.2.2 x hxv x (by rw [hpp]; simp [hx]) rfl
      have np : ∀ x, x < L.length → (∀ o, L[x]? = some o → isDyn o.op = false) → inL p1 x = false := fun x hx hd => by
        cases e : inL p1 x with
        | false => rfl
        | true =>
          have h1 := hp x L[x] e (by simp [hx])
          rw [hd L[x] (by simp [hx])] at h1; cases h1
      have hpre : ∀ x, x ∈ pre → inL p1 x = false ∧ ∀ o, L[x]? = some o → isDyn o.op = false := fun x hx =>
        ⟨np x ((hc.all x).1 (by rw [h.split, hpp]; simp [hx])) (hpre0 x hx), hpre0 x hx⟩
      rw [hpp] at h
      obtain ⟨val1, vf1, fs1, h1⟩ := catchE_up hc pre h hpre
      cases hdyn : isDyn L[i].op with
      | false =>
        obtain ⟨val2, vf2, fs2, h2⟩ := virtE_step hc h1 ho hdyn (np i hi fun o hox => by rw [ho] at hox; obtain rfl := Option.some.inj hox; exact hdyn)
        exact doE_pend hc hdst h2 ho (by simp) hnD hready fun a' h' => nx h'
      | true => exact doE_dyn hc hdst h1 ho hdyn hnD hready fun _ _ _ _ _ _ h' => nx h'
end
def p1OK (L : List Oper) (p1 : List Nat) : Bool :=
  p1.all fun x => match nthO L x with
    | some o => isDyn o.op
    | none => true
theorem ordE_go {P : Program} {N : Nat} {L : List Oper} {f : Fr} {os : List Own} {fs : List Fact} {K : Next1} (E : List Own) (fl p1 sl c : List Nat) (hok : ordEOK L fl p1 sl c = true) (hp1 : p1OK L p1 = true) (hdst : dstsOK N L = true)
    (k : VCE P L E fl p1 sl c f os fs K) : OrdK P N L f os fs K := by
  refine ⟨fun G Q hQ l hord a w hk hw => ?_⟩
  have hc := ordEOK_sound hok
  have hp : ∀ x o, inL p1 x = true → L[x]? = some o → isDyn o.op = true := fun x o h ho => by
    obtain ⟨y, hy, hb⟩ := List.any_eq_true.1 h
    have := Nat.eq_of_beq_eq_true hb
    subst this
    have h2 := List.all_eq_true.1 hp1 x hy
    rw [nthO_eq, ho] at h2
    exact h2
  refine simE (E := E) (f0 := f) hc hp hdst hQ _ (fun _ => False) (vd := []) (c' := c) (val := fun _ => undef) (vf := f) (os := os) (fs := fs) ?_ (fun i => by simpa using (hord.all i).symm) hord.nodup (fun _ _ h => h) (fun pre i post hp j hj => .inr (hord.before pre i post hp j hj))
  exact ⟨rfl, fun _ h => h.elim, fun _ h => h.elim, hk.defers, hk.size, fun t v ht => hk.holds t v (by
    rcases ht with ⟨_, _, h, _⟩ | h
    · exact h.elim
    · exact h.1), fun t v ht => .inr ⟨ht, fun j o hj => by simp at hj⟩, fun k o hk => by simp at hk, fun k o hk => by simp at hk, fun k hk => by simp at hk, hw, k⟩
theorem lookD {P : Program} {E : List Own} {f : Fr} {o : Oper} {os : List Own} {fs : List Fact} {K : Cont} {v : Value} (hE : InO E os) (hd : isDyn o.op = false)
    (hl : ∀ (os : List Own) (fs : List Fact), InO E os → DoK P true f o.type os fs (fun u _ _ => u = v) o.op) (k : K v os fs) : DoE P E f o os fs K := by
  refine ⟨v, fun a hk G os fs w hE hw => ?_, hE, k⟩
  obtain ⟨s, hs⟩ := DoK.sem o (hl os fs hE)
  obtain ⟨u, fs', h1, h2, _⟩ := hs.det hd G w hw
  subst h2
  rw [hs.same a hk]
  exact h1 w (Below.refl _ _)
theorem eGo {p q : Prop} (h : p) (k : q) : p ∧ q := ⟨h, k⟩
theorem draw_sl {P : Program} {N id : Nat} {L : List Oper} {f : Fr} {os : List Own} {fs : List Fact} {K : Next1} {v : Value} {size n : Nat} {el : Nat → Dat} (hm : (v, .sl size n el) ∈ fs)
    (k : (∃ a c, v = .slice a n c) → DrawK P N id L f os fs K) : DrawK P N id L f os fs K := by
  refine ⟨fun G Q hQ a w hk hw => ?_⟩
  obtain ⟨b, c, e, _⟩ := (hw.facts _ hm).sl
  exact (k ⟨b, c, e⟩).out G Q hQ a w hk hw
theorem nthOwn_of_mem {E : Own} {os : List Own} (h : E ∈ os) : ∃ pos, nthOwn os pos = some E := by
  induction os with
  | nil => cases h
  | cons x r ih =>
    rcases List.mem_cons.1 h with rfl | h
    · exact ⟨0, rfl⟩
    · obtain ⟨p, hp⟩ := ih h
      exact ⟨p + 1, hp⟩
theorem lookE4 {P : Program} {t : TypeId} {r o : Nat} {a b c d : Value} [ht : TOne P t] (k : Nat) (ho : o = k) (hk : k < 4) (os : List Own) (fs : List Fact) (h : InO [own4 (ptr0 r 0) a b c d] os) : LoadK P t (ptr0 r o) os fs fun u _ _ => u = nth4 a b c d k := by
  obtain ⟨pos, hp⟩ := nthOwn_of_mem h.1
  exact load4 pos k hp ho hk rfl
open Go.RowKit
theorem cn0 : cn 0 = z0 := by simp [cn, lims_zero, z0]
def rawJ (a : List Row) : Jx := fun i c => (a.getD i []).getD c z0
def uniJ : Jx := fun i c => if c = i then cn 1 else z0
def ltb (m : Nat) (b : Mx) (i j : Nat) : Mx := fun a t => if t < a ∧ (a < i ∨ t < j) then lm m b a t else 0
theorem len_eq {P : Program} {t e ty : TypeId} {size n c : Nat} {a : Option Addr} {v : Value} {os : List Own} {fs : List Fact} {K : Cont} [ht : TSl P t e size]
    (h : v = .slice a n c) (k : K (.int .i64 n) os fs) : LenK P [t] ty v os fs K := by
  subst h
  exact len_val k
set_option maxHeartbeats 4000000 in
theorem lmade_meets (v : Value) (a : List Row) (k : Nat) (hf : Fits k a) (hr : right a) (hk : k ≤ 1048576) (ln : a.length ≤ 1024) (lc : (a.getD 0 []).length ≤ 1048576) :
    Meets Tryz.prog 37 [v] [(v, W a)] (fun r os fs => (¬ Ind (a.getD 0 []).length a.length (rvm a) ∧ r = .pointer none ∧ os = [] ∧ fs = []) ∨
      (Ind (a.getD 0 []).length a.length (rvm a) ∧ ∃ s : BS, s.ok a.length ∧ r = ptr0 s.r 0 ∧ os = bas s (a.getD 0 []).length a.length (rawJ a) uniJ (dm (a.getD 0 []).length (rvm a)) (ltb (a.getD 0 []).length (rvm a) a.length 0) [] ∧ fs = [])) := by
  have hlen : ∀ i, i < a.length → (a.getD i []).length = (a.getD 0 []).length := fun i hi => (hr.get hi).2
  have hrx : ∀ i c, Lim (rawJ a i c).2 ∧ (rawJ a i c).2.length ≤ k := fun i c => (hf.get i).get c
  have hn1 := hr.1
  have hgz : ∀ i j, sz (gr (a.getD 0 []).length (rvm a) i j) (k + k + 1) := gmx_sz hf lc
  have e0 : ∀ i j, ip (a.getD 0 []).length (fun c => jv (rawJ a i c)) (fun c => jv (rawJ a j c)) = mi (gr (a.getD 0 []).length (rvm a)) 0 i j := fun i j => by rw [mi_none]; rfl
  have hsymm := gr_symm (a.getD 0 []).length (rvm a)
  have hww := wv_wv (a.getD 0 []).length (rvm a)
  have hnn : ∀ t, 0 ≤ dm (a.getD 0 []).length (rvm a) t * dm (a.getD 0 []).length (rvm a) (t + 1) := fun t => by
    have := hww t
    unfold dm
    rw [← this]
    exact ip_nn _ _
  have hlm : ∀ t i, lm (a.getD 0 []).length (rvm a) i t = mi (gr (a.getD 0 []).length (rvm a)) t i t := fun _ _ => rfl
  have hdm : ∀ t, dm (a.getD 0 []).length (rvm a) t = dG (gr (a.getD 0 []).length (rvm a)) t := fun _ => rfl
  generalize hC : (a.getD 0 []).length = C at *
  generalize hG : gr C (rvm a) = G at *
  have hmz : ∀ t i j, t ≤ a.length → sz (mi G t i j) 2252349569 := fun t i j ht => by
    refine (det_sz (t + 1) (by omega) (k := k + k + 1) (fun x y _ _ => hgz _ _)).mono ?_
    have : (k + k + 1 + 1) * (t + 1) ≤ 2097154 * 1025 := Nat.mul_le_mul (by omega) (by omega)
    omega
  have hdz : ∀ t, t ≤ a.length → sz (dG G t) 2252349569 := fun t ht => by
    cases t with
    | zero => exact (sz_num 1 (by decide)).mono (by decide)
    | succ t => rw [dG_succ]; exact hmz t t t (by omega)
  have hstep : ∀ t i j, dG G t ≠ 0 → (dG G (t + 1) * mi G t i j - mi G t i t * mi G t j t) / dG G t = mi G (t + 1) i j := fun t i j h => by
    rw [mi_symm hsymm t j t, ← mi_step h, Int.mul_ediv_cancel_left _ h]
  refine meets_of_vc Tryz.func37 (by kernel_rfl) rfl (by kernel_rfl) (Nat.le_of_ble_eq_true rfl) ?_
  refine call_fn (zof_meets 1 (by decide) (by decide)) (Seals.refl _ _) qS ?_
  rintro one _ _ ⟨rfl, rfl⟩
  refine buildSlice_own (size := 2) (n := 1) [one] [zd 1] rfl rfl (by decide) (by decide) ⟨Reads.fact qM, rfl, trivial⟩ fun vd hvd => ?_
  refine build_bas hvd.one ?_
  refine box_rule (Reads.bag hvd.one) fun p hp => ?_
  obtain ⟨r0, rfl⟩ := hp
  refine len_fact qM fun _ => ?_
  refine loop_rule (X := Nat × BS) (fun x => ([(0, v), (3, ptr0 x.2.r 0), (15, .int .i64 (a.length : Nat)), (16, .int .i64 (x.1 : Nat))], bak x.2 C a.length x.1 (x.1 + 1) (rawJ a) uniJ (dG G) (ltb C (rvm a) x.1 0) [], [(v, W a)]))
    (fun x => x.1 ≤ a.length ∧ x.2.ok x.1 ∧ ∀ t, t ≤ x.1 → 0 < dG G t) (fun x => a.length - x.1) rfl ?_ ?_
  · refine again (0, ⟨r0, .slice none 0 0, .slice none 0 0, vd, .slice none 0 0, fun _ => undef, fun _ => undef, fun _ => undef⟩) ⟨Nat.zero_le _, ⟨isSl_nil, isSl_nil, hvd, isSl_nil, fun i hi => absurd hi (Nat.not_lt_zero _), fun i hi => absurd hi (Nat.not_lt_zero _), fun i hi => absurd hi (Nat.not_lt_zero _)⟩, fun t ht => ?_⟩ trivial qF ?_
    · have : t = 0 := by simp only at ht; omega
      subst this
      rw [dG_zero]; decide
    · refine Seals.trans (Seals.own_nil _ _ 1 (fun i => .one undef)) (Seals.trans (Seals.none (famZ (fun _ => undef) 0 a.length (ltb C (rvm a) 0 0)) rfl) (Seals.trans (Seals.own_nil _ _ 1 (fun i => .one undef)) (Seals.trans (Seals.none (famJ (fun _ => undef) 0 a.length uniJ) rfl) (Seals.trans (Seals.own_nil _ _ 1 (fun i => .one undef)) (Seals.trans (Seals.none (famJ (fun _ => undef) 0 C (rawJ a)) rfl)
        (Seals.trans (Seals.own_cong (os := [_, _, _, _, _, _, _, own1 vd 2 1 _]) 7 (fun i => zd (dG G i)) rfl rfl (fun y hy => ?_)) (Seals.trans (Seals.pick [6, 0, 1, 2, 3, 7, 4, 5] 8 rfl (by decide)) (Seals.sub qS))))))))
      have : y = 0 := by omega
      subst this
      rw [dG_zero]; rfl
  · rintro ⟨i, s⟩ ⟨hi, hs, hpos⟩
    simp only at hi hs hpos ⊢
    refine cmp_split _ rfl (fun hc => ?_) (fun hc => ?_)
    · have hin : i < a.length := by omega
      have hfl : (a.getD i []).length = C := hlen i hin
      refine index_fact (v := v) qM i rfl hin fun a1 => ?_
      refine load_fact (d := V (a.getD i [])) qM (load_V _) fun x1 => ?_
      refine len_fact qM fun _ => ?_
      refine make_rule (t := 35) (d := I false []) C (by rw [hfl]) (by rw [hfl]) (by omega) (by omega) fun row hrow => ?_
      refine index_fact (v := v) qM i rfl hin fun a2 => ?_
      refine load_fact (d := V (a.getD i [])) qM (load_V _) fun x2 => ?_
      refine copy_rule (size := 2) (n := C) (m := C) (el' := fun c => J ((a.getD i []).getD c z0)) 0 rfl hrow (Knw.cast (Knw.fact (d := V (a.getD i [])) qM) (by unfold V LD; rw [hfl])) (Nat.le_refl _) ?_
      refine len_fact (v := v) (n := a.length) qM fun _ => ?_
      refine make_rule (t := 35) (d := I false []) a.length rfl rfl (by omega) (by omega) fun on hone => ?_
      refine call_fn (zof_meets 1 (by decide) (by decide)) (Seals.refl _ _) qS ?_
      rintro o1 _ _ ⟨rfl, rfl⟩
      refine index_elem 0 rfl hone i rfl hin ?_
      refine store_elem (d := zd 1) 0 rfl i hin rfl (by kernel_rfl) (Reads.fact qM) ?_
      obtain ⟨sb', e1, e2⟩ : ∃ f : Nat → Value, f i = row ∧ ∀ y, y < i → f y = s.sb y := ⟨fun y => if y = i then row else s.sb y, if_pos rfl, fun y hy => if_neg (by omega)⟩
      obtain ⟨su', e3, e4⟩ : ∃ f : Nat → Value, f i = on ∧ ∀ y, y < i → f y = s.su y := ⟨fun y => if y = i then on else s.su y, if_pos rfl, fun y hy => if_neg (by omega)⟩
      subst e1 e3
      have eb : ∀ y, y < i + 1 → Dat.one (sb' y) = if y < i then Dat.one (s.sb y) else [Dat.one (sb' i)].getD 0 (.one undef) := fun y hy => by
        by_cases e : y < i
        · rw [if_pos e, e2 y e]
        · rw [if_neg e, show y = i by omega]; rfl
      have eu : ∀ y, y < i + 1 → Dat.one (su' y) = if y < i then Dat.one (s.su y) else [Dat.one (su' i)].getD 0 (.one undef) := fun y hy => by
        by_cases e : y < i
        · rw [if_pos e, e4 y e]
        · rw [if_neg e, show y = i by omega]; rfl
      refine draw_sl (v := v) (n := a.length) qM fun hsv => ?_
      obtain ⟨sv1, sv2, hsv⟩ := hsv
      refine draw_join (X := Value × Value × Value × Value) (fun z => ([(0, v), (3, ptr0 s.r 0), (4, .int .i64 (i : Nat)), (5, sb' i), (6, su' i), (15, .int .i64 (a.length : Nat)), (16, .int .i64 (i : Nat))],
          own1 z.1 2 a.length (fun _ => I false []) :: own1 (su' i) 2 a.length (upd (fun _ => I false []) i (zd 1)) :: own1 (sb' i) 2 C (fun c => if c < C then J ((a.getD i []).getD c z0) else I false []) ::
          own4 (ptr0 s.r 0) z.2.1 z.2.2.1 s.vd z.2.2.2 :: famJ s.sb i C (rawJ a) :: own1 z.2.1 1 (i + 1) (fun y => .one (sb' y)) :: famJ s.su i a.length uniJ :: own1 z.2.2.1 1 (i + 1) (fun y => .one (su' y)) ::
          own1 s.vd 2 (i + 1) (fun i => zd (dG G i)) :: famZ s.sl i a.length (ltb C (rvm a) i 0) :: own1 z.2.2.2 1 (i + 1) (fun y => .one (if y < i then s.sl y else z.1)) :: [], [(v, W a)])) (fun z => isSl z.1 ∧ isSl z.2.1 ∧ isSl z.2.2.1 ∧ isSl z.2.2.2) ?_ ?_
      ·
        refine draw_ord [0, 3, 4, 5, 6, 7, 8, 9, 10, 11, 12, 13, 14, 15, 16, 17, 18, 19, 20, 21, 22, 23, 24, 25, 26, 27, 28, 29, 30, 31, 1, 32, 33, 34, 35, 2, 36, 37, 38] (by kernel_rfl) ?_
        refine ord_split 9 17 (by kernel_rfl) (by kernel_rfl) (by kernel_rfl) ?_ ?_
        · refine ord_split 9 25 (by kernel_rfl) (by kernel_rfl) (by kernel_rfl) ?_ ?_
          · refine ord_split 10 17 (by kernel_rfl) (by kernel_rfl) (by kernel_rfl) ?_ ?_
            · refine ord_split 10 25 (by kernel_rfl) (by kernel_rfl) (by kernel_rfl) ?_ ?_
              · refine ord_split 17 25 (by kernel_rfl) (by kernel_rfl) (by kernel_rfl) ?_ ?_
                · refine ord_split 18 25 (by kernel_rfl) (by kernel_rfl) (by kernel_rfl) ?_ ?_
                  · refine ordE_go [own4 (ptr0 s.r 0) s.vb s.vu s.vd s.vl] [7, 15, 22, 24] [9, 10, 17, 18, 25, 26, 27] [] [0, 1, 2, 3, 4, 5, 6, 7, 8, 11, 12, 13, 14, 15, 16, 19, 20, 21, 22, 23, 24, 9, 10, 17, 18, 25, 26, 27, 28, 29, 30, 31, 32, 33, 34, 35, 36, 37, 38] (by kernel_rfl) (by kernel_rfl) (by kernel_rfl) ?_
                    refine field_ptr ?_
                    refine field_ptr ?_
                    refine lookD (v := s.vb) ⟨qM, trivial⟩ rfl (lookE4 0 rfl (by decide)) ?_
                    refine field_ptr ?_
                    refine field_ptr ?_
                    refine lookD (v := s.vu) ⟨qM, trivial⟩ rfl (lookE4 1 rfl (by decide)) ?_
                    refine field_ptr ?_
                    refine lookD (v := s.vl) ⟨qM, trivial⟩ rfl (lookE4 3 rfl (by decide)) ?_
                    refine lookD (v := .int .i64 a.length) ⟨qM, trivial⟩ rfl (fun _ _ _ => len_eq hsv rfl) ?_
                    refine buildSlice_fact (size := 1) (n := 1) [sb' i] [.one (sb' i)] rfl rfl (by decide) (by decide) ⟨Reads.one hrow.one, rfl, trivial⟩ fun q1 => ?_
                    refine eGo ⟨qM, trivial⟩ ?_
                    first | refine append_one (size := 1) (n := i) (el' := fun y => [Dat.one (sb' i)].getD y (.one undef)) (e' := fun y => .one (sb' y)) 4 rfl hs.vb (Knw.fact qM) eb (by omega) (by omega) fun vb' hvb' => ?_ | refine append_one (size := 1) (n := i) (el' := fun y => [Dat.one (sb' i)].getD y (.one undef)) (e' := fun y => .one (sb' y)) 5 rfl hs.vb (Knw.fact qM) eb (by omega) (by omega) fun vb' hvb' => ?_
                    refine eGo ⟨qM, trivial⟩ ?_
                    refine buildSlice_fact (size := 1) (n := 1) [su' i] [.one (su' i)] rfl rfl (by decide) (by decide) ⟨Reads.one hone.one, rfl, trivial⟩ fun q2 => ?_
                    refine eGo ⟨qM, trivial⟩ ?_
                    first | refine append_one (size := 1) (n := i) (el' := fun y => [Dat.one (su' i)].getD y (.one undef)) (e' := fun y => .one (su' y)) 6 rfl hs.vu (Knw.fact qM) eu (by omega) (by omega) fun vu' hvu' => ?_ | refine append_one (size := 1) (n := i) (el' := fun y => [Dat.one (su' i)].getD y (.one undef)) (e' := fun y => .one (su' y)) 7 rfl hs.vu (Knw.fact qM) eu (by omega) (by omega) fun vu' hvu' => ?_
                    refine eGo ⟨qM, trivial⟩ ?_
                    refine make_rule (t := 35) (d := I false []) a.length rfl rfl (by omega) (by omega) fun lr hlr => ?_
                    refine eGo ⟨qM, trivial⟩ ?_
                    refine buildSlice_fact (size := 1) (n := 1) [lr] [.one lr] rfl rfl (by decide) (by decide) ⟨Reads.one hlr.one, rfl, trivial⟩ fun q3 => ?_
                    refine eGo ⟨qM, trivial⟩ ?_
                    refine append_one (size := 1) (n := i) (el' := fun y => [Dat.one lr].getD y (.one undef)) (e' := fun y => .one (if y < i then s.sl y else lr)) 10 rfl hs.vl (Knw.fact qM) (fun y _ => by by_cases e : y < i <;> simp [e]) (by omega) (by omega) fun vl' hvl' => ?_
                    refine eGo ⟨qM, trivial⟩ ?_
                    refine field_ptr ?_
                    refine field_ptr ?_
                    refine store4 3 0 rfl rfl (by decide) hvb'.one (by kernel_rfl) ?_
                    refine field_ptr ?_
                    refine field_ptr ?_
                    refine store4 3 1 rfl rfl (by decide) hvu'.one (by kernel_rfl) ?_
                    refine field_ptr ?_
                    refine store4 3 3 rfl rfl (by decide) hvl'.one (by kernel_rfl) ?_
                    exact again (lr, vb', vu', vl') ⟨hlr, hvb', hvu', hvl'⟩ trivial qF (Seals.sub qD)
                  · refine ord_split 18 26 (by kernel_rfl) (by kernel_rfl) (by kernel_rfl) ?_ ?_
                    · refine ordE_go [own4 (ptr0 s.r 0) s.vb s.vu s.vd s.vl] [7, 15, 22, 24] [9, 10, 17, 18, 25, 26, 27] [] [0, 1, 2, 3, 4, 5, 6, 7, 8, 11, 12, 13, 14, 15, 16, 19, 20, 21, 22, 23, 24, 9, 10, 17, 25, 18, 26, 27, 28, 29, 30, 31, 32, 33, 34, 35, 36, 37, 38] (by kernel_rfl) (by kernel_rfl) (by kernel_rfl) ?_
                      refine field_ptr ?_
                      refine field_ptr ?_
                      refine lookD (v := s.vb) ⟨qM, trivial⟩ rfl (lookE4 0 rfl (by decide)) ?_
                      refine field_ptr ?_
                      refine field_ptr ?_
                      refine lookD (v := s.vu) ⟨qM, trivial⟩ rfl (lookE4 1 rfl (by decide)) ?_
                      refine field_ptr ?_
                      refine lookD (v := s.vl) ⟨qM, trivial⟩ rfl (lookE4 3 rfl (by decide)) ?_
                      refine lookD (v := .int .i64 a.length) ⟨qM, trivial⟩ rfl (fun _ _ _ => len_eq hsv rfl) ?_
                      refine buildSlice_fact (size := 1) (n := 1) [sb' i] [.one (sb' i)] rfl rfl (by decide) (by decide) ⟨Reads.one hrow.one, rfl, trivial⟩ fun q1 => ?_
                      refine eGo ⟨qM, trivial⟩ ?_
                      first | refine append_one (size := 1) (n := i) (el' := fun y => [Dat.one (sb' i)].getD y (.one undef)) (e' := fun y => .one (sb' y)) 4 rfl hs.vb (Knw.fact qM) eb (by omega) (by omega) fun vb' hvb' => ?_ | refine append_one (size := 1) (n := i) (el' := fun y => [Dat.one (sb' i)].getD y (.one undef)) (e' := fun y => .one (sb' y)) 5 rfl hs.vb (Knw.fact qM) eb (by omega) (by omega) fun vb' hvb' => ?_
                      refine eGo ⟨qM, trivial⟩ ?_
                      refine buildSlice_fact (size := 1) (n := 1) [su' i] [.one (su' i)] rfl rfl (by decide) (by decide) ⟨Reads.one hone.one, rfl, trivial⟩ fun q2 => ?_
                      refine eGo ⟨qM, trivial⟩ ?_
                      refine make_rule (t := 35) (d := I false []) a.length rfl rfl (by omega) (by omega) fun lr hlr => ?_
                      refine eGo ⟨qM, trivial⟩ ?_
                      first | refine append_one (size := 1) (n := i) (el' := fun y => [Dat.one (su' i)].getD y (.one undef)) (e' := fun y => .one (su' y)) 6 rfl hs.vu (Knw.fact qM) eu (by omega) (by omega) fun vu' hvu' => ?_ | refine append_one (size := 1) (n := i) (el' := fun y => [Dat.one (su' i)].getD y (.one undef)) (e' := fun y => .one (su' y)) 7 rfl hs.vu (Knw.fact qM) eu (by omega) (by omega) fun vu' hvu' => ?_
                      refine eGo ⟨qM, trivial⟩ ?_
                      refine buildSlice_fact (size := 1) (n := 1) [lr] [.one lr] rfl rfl (by decide) (by decide) ⟨Reads.one hlr.one, rfl, trivial⟩ fun q3 => ?_
                      refine eGo ⟨qM, trivial⟩ ?_
                      refine append_one (size := 1) (n := i) (el' := fun y => [Dat.one lr].getD y (.one undef)) (e' := fun y => .one (if y < i then s.sl y else lr)) 10 rfl hs.vl (Knw.fact qM) (fun y _ => by by_cases e : y < i <;> simp [e]) (by omega) (by omega) fun vl' hvl' => ?_
                      refine eGo ⟨qM, trivial⟩ ?_
                      refine field_ptr ?_
                      refine field_ptr ?_
                      refine store4 3 0 rfl rfl (by decide) hvb'.one (by kernel_rfl) ?_
                      refine field_ptr ?_
                      refine field_ptr ?_
                      refine store4 3 1 rfl rfl (by decide) hvu'.one (by kernel_rfl) ?_
                      refine field_ptr ?_
                      refine store4 3 3 rfl rfl (by decide) hvl'.one (by kernel_rfl) ?_
                      exact again (lr, vb', vu', vl') ⟨hlr, hvb', hvu', hvl'⟩ trivial qF (Seals.sub qD)
                    · refine ordE_go [own4 (ptr0 s.r 0) s.vb s.vu s.vd s.vl] [7, 15, 22, 24] [9, 10, 17, 18, 25, 26, 27] [] [0, 1, 2, 3, 4, 5, 6, 7, 8, 11, 12, 13, 14, 15, 16, 19, 20, 21, 22, 23, 24, 9, 10, 17, 25, 26, 18, 27, 28, 29, 30, 31, 32, 33, 34, 35, 36, 37, 38] (by kernel_rfl) (by kernel_rfl) (by kernel_rfl) ?_
                      refine field_ptr ?_
                      refine field_ptr ?_
                      refine lookD (v := s.vb) ⟨qM, trivial⟩ rfl (lookE4 0 rfl (by decide)) ?_
                      refine field_ptr ?_
                      refine field_ptr ?_
                      refine lookD (v := s.vu) ⟨qM, trivial⟩ rfl (lookE4 1 rfl (by decide)) ?_
                      refine field_ptr ?_
                      refine lookD (v := s.vl) ⟨qM, trivial⟩ rfl (lookE4 3 rfl (by decide)) ?_
                      refine lookD (v := .int .i64 a.length) ⟨qM, trivial⟩ rfl (fun _ _ _ => len_eq hsv rfl) ?_
                      refine buildSlice_fact (size := 1) (n := 1) [sb' i] [.one (sb' i)] rfl rfl (by decide) (by decide) ⟨Reads.one hrow.one, rfl, trivial⟩ fun q1 => ?_
                      refine eGo ⟨qM, trivial⟩ ?_
                      first | refine append_one (size := 1) (n := i) (el' := fun y => [Dat.one (sb' i)].getD y (.one undef)) (e' := fun y => .one (sb' y)) 4 rfl hs.vb (Knw.fact qM) eb (by omega) (by omega) fun vb' hvb' => ?_ | refine append_one (size := 1) (n := i) (el' := fun y => [Dat.one (sb' i)].getD y (.one undef)) (e' := fun y => .one (sb' y)) 5 rfl hs.vb (Knw.fact qM) eb (by omega) (by omega) fun vb' hvb' => ?_
                      refine eGo ⟨qM, trivial⟩ ?_
                      refine buildSlice_fact (size := 1) (n := 1) [su' i] [.one (su' i)] rfl rfl (by decide) (by decide) ⟨Reads.one hone.one, rfl, trivial⟩ fun q2 => ?_
                      refine eGo ⟨qM, trivial⟩ ?_
                      refine make_rule (t := 35) (d := I false []) a.length rfl rfl (by omega) (by omega) fun lr hlr => ?_
                      refine eGo ⟨qM, trivial⟩ ?_
                      refine buildSlice_fact (size := 1) (n := 1) [lr] [.one lr] rfl rfl (by decide) (by decide) ⟨Reads.one hlr.one, rfl, trivial⟩ fun q3 => ?_
                      refine eGo ⟨qM, trivial⟩ ?_
                      first | refine append_one (size := 1) (n := i) (el' := fun y => [Dat.one (su' i)].getD y (.one undef)) (e' := fun y => .one (su' y)) 6 rfl hs.vu (Knw.fact qM) eu (by omega) (by omega) fun vu' hvu' => ?_ | refine append_one (size := 1) (n := i) (el' := fun y => [Dat.one (su' i)].getD y (.one undef)) (e' := fun y => .one (su' y)) 7 rfl hs.vu (Knw.fact qM) eu (by omega) (by omega) fun vu' hvu' => ?_
                      refine eGo ⟨qM, trivial⟩ ?_
                      refine append_one (size := 1) (n := i) (el' := fun y => [Dat.one lr].getD y (.one undef)) (e' := fun y => .one (if y < i then s.sl y else lr)) 10 rfl hs.vl (Knw.fact qM) (fun y _ => by by_cases e : y < i <;> simp [e]) (by omega) (by omega) fun vl' hvl' => ?_
                      refine eGo ⟨qM, trivial⟩ ?_
                      refine field_ptr ?_
                      refine field_ptr ?_
                      refine store4 3 0 rfl rfl (by decide) hvb'.one (by kernel_rfl) ?_
                      refine field_ptr ?_
                      refine field_ptr ?_
                      refine store4 3 1 rfl rfl (by decide) hvu'.one (by kernel_rfl) ?_
                      refine field_ptr ?_
                      refine store4 3 3 rfl rfl (by decide) hvl'.one (by kernel_rfl) ?_
                      exact again (lr, vb', vu', vl') ⟨hlr, hvb', hvu', hvl'⟩ trivial qF (Seals.sub qD)
                · refine ord_split 17 26 (by kernel_rfl) (by kernel_rfl) (by kernel_rfl) ?_ ?_
                  · refine ord_split 18 26 (by kernel_rfl) (by kernel_rfl) (by kernel_rfl) ?_ ?_
                    · refine ordE_go [own4 (ptr0 s.r 0) s.vb s.vu s.vd s.vl] [7, 15, 22, 24] [9, 10, 17, 18, 25, 26, 27] [] [0, 1, 2, 3, 4, 5, 6, 7, 8, 11, 12, 13, 14, 15, 16, 19, 20, 21, 22, 23, 24, 9, 10, 25, 17, 18, 26, 27, 28, 29, 30, 31, 32, 33, 34, 35, 36, 37, 38] (by kernel_rfl) (by kernel_rfl) (by kernel_rfl) ?_
                      refine field_ptr ?_
                      refine field_ptr ?_
                      refine lookD (v := s.vb) ⟨qM, trivial⟩ rfl (lookE4 0 rfl (by decide)) ?_
                      refine field_ptr ?_
                      refine field_ptr ?_
                      refine lookD (v := s.vu) ⟨qM, trivial⟩ rfl (lookE4 1 rfl (by decide)) ?_
                      refine field_ptr ?_
                      refine lookD (v := s.vl) ⟨qM, trivial⟩ rfl (lookE4 3 rfl (by decide)) ?_
                      refine lookD (v := .int .i64 a.length) ⟨qM, trivial⟩ rfl (fun _ _ _ => len_eq hsv rfl) ?_
                      refine buildSlice_fact (size := 1) (n := 1) [sb' i] [.one (sb' i)] rfl rfl (by decide) (by decide) ⟨Reads.one hrow.one, rfl, trivial⟩ fun q1 => ?_
                      refine eGo ⟨qM, trivial⟩ ?_
                      first | refine append_one (size := 1) (n := i) (el' := fun y => [Dat.one (sb' i)].getD y (.one undef)) (e' := fun y => .one (sb' y)) 4 rfl hs.vb (Knw.fact qM) eb (by omega) (by omega) fun vb' hvb' => ?_ | refine append_one (size := 1) (n := i) (el' := fun y => [Dat.one (sb' i)].getD y (.one undef)) (e' := fun y => .one (sb' y)) 5 rfl hs.vb (Knw.fact qM) eb (by omega) (by omega) fun vb' hvb' => ?_
                      refine eGo ⟨qM, trivial⟩ ?_
                      refine make_rule (t := 35) (d := I false []) a.length rfl rfl (by omega) (by omega) fun lr hlr => ?_
                      refine eGo ⟨qM, trivial⟩ ?_
                      refine buildSlice_fact (size := 1) (n := 1) [su' i] [.one (su' i)] rfl rfl (by decide) (by decide) ⟨Reads.one hone.one, rfl, trivial⟩ fun q2 => ?_
                      refine eGo ⟨qM, trivial⟩ ?_
                      first | refine append_one (size := 1) (n := i) (el' := fun y => [Dat.one (su' i)].getD y (.one undef)) (e' := fun y => .one (su' y)) 6 rfl hs.vu (Knw.fact qM) eu (by omega) (by omega) fun vu' hvu' => ?_ | refine append_one (size := 1) (n := i) (el' := fun y => [Dat.one (su' i)].getD y (.one undef)) (e' := fun y => .one (su' y)) 7 rfl hs.vu (Knw.fact qM) eu (by omega) (by omega) fun vu' hvu' => ?_
                      refine eGo ⟨qM, trivial⟩ ?_
                      refine buildSlice_fact (size := 1) (n := 1) [lr] [.one lr] rfl rfl (by decide) (by decide) ⟨Reads.one hlr.one, rfl, trivial⟩ fun q3 => ?_
                      refine eGo ⟨qM, trivial⟩ ?_
                      refine append_one (size := 1) (n := i) (el' := fun y => [Dat.one lr].getD y (.one undef)) (e' := fun y => .one (if y < i then s.sl y else lr)) 10 rfl hs.vl (Knw.fact qM) (fun y _ => by by_cases e : y < i <;> simp [e]) (by omega) (by omega) fun vl' hvl' => ?_
                      refine eGo ⟨qM, trivial⟩ ?_
                      refine field_ptr ?_
                      refine field_ptr ?_
                      refine store4 3 0 rfl rfl (by decide) hvb'.one (by kernel_rfl) ?_
                      refine field_ptr ?_
                      refine field_ptr ?_
                      refine store4 3 1 rfl rfl (by decide) hvu'.one (by kernel_rfl) ?_
                      refine field_ptr ?_
                      refine store4 3 3 rfl rfl (by decide) hvl'.one (by kernel_rfl) ?_
                      exact again (lr, vb', vu', vl') ⟨hlr, hvb', hvu', hvl'⟩ trivial qF (Seals.sub qD)
                    · refine ordE_go [own4 (ptr0 s.r 0) s.vb s.vu s.vd s.vl] [7, 15, 22, 24] [9, 10, 17, 18, 25, 26, 27] [] [0, 1, 2, 3, 4, 5, 6, 7, 8, 11, 12, 13, 14, 15, 16, 19, 20, 21, 22, 23, 24, 9, 10, 25, 17, 26, 18, 27, 28, 29, 30, 31, 32, 33, 34, 35, 36, 37, 38] (by kernel_rfl) (by kernel_rfl) (by kernel_rfl) ?_
                      refine field_ptr ?_
                      refine field_ptr ?_
                      refine lookD (v := s.vb) ⟨qM, trivial⟩ rfl (lookE4 0 rfl (by decide)) ?_
                      refine field_ptr ?_
                      refine field_ptr ?_
                      refine lookD (v := s.vu) ⟨qM, trivial⟩ rfl (lookE4 1 rfl (by decide)) ?_
                      refine field_ptr ?_
                      refine lookD (v := s.vl) ⟨qM, trivial⟩ rfl (lookE4 3 rfl (by decide)) ?_
                      refine lookD (v := .int .i64 a.length) ⟨qM, trivial⟩ rfl (fun _ _ _ => len_eq hsv rfl) ?_
                      refine buildSlice_fact (size := 1) (n := 1) [sb' i] [.one (sb' i)] rfl rfl (by decide) (by decide) ⟨Reads.one hrow.one, rfl, trivial⟩ fun q1 => ?_
                      refine eGo ⟨qM, trivial⟩ ?_
                      first | refine append_one (size := 1) (n := i) (el' := fun y => [Dat.one (sb' i)].getD y (.one undef)) (e' := fun y => .one (sb' y)) 4 rfl hs.vb (Knw.fact qM) eb (by omega) (by omega) fun vb' hvb' => ?_ | refine append_one (size := 1) (n := i) (el' := fun y => [Dat.one (sb' i)].getD y (.one undef)) (e' := fun y => .one (sb' y)) 5 rfl hs.vb (Knw.fact qM) eb (by omega) (by omega) fun vb' hvb' => ?_
                      refine eGo ⟨qM, trivial⟩ ?_
                      refine make_rule (t := 35) (d := I false []) a.length rfl rfl (by omega) (by omega) fun lr hlr => ?_
                      refine eGo ⟨qM, trivial⟩ ?_
                      refine buildSlice_fact (size := 1) (n := 1) [su' i] [.one (su' i)] rfl rfl (by decide) (by decide) ⟨Reads.one hone.one, rfl, trivial⟩ fun q2 => ?_
                      refine eGo ⟨qM, trivial⟩ ?_
                      refine buildSlice_fact (size := 1) (n := 1) [lr] [.one lr] rfl rfl (by decide) (by decide) ⟨Reads.one hlr.one, rfl, trivial⟩ fun q3 => ?_
                      refine eGo ⟨qM, trivial⟩ ?_
                      first | refine append_one (size := 1) (n := i) (el' := fun y => [Dat.one (su' i)].getD y (.one undef)) (e' := fun y => .one (su' y)) 6 rfl hs.vu (Knw.fact qM) eu (by omega) (by omega) fun vu' hvu' => ?_ | refine append_one (size := 1) (n := i) (el' := fun y => [Dat.one (su' i)].getD y (.one undef)) (e' := fun y => .one (su' y)) 7 rfl hs.vu (Knw.fact qM) eu (by omega) (by omega) fun vu' hvu' => ?_
                      refine eGo ⟨qM, trivial⟩ ?_
                      refine append_one (size := 1) (n := i) (el' := fun y => [Dat.one lr].getD y (.one undef)) (e' := fun y => .one (if y < i then s.sl y else lr)) 10 rfl hs.vl (Knw.fact qM) (fun y _ => by by_cases e : y < i <;> simp [e]) (by omega) (by omega) fun vl' hvl' => ?_
                      refine eGo ⟨qM, trivial⟩ ?_
                      refine field_ptr ?_
                      refine field_ptr ?_
                      refine store4 3 0 rfl rfl (by decide) hvb'.one (by kernel_rfl) ?_
                      refine field_ptr ?_
                      refine field_ptr ?_
                      refine store4 3 1 rfl rfl (by decide) hvu'.one (by kernel_rfl) ?_
                      refine field_ptr ?_
                      refine store4 3 3 rfl rfl (by decide) hvl'.one (by kernel_rfl) ?_
                      exact again (lr, vb', vu', vl') ⟨hlr, hvb', hvu', hvl'⟩ trivial qF (Seals.sub qD)
                  · refine ordE_go [own4 (ptr0 s.r 0) s.vb s.vu s.vd s.vl] [7, 15, 22, 24] [9, 10, 17, 18, 25, 26, 27] [] [0, 1, 2, 3, 4, 5, 6, 7, 8, 11, 12, 13, 14, 15, 16, 19, 20, 21, 22, 23, 24, 9, 10, 25, 26, 17, 18, 27, 28, 29, 30, 31, 32, 33, 34, 35, 36, 37, 38] (by kernel_rfl) (by kernel_rfl) (by kernel_rfl) ?_
                    refine field_ptr ?_
                    refine field_ptr ?_
                    refine lookD (v := s.vb) ⟨qM, trivial⟩ rfl (lookE4 0 rfl (by decide)) ?_
                    refine field_ptr ?_
                    refine field_ptr ?_
                    refine lookD (v := s.vu) ⟨qM, trivial⟩ rfl (lookE4 1 rfl (by decide)) ?_
                    refine field_ptr ?_
                    refine lookD (v := s.vl) ⟨qM, trivial⟩ rfl (lookE4 3 rfl (by decide)) ?_
                    refine lookD (v := .int .i64 a.length) ⟨qM, trivial⟩ rfl (fun _ _ _ => len_eq hsv rfl) ?_
                    refine buildSlice_fact (size := 1) (n := 1) [sb' i] [.one (sb' i)] rfl rfl (by decide) (by decide) ⟨Reads.one hrow.one, rfl, trivial⟩ fun q1 => ?_
                    refine eGo ⟨qM, trivial⟩ ?_
                    first | refine append_one (size := 1) (n := i) (el' := fun y => [Dat.one (sb' i)].getD y (.one undef)) (e' := fun y => .one (sb' y)) 4 rfl hs.vb (Knw.fact qM) eb (by omega) (by omega) fun vb' hvb' => ?_ | refine append_one (size := 1) (n := i) (el' := fun y => [Dat.one (sb' i)].getD y (.one undef)) (e' := fun y => .one (sb' y)) 5 rfl hs.vb (Knw.fact qM) eb (by omega) (by omega) fun vb' hvb' => ?_
                    refine eGo ⟨qM, trivial⟩ ?_
                    refine make_rule (t := 35) (d := I false []) a.length rfl rfl (by omega) (by omega) fun lr hlr => ?_
                    refine eGo ⟨qM, trivial⟩ ?_
                    refine buildSlice_fact (size := 1) (n := 1) [lr] [.one lr] rfl rfl (by decide) (by decide) ⟨Reads.one hlr.one, rfl, trivial⟩ fun q3 => ?_
                    refine eGo ⟨qM, trivial⟩ ?_
                    refine buildSlice_fact (size := 1) (n := 1) [su' i] [.one (su' i)] rfl rfl (by decide) (by decide) ⟨Reads.one hone.one, rfl, trivial⟩ fun q2 => ?_
                    refine eGo ⟨qM, trivial⟩ ?_
                    first | refine append_one (size := 1) (n := i) (el' := fun y => [Dat.one (su' i)].getD y (.one undef)) (e' := fun y => .one (su' y)) 6 rfl hs.vu (Knw.fact qM) eu (by omega) (by omega) fun vu' hvu' => ?_ | refine append_one (size := 1) (n := i) (el' := fun y => [Dat.one (su' i)].getD y (.one undef)) (e' := fun y => .one (su' y)) 7 rfl hs.vu (Knw.fact qM) eu (by omega) (by omega) fun vu' hvu' => ?_
                    refine eGo ⟨qM, trivial⟩ ?_
                    refine append_one (size := 1) (n := i) (el' := fun y => [Dat.one lr].getD y (.one undef)) (e' := fun y => .one (if y < i then s.sl y else lr)) 10 rfl hs.vl (Knw.fact qM) (fun y _ => by by_cases e : y < i <;> simp [e]) (by omega) (by omega) fun vl' hvl' => ?_
                    refine eGo ⟨qM, trivial⟩ ?_
                    refine field_ptr ?_
                    refine field_ptr ?_
                    refine store4 3 0 rfl rfl (by decide) hvb'.one (by kernel_rfl) ?_
                    refine field_ptr ?_
                    refine field_ptr ?_
                    refine store4 3 1 rfl rfl (by decide) hvu'.one (by kernel_rfl) ?_
                    refine field_ptr ?_
                    refine store4 3 3 rfl rfl (by decide) hvl'.one (by kernel_rfl) ?_
                    exact again (lr, vb', vu', vl') ⟨hlr, hvb', hvu', hvl'⟩ trivial qF (Seals.sub qD)
              · refine ord_split 10 26 (by kernel_rfl) (by kernel_rfl) (by kernel_rfl) ?_ ?_
                · refine ord_split 17 26 (by kernel_rfl) (by kernel_rfl) (by kernel_rfl) ?_ ?_
                  · refine ord_split 18 26 (by kernel_rfl) (by kernel_rfl) (by kernel_rfl) ?_ ?_
                    · refine ordE_go [own4 (ptr0 s.r 0) s.vb s.vu s.vd s.vl] [7, 15, 22, 24] [9, 10, 17, 18, 25, 26, 27] [] [0, 1, 2, 3, 4, 5, 6, 7, 8, 11, 12, 13, 14, 15, 16, 19, 20, 21, 22, 23, 24, 9, 25, 10, 17, 18, 26, 27, 28, 29, 30, 31, 32, 33, 34, 35, 36, 37, 38] (by kernel_rfl) (by kernel_rfl) (by kernel_rfl) ?_
                      refine field_ptr ?_
                      refine field_ptr ?_
                      refine lookD (v := s.vb) ⟨qM, trivial⟩ rfl (lookE4 0 rfl (by decide)) ?_
                      refine field_ptr ?_
                      refine field_ptr ?_
                      refine lookD (v := s.vu) ⟨qM, trivial⟩ rfl (lookE4 1 rfl (by decide)) ?_
                      refine field_ptr ?_
                      refine lookD (v := s.vl) ⟨qM, trivial⟩ rfl (lookE4 3 rfl (by decide)) ?_
                      refine lookD (v := .int .i64 a.length) ⟨qM, trivial⟩ rfl (fun _ _ _ => len_eq hsv rfl) ?_
                      refine buildSlice_fact (size := 1) (n := 1) [sb' i] [.one (sb' i)] rfl rfl (by decide) (by decide) ⟨Reads.one hrow.one, rfl, trivial⟩ fun q1 => ?_
                      refine eGo ⟨qM, trivial⟩ ?_
                      refine make_rule (t := 35) (d := I false []) a.length rfl rfl (by omega) (by omega) fun lr hlr => ?_
                      refine eGo ⟨qM, trivial⟩ ?_
                      first | refine append_one (size := 1) (n := i) (el' := fun y => [Dat.one (sb' i)].getD y (.one undef)) (e' := fun y => .one (sb' y)) 4 rfl hs.vb (Knw.fact qM) eb (by omega) (by omega) fun vb' hvb' => ?_ | refine append_one (size := 1) (n := i) (el' := fun y => [Dat.one (sb' i)].getD y (.one undef)) (e' := fun y => .one (sb' y)) 5 rfl hs.vb (Knw.fact qM) eb (by omega) (by omega) fun vb' hvb' => ?_
                      refine eGo ⟨qM, trivial⟩ ?_
                      refine buildSlice_fact (size := 1) (n := 1) [su' i] [.one (su' i)] rfl rfl (by decide) (by decide) ⟨Reads.one hone.one, rfl, trivial⟩ fun q2 => ?_
                      refine eGo ⟨qM, trivial⟩ ?_
                      first | refine append_one (size := 1) (n := i) (el' := fun y => [Dat.one (su' i)].getD y (.one undef)) (e' := fun y => .one (su' y)) 6 rfl hs.vu (Knw.fact qM) eu (by omega) (by omega) fun vu' hvu' => ?_ | refine append_one (size := 1) (n := i) (el' := fun y => [Dat.one (su' i)].getD y (.one undef)) (e' := fun y => .one (su' y)) 7 rfl hs.vu (Knw.fact qM) eu (by omega) (by omega) fun vu' hvu' => ?_
                      refine eGo ⟨qM, trivial⟩ ?_
                      refine buildSlice_fact (size := 1) (n := 1) [lr] [.one lr] rfl rfl (by decide) (by decide) ⟨Reads.one hlr.one, rfl, trivial⟩ fun q3 => ?_
                      refine eGo ⟨qM, trivial⟩ ?_
                      refine append_one (size := 1) (n := i) (el' := fun y => [Dat.one lr].getD y (.one undef)) (e' := fun y => .one (if y < i then s.sl y else lr)) 10 rfl hs.vl (Knw.fact qM) (fun y _ => by by_cases e : y < i <;> simp [e]) (by omega) (by omega) fun vl' hvl' => ?_
                      refine eGo ⟨qM, trivial⟩ ?_
                      refine field_ptr ?_
                      refine field_ptr ?_
                      refine store4 3 0 rfl rfl (by decide) hvb'.one (by kernel_rfl) ?_
                      refine field_ptr ?_
                      refine field_ptr ?_
                      refine store4 3 1 rfl rfl (by decide) hvu'.one (by kernel_rfl) ?_
                      refine field_ptr ?_
                      refine store4 3 3 rfl rfl (by decide) hvl'.one (by kernel_rfl) ?_
                      exact again (lr, vb', vu', vl') ⟨hlr, hvb', hvu', hvl'⟩ trivial qF (Seals.sub qD)
                    · refine ordE_go [own4 (ptr0 s.r 0) s.vb s.vu s.vd s.vl] [7, 15, 22, 24] [9, 10, 17, 18, 25, 26, 27] [] [0, 1, 2, 3, 4, 5, 6, 7, 8, 11, 12, 13, 14, 15, 16, 19, 20, 21, 22, 23, 24, 9, 25, 10, 17, 26, 18, 27, 28, 29, 30, 31, 32, 33, 34, 35, 36, 37, 38] (by kernel_rfl) (by kernel_rfl) (by kernel_rfl) ?_
                      refine field_ptr ?_
                      refine field_ptr ?_
                      refine lookD (v := s.vb) ⟨qM, trivial⟩ rfl (lookE4 0 rfl (by decide)) ?_
                      refine field_ptr ?_
                      refine field_ptr ?_
                      refine lookD (v := s.vu) ⟨qM, trivial⟩ rfl (lookE4 1 rfl (by decide)) ?_
                      refine field_ptr ?_
                      refine lookD (v := s.vl) ⟨qM, trivial⟩ rfl (lookE4 3 rfl (by decide)) ?_
                      refine lookD (v := .int .i64 a.length) ⟨qM, trivial⟩ rfl (fun _ _ _ => len_eq hsv rfl) ?_
                      refine buildSlice_fact (size := 1) (n := 1) [sb' i] [.one (sb' i)] rfl rfl (by decide) (by decide) ⟨Reads.one hrow.one, rfl, trivial⟩ fun q1 => ?_
                      refine eGo ⟨qM, trivial⟩ ?_
                      refine make_rule (t := 35) (d := I false []) a.length rfl rfl (by omega) (by omega) fun lr hlr => ?_
                      refine eGo ⟨qM, trivial⟩ ?_
                      first | refine append_one (size := 1) (n := i) (el' := fun y => [Dat.one (sb' i)].getD y (.one undef)) (e' := fun y => .one (sb' y)) 4 rfl hs.vb (Knw.fact qM) eb (by omega) (by omega) fun vb' hvb' => ?_ | refine append_one (size := 1) (n := i) (el' := fun y => [Dat.one (sb' i)].getD y (.one undef)) (e' := fun y => .one (sb' y)) 5 rfl hs.vb (Knw.fact qM) eb (by omega) (by omega) fun vb' hvb' => ?_
                      refine eGo ⟨qM, trivial⟩ ?_
                      refine buildSlice_fact (size := 1) (n := 1) [su' i] [.one (su' i)] rfl rfl (by decide) (by decide) ⟨Reads.one hone.one, rfl, trivial⟩ fun q2 => ?_
                      refine eGo ⟨qM, trivial⟩ ?_
                      refine buildSlice_fact (size := 1) (n := 1) [lr] [.one lr] rfl rfl (by decide) (by decide) ⟨Reads.one hlr.one, rfl, trivial⟩ fun q3 => ?_
                      refine eGo ⟨qM, trivial⟩ ?_
                      first | refine append_one (size := 1) (n := i) (el' := fun y => [Dat.one (su' i)].getD y (.one undef)) (e' := fun y => .one (su' y)) 6 rfl hs.vu (Knw.fact qM) eu (by omega) (by omega) fun vu' hvu' => ?_ | refine append_one (size := 1) (n := i) (el' := fun y => [Dat.one (su' i)].getD y (.one undef)) (e' := fun y => .one (su' y)) 7 rfl hs.vu (Knw.fact qM) eu (by omega) (by omega) fun vu' hvu' => ?_
                      refine eGo ⟨qM, trivial⟩ ?_
                      refine append_one (size := 1) (n := i) (el' := fun y => [Dat.one lr].getD y (.one undef)) (e' := fun y => .one (if y < i then s.sl y else lr)) 10 rfl hs.vl (Knw.fact qM) (fun y _ => by by_cases e : y < i <;> simp [e]) (by omega) (by omega) fun vl' hvl' => ?_
                      refine eGo ⟨qM, trivial⟩ ?_
                      refine field_ptr ?_
                      refine field_ptr ?_
                      refine store4 3 0 rfl rfl (by decide) hvb'.one (by kernel_rfl) ?_
                      refine field_ptr ?_
                      refine field_ptr ?_
                      refine store4 3 1 rfl rfl (by decide) hvu'.one (by kernel_rfl) ?_
                      refine field_ptr ?_
                      refine store4 3 3 rfl rfl (by decide) hvl'.one (by kernel_rfl) ?_
                      exact again (lr, vb', vu', vl') ⟨hlr, hvb', hvu', hvl'⟩ trivial qF (Seals.sub qD)
                  · refine ordE_go [own4 (ptr0 s.r 0) s.vb s.vu s.vd s.vl] [7, 15, 22, 24] [9, 10, 17, 18, 25, 26, 27] [] [0, 1, 2, 3, 4, 5, 6, 7, 8, 11, 12, 13, 14, 15, 16, 19, 20, 21, 22, 23, 24, 9, 25, 10, 26, 17, 18, 27, 28, 29, 30, 31, 32, 33, 34, 35, 36, 37, 38] (by kernel_rfl) (by kernel_rfl) (by kernel_rfl) ?_
                    refine field_ptr ?_
                    refine field_ptr ?_
                    refine lookD (v := s.vb) ⟨qM, trivial⟩ rfl (lookE4 0 rfl (by decide)) ?_
                    refine field_ptr ?_
                    refine field_ptr ?_
                    refine lookD (v := s.vu) ⟨qM, trivial⟩ rfl (lookE4 1 rfl (by decide)) ?_
                    refine field_ptr ?_
                    refine lookD (v := s.vl) ⟨qM, trivial⟩ rfl (lookE4 3 rfl (by decide)) ?_
                    refine lookD (v := .int .i64 a.length) ⟨qM, trivial⟩ rfl (fun _ _ _ => len_eq hsv rfl) ?_
                    refine buildSlice_fact (size := 1) (n := 1) [sb' i] [.one (sb' i)] rfl rfl (by decide) (by decide) ⟨Reads.one hrow.one, rfl, trivial⟩ fun q1 => ?_
                    refine eGo ⟨qM, trivial⟩ ?_
                    refine make_rule (t := 35) (d := I false []) a.length rfl rfl (by omega) (by omega) fun lr hlr => ?_
                    refine eGo ⟨qM, trivial⟩ ?_
                    first | refine append_one (size := 1) (n := i) (el' := fun y => [Dat.one (sb' i)].getD y (.one undef)) (e' := fun y => .one (sb' y)) 4 rfl hs.vb (Knw.fact qM) eb (by omega) (by omega) fun vb' hvb' => ?_ | refine append_one (size := 1) (n := i) (el' := fun y => [Dat.one (sb' i)].getD y (.one undef)) (e' := fun y => .one (sb' y)) 5 rfl hs.vb (Knw.fact qM) eb (by omega) (by omega) fun vb' hvb' => ?_
                    refine eGo ⟨qM, trivial⟩ ?_
                    refine buildSlice_fact (size := 1) (n := 1) [lr] [.one lr] rfl rfl (by decide) (by decide) ⟨Reads.one hlr.one, rfl, trivial⟩ fun q3 => ?_
                    refine eGo ⟨qM, trivial⟩ ?_
                    refine buildSlice_fact (size := 1) (n := 1) [su' i] [.one (su' i)] rfl rfl (by decide) (by decide) ⟨Reads.one hone.one, rfl, trivial⟩ fun q2 => ?_
                    refine eGo ⟨qM, trivial⟩ ?_
                    first | refine append_one (size := 1) (n := i) (el' := fun y => [Dat.one (su' i)].getD y (.one undef)) (e' := fun y => .one (su' y)) 6 rfl hs.vu (Knw.fact qM) eu (by omega) (by omega) fun vu' hvu' => ?_ | refine append_one (size := 1) (n := i) (el' := fun y => [Dat.one (su' i)].getD y (.one undef)) (e' := fun y => .one (su' y)) 7 rfl hs.vu (Knw.fact qM) eu (by omega) (by omega) fun vu' hvu' => ?_
                    refine eGo ⟨qM, trivial⟩ ?_
                    refine append_one (size := 1) (n := i) (el' := fun y => [Dat.one lr].getD y (.one undef)) (e' := fun y => .one (if y < i then s.sl y else lr)) 10 rfl hs.vl (Knw.fact qM) (fun y _ => by by_cases e : y < i <;> simp [e]) (by omega) (by omega) fun vl' hvl' => ?_
                    refine eGo ⟨qM, trivial⟩ ?_
                    refine field_ptr ?_
                    refine field_ptr ?_
                    refine store4 3 0 rfl rfl (by decide) hvb'.one (by kernel_rfl) ?_
                    refine field_ptr ?_
                    refine field_ptr ?_
                    refine store4 3 1 rfl rfl (by decide) hvu'.one (by kernel_rfl) ?_
                    refine field_ptr ?_
                    refine store4 3 3 rfl rfl (by decide) hvl'.one (by kernel_rfl) ?_
                    exact again (lr, vb', vu', vl') ⟨hlr, hvb', hvu', hvl'⟩ trivial qF (Seals.sub qD)
                · refine ordE_go [own4 (ptr0 s.r 0) s.vb s.vu s.vd s.vl] [7, 15, 22, 24] [9, 10, 17, 18, 25, 26, 27] [] [0, 1, 2, 3, 4, 5, 6, 7, 8, 11, 12, 13, 14, 15, 16, 19, 20, 21, 22, 23, 24, 9, 25, 26, 10, 17, 18, 27, 28, 29, 30, 31, 32, 33, 34, 35, 36, 37, 38] (by kernel_rfl) (by kernel_rfl) (by kernel_rfl) ?_
                  refine field_ptr ?_
                  refine field_ptr ?_
                  refine lookD (v := s.vb) ⟨qM, trivial⟩ rfl (lookE4 0 rfl (by decide)) ?_
                  refine field_ptr ?_
                  refine field_ptr ?_
                  refine lookD (v := s.vu) ⟨qM, trivial⟩ rfl (lookE4 1 rfl (by decide)) ?_
                  refine field_ptr ?_
                  refine lookD (v := s.vl) ⟨qM, trivial⟩ rfl (lookE4 3 rfl (by decide)) ?_
                  refine lookD (v := .int .i64 a.length) ⟨qM, trivial⟩ rfl (fun _ _ _ => len_eq hsv rfl) ?_
                  refine buildSlice_fact (size := 1) (n := 1) [sb' i] [.one (sb' i)] rfl rfl (by decide) (by decide) ⟨Reads.one hrow.one, rfl, trivial⟩ fun q1 => ?_
                  refine eGo ⟨qM, trivial⟩ ?_
                  refine make_rule (t := 35) (d := I false []) a.length rfl rfl (by omega) (by omega) fun lr hlr => ?_
                  refine eGo ⟨qM, trivial⟩ ?_
                  refine buildSlice_fact (size := 1) (n := 1) [lr] [.one lr] rfl rfl (by decide) (by decide) ⟨Reads.one hlr.one, rfl, trivial⟩ fun q3 => ?_
                  refine eGo ⟨qM, trivial⟩ ?_
                  first | refine append_one (size := 1) (n := i) (el' := fun y => [Dat.one (sb' i)].getD y (.one undef)) (e' := fun y => .one (sb' y)) 4 rfl hs.vb (Knw.fact qM) eb (by omega) (by omega) fun vb' hvb' => ?_ | refine append_one (size := 1) (n := i) (el' := fun y => [Dat.one (sb' i)].getD y (.one undef)) (e' := fun y => .one (sb' y)) 5 rfl hs.vb (Knw.fact qM) eb (by omega) (by omega) fun vb' hvb' => ?_
                  refine eGo ⟨qM, trivial⟩ ?_
                  refine buildSlice_fact (size := 1) (n := 1) [su' i] [.one (su' i)] rfl rfl (by decide) (by decide) ⟨Reads.one hone.one, rfl, trivial⟩ fun q2 => ?_
                  refine eGo ⟨qM, trivial⟩ ?_
                  first | refine append_one (size := 1) (n := i) (el' := fun y => [Dat.one (su' i)].getD y (.one undef)) (e' := fun y => .one (su' y)) 6 rfl hs.vu (Knw.fact qM) eu (by omega) (by omega) fun vu' hvu' => ?_ | refine append_one (size := 1) (n := i) (el' := fun y => [Dat.one (su' i)].getD y (.one undef)) (e' := fun y => .one (su' y)) 7 rfl hs.vu (Knw.fact qM) eu (by omega) (by omega) fun vu' hvu' => ?_
                  refine eGo ⟨qM, trivial⟩ ?_
                  refine append_one (size := 1) (n := i) (el' := fun y => [Dat.one lr].getD y (.one undef)) (e' := fun y => .one (if y < i then s.sl y else lr)) 10 rfl hs.vl (Knw.fact qM) (fun y _ => by by_cases e : y < i <;> simp [e]) (by omega) (by omega) fun vl' hvl' => ?_
                  refine eGo ⟨qM, trivial⟩ ?_
                  refine field_ptr ?_
                  refine field_ptr ?_
                  refine store4 3 0 rfl rfl (by decide) hvb'.one (by kernel_rfl) ?_
                  refine field_ptr ?_
                  refine field_ptr ?_
                  refine store4 3 1 rfl rfl (by decide) hvu'.one (by kernel_rfl) ?_
                  refine field_ptr ?_
                  refine store4 3 3 rfl rfl (by decide) hvl'.one (by kernel_rfl) ?_
                  exact again (lr, vb', vu', vl') ⟨hlr, hvb', hvu', hvl'⟩ trivial qF (Seals.sub qD)
            · refine ord_split 10 25 (by kernel_rfl) (by kernel_rfl) (by kernel_rfl) ?_ ?_
              · refine ord_split 18 25 (by kernel_rfl) (by kernel_rfl) (by kernel_rfl) ?_ ?_
                · refine ordE_go [own4 (ptr0 s.r 0) s.vb s.vu s.vd s.vl] [7, 15, 22, 24] [9, 10, 17, 18, 25, 26, 27] [] [0, 1, 2, 3, 4, 5, 6, 7, 8, 11, 12, 13, 14, 15, 16, 19, 20, 21, 22, 23, 24, 9, 17, 10, 18, 25, 26, 27, 28, 29, 30, 31, 32, 33, 34, 35, 36, 37, 38] (by kernel_rfl) (by kernel_rfl) (by kernel_rfl) ?_
                  refine field_ptr ?_
                  refine field_ptr ?_
                  refine lookD (v := s.vb) ⟨qM, trivial⟩ rfl (lookE4 0 rfl (by decide)) ?_
                  refine field_ptr ?_
                  refine field_ptr ?_
                  refine lookD (v := s.vu) ⟨qM, trivial⟩ rfl (lookE4 1 rfl (by decide)) ?_
                  refine field_ptr ?_
                  refine lookD (v := s.vl) ⟨qM, trivial⟩ rfl (lookE4 3 rfl (by decide)) ?_
                  refine lookD (v := .int .i64 a.length) ⟨qM, trivial⟩ rfl (fun _ _ _ => len_eq hsv rfl) ?_
                  refine buildSlice_fact (size := 1) (n := 1) [sb' i] [.one (sb' i)] rfl rfl (by decide) (by decide) ⟨Reads.one hrow.one, rfl, trivial⟩ fun q1 => ?_
                  refine eGo ⟨qM, trivial⟩ ?_
                  refine buildSlice_fact (size := 1) (n := 1) [su' i] [.one (su' i)] rfl rfl (by decide) (by decide) ⟨Reads.one hone.one, rfl, trivial⟩ fun q2 => ?_
                  refine eGo ⟨qM, trivial⟩ ?_
                  first | refine append_one (size := 1) (n := i) (el' := fun y => [Dat.one (sb' i)].getD y (.one undef)) (e' := fun y => .one (sb' y)) 4 rfl hs.vb (Knw.fact qM) eb (by omega) (by omega) fun vb' hvb' => ?_ | refine append_one (size := 1) (n := i) (el' := fun y => [Dat.one (sb' i)].getD y (.one undef)) (e' := fun y => .one (sb' y)) 5 rfl hs.vb (Knw.fact qM) eb (by omega) (by omega) fun vb' hvb' => ?_
                  refine eGo ⟨qM, trivial⟩ ?_
                  first | refine append_one (size := 1) (n := i) (el' := fun y => [Dat.one (su' i)].getD y (.one undef)) (e' := fun y => .one (su' y)) 6 rfl hs.vu (Knw.fact qM) eu (by omega) (by omega) fun vu' hvu' => ?_ | refine append_one (size := 1) (n := i) (el' := fun y => [Dat.one (su' i)].getD y (.one undef)) (e' := fun y => .one (su' y)) 7 rfl hs.vu (Knw.fact qM) eu (by omega) (by omega) fun vu' hvu' => ?_
                  refine eGo ⟨qM, trivial⟩ ?_
                  refine make_rule (t := 35) (d := I false []) a.length rfl rfl (by omega) (by omega) fun lr hlr => ?_
                  refine eGo ⟨qM, trivial⟩ ?_
                  refine buildSlice_fact (size := 1) (n := 1) [lr] [.one lr] rfl rfl (by decide) (by decide) ⟨Reads.one hlr.one, rfl, trivial⟩ fun q3 => ?_
                  refine eGo ⟨qM, trivial⟩ ?_
                  refine append_one (size := 1) (n := i) (el' := fun y => [Dat.one lr].getD y (.one undef)) (e' := fun y => .one (if y < i then s.sl y else lr)) 10 rfl hs.vl (Knw.fact qM) (fun y _ => by by_cases e : y < i <;> simp [e]) (by omega) (by omega) fun vl' hvl' => ?_
                  refine eGo ⟨qM, trivial⟩ ?_
                  refine field_ptr ?_
                  refine field_ptr ?_
                  refine store4 3 0 rfl rfl (by decide) hvb'.one (by kernel_rfl) ?_
                  refine field_ptr ?_
                  refine field_ptr ?_
                  refine store4 3 1 rfl rfl (by decide) hvu'.one (by kernel_rfl) ?_
                  refine field_ptr ?_
                  refine store4 3 3 rfl rfl (by decide) hvl'.one (by kernel_rfl) ?_
                  exact again (lr, vb', vu', vl') ⟨hlr, hvb', hvu', hvl'⟩ trivial qF (Seals.sub qD)
                · refine ord_split 18 26 (by kernel_rfl) (by kernel_rfl) (by kernel_rfl) ?_ ?_
                  · refine ordE_go [own4 (ptr0 s.r 0) s.vb s.vu s.vd s.vl] [7, 15, 22, 24] [9, 10, 17, 18, 25, 26, 27] [] [0, 1, 2, 3, 4, 5, 6, 7, 8, 11, 12, 13, 14, 15, 16, 19, 20, 21, 22, 23, 24, 9, 17, 10, 25, 18, 26, 27, 28, 29, 30, 31, 32, 33, 34, 35, 36, 37, 38] (by kernel_rfl) (by kernel_rfl) (by kernel_rfl) ?_
                    refine field_ptr ?_
                    refine field_ptr ?_
                    refine lookD (v := s.vb) ⟨qM, trivial⟩ rfl (lookE4 0 rfl (by decide)) ?_
                    refine field_ptr ?_
                    refine field_ptr ?_
                    refine lookD (v := s.vu) ⟨qM, trivial⟩ rfl (lookE4 1 rfl (by decide)) ?_
                    refine field_ptr ?_
                    refine lookD (v := s.vl) ⟨qM, trivial⟩ rfl (lookE4 3 rfl (by decide)) ?_
                    refine lookD (v := .int .i64 a.length) ⟨qM, trivial⟩ rfl (fun _ _ _ => len_eq hsv rfl) ?_
                    refine buildSlice_fact (size := 1) (n := 1) [sb' i] [.one (sb' i)] rfl rfl (by decide) (by decide) ⟨Reads.one hrow.one, rfl, trivial⟩ fun q1 => ?_
                    refine eGo ⟨qM, trivial⟩ ?_
                    refine buildSlice_fact (size := 1) (n := 1) [su' i] [.one (su' i)] rfl rfl (by decide) (by decide) ⟨Reads.one hone.one, rfl, trivial⟩ fun q2 => ?_
                    refine eGo ⟨qM, trivial⟩ ?_
                    first | refine append_one (size := 1) (n := i) (el' := fun y => [Dat.one (sb' i)].getD y (.one undef)) (e' := fun y => .one (sb' y)) 4 rfl hs.vb (Knw.fact qM) eb (by omega) (by omega) fun vb' hvb' => ?_ | refine append_one (size := 1) (n := i) (el' := fun y => [Dat.one (sb' i)].getD y (.one undef)) (e' := fun y => .one (sb' y)) 5 rfl hs.vb (Knw.fact qM) eb (by omega) (by omega) fun vb' hvb' => ?_
                    refine eGo ⟨qM, trivial⟩ ?_
                    refine make_rule (t := 35) (d := I false []) a.length rfl rfl (by omega) (by omega) fun lr hlr => ?_
                    refine eGo ⟨qM, trivial⟩ ?_
                    first | refine append_one (size := 1) (n := i) (el' := fun y => [Dat.one (su' i)].getD y (.one undef)) (e' := fun y => .one (su' y)) 6 rfl hs.vu (Knw.fact qM) eu (by omega) (by omega) fun vu' hvu' => ?_ | refine append_one (size := 1) (n := i) (el' := fun y => [Dat.one (su' i)].getD y (.one undef)) (e' := fun y => .one (su' y)) 7 rfl hs.vu (Knw.fact qM) eu (by omega) (by omega) fun vu' hvu' => ?_
                    refine eGo ⟨qM, trivial⟩ ?_
                    refine buildSlice_fact (size := 1) (n := 1) [lr] [.one lr] rfl rfl (by decide) (by decide) ⟨Reads.one hlr.one, rfl, trivial⟩ fun q3 => ?_
                    refine eGo ⟨qM, trivial⟩ ?_
                    refine append_one (size := 1) (n := i) (el' := fun y => [Dat.one lr].getD y (.one undef)) (e' := fun y => .one (if y < i then s.sl y else lr)) 10 rfl hs.vl (Knw.fact qM) (fun y _ => by by_cases e : y < i <;> simp [e]) (by omega) (by omega) fun vl' hvl' => ?_
                    refine eGo ⟨qM, trivial⟩ ?_
                    refine field_ptr ?_
                    refine field_ptr ?_
                    refine store4 3 0 rfl rfl (by decide) hvb'.one (by kernel_rfl) ?_
                    refine field_ptr ?_
                    refine field_ptr ?_
                    refine store4 3 1 rfl rfl (by decide) hvu'.one (by kernel_rfl) ?_
                    refine field_ptr ?_
                    refine store4 3 3 rfl rfl (by decide) hvl'.one (by kernel_rfl) ?_
                    exact again (lr, vb', vu', vl') ⟨hlr, hvb', hvu', hvl'⟩ trivial qF (Seals.sub qD)
                  · refine ordE_go [own4 (ptr0 s.r 0) s.vb s.vu s.vd s.vl] [7, 15, 22, 24] [9, 10, 17, 18, 25, 26, 27] [] [0, 1, 2, 3, 4, 5, 6, 7, 8, 11, 12, 13, 14, 15, 16, 19, 20, 21, 22, 23, 24, 9, 17, 10, 25, 26, 18, 27, 28, 29, 30, 31, 32, 33, 34, 35, 36, 37, 38] (by kernel_rfl) (by kernel_rfl) (by kernel_rfl) ?_
                    refine field_ptr ?_
                    refine field_ptr ?_
                    refine lookD (v := s.vb) ⟨qM, trivial⟩ rfl (lookE4 0 rfl (by decide)) ?_
                    refine field_ptr ?_
                    refine field_ptr ?_
                    refine lookD (v := s.vu) ⟨qM, trivial⟩ rfl (lookE4 1 rfl (by decide)) ?_
                    refine field_ptr ?_
                    refine lookD (v := s.vl) ⟨qM, trivial⟩ rfl (lookE4 3 rfl (by decide)) ?_
                    refine lookD (v := .int .i64 a.length) ⟨qM, trivial⟩ rfl (fun _ _ _ => len_eq hsv rfl) ?_
                    refine buildSlice_fact (size := 1) (n := 1) [sb' i] [.one (sb' i)] rfl rfl (by decide) (by decide) ⟨Reads.one hrow.one, rfl, trivial⟩ fun q1 => ?_
                    refine eGo ⟨qM, trivial⟩ ?_
                    refine buildSlice_fact (size := 1) (n := 1) [su' i] [.one (su' i)] rfl rfl (by decide) (by decide) ⟨Reads.one hone.one, rfl, trivial⟩ fun q2 => ?_
                    refine eGo ⟨qM, trivial⟩ ?_
                    first | refine append_one (size := 1) (n := i) (el' := fun y => [Dat.one (sb' i)].getD y (.one undef)) (e' := fun y => .one (sb' y)) 4 rfl hs.vb (Knw.fact qM) eb (by omega) (by omega) fun vb' hvb' => ?_ | refine append_one (size := 1) (n := i) (el' := fun y => [Dat.one (sb' i)].getD y (.one undef)) (e' := fun y => .one (sb' y)) 5 rfl hs.vb (Knw.fact qM) eb (by omega) (by omega) fun vb' hvb' => ?_
                    refine eGo ⟨qM, trivial⟩ ?_
                    refine make_rule (t := 35) (d := I false []) a.length rfl rfl (by omega) (by omega) fun lr hlr => ?_
                    refine eGo ⟨qM, trivial⟩ ?_
                    refine buildSlice_fact (size := 1) (n := 1) [lr] [.one lr] rfl rfl (by decide) (by decide) ⟨Reads.one hlr.one, rfl, trivial⟩ fun q3 => ?_
                    refine eGo ⟨qM, trivial⟩ ?_
                    first | refine append_one (size := 1) (n := i) (el' := fun y => [Dat.one (su' i)].getD y (.one undef)) (e' := fun y => .one (su' y)) 6 rfl hs.vu (Knw.fact qM) eu (by omega) (by omega) fun vu' hvu' => ?_ | refine append_one (size := 1) (n := i) (el' := fun y => [Dat.one (su' i)].getD y (.one undef)) (e' := fun y => .one (su' y)) 7 rfl hs.vu (Knw.fact qM) eu (by omega) (by omega) fun vu' hvu' => ?_
                    refine eGo ⟨qM, trivial⟩ ?_
                    refine append_one (size := 1) (n := i) (el' := fun y => [Dat.one lr].getD y (.one undef)) (e' := fun y => .one (if y < i then s.sl y else lr)) 10 rfl hs.vl (Knw.fact qM) (fun y _ => by by_cases e : y < i <;> simp [e]) (by omega) (by omega) fun vl' hvl' => ?_
                    refine eGo ⟨qM, trivial⟩ ?_
                    refine field_ptr ?_
                    refine field_ptr ?_
                    refine store4 3 0 rfl rfl (by decide) hvb'.one (by kernel_rfl) ?_
                    refine field_ptr ?_
                    refine field_ptr ?_
                    refine store4 3 1 rfl rfl (by decide) hvu'.one (by kernel_rfl) ?_
                    refine field_ptr ?_
                    refine store4 3 3 rfl rfl (by decide) hvl'.one (by kernel_rfl) ?_
                    exact again (lr, vb', vu', vl') ⟨hlr, hvb', hvu', hvl'⟩ trivial qF (Seals.sub qD)
              · refine ord_split 10 26 (by kernel_rfl) (by kernel_rfl) (by kernel_rfl) ?_ ?_
                · refine ord_split 17 25 (by kernel_rfl) (by kernel_rfl) (by kernel_rfl) ?_ ?_
                  · refine ord_split 18 26 (by kernel_rfl) (by kernel_rfl) (by kernel_rfl) ?_ ?_
                    · refine ordE_go [own4 (ptr0 s.r 0) s.vb s.vu s.vd s.vl] [7, 15, 22, 24] [9, 10, 17, 18, 25, 26, 27] [] [0, 1, 2, 3, 4, 5, 6, 7, 8, 11, 12, 13, 14, 15, 16, 19, 20, 21, 22, 23, 24, 9, 17, 25, 10, 18, 26, 27, 28, 29, 30, 31, 32, 33, 34, 35, 36, 37, 38] (by kernel_rfl) (by kernel_rfl) (by kernel_rfl) ?_
                      refine field_ptr ?_
                      refine field_ptr ?_
                      refine lookD (v := s.vb) ⟨qM, trivial⟩ rfl (lookE4 0 rfl (by decide)) ?_
                      refine field_ptr ?_
                      refine field_ptr ?_
                      refine lookD (v := s.vu) ⟨qM, trivial⟩ rfl (lookE4 1 rfl (by decide)) ?_
                      refine field_ptr ?_
                      refine lookD (v := s.vl) ⟨qM, trivial⟩ rfl (lookE4 3 rfl (by decide)) ?_
                      refine lookD (v := .int .i64 a.length) ⟨qM, trivial⟩ rfl (fun _ _ _ => len_eq hsv rfl) ?_
                      refine buildSlice_fact (size := 1) (n := 1) [sb' i] [.one (sb' i)] rfl rfl (by decide) (by decide) ⟨Reads.one hrow.one, rfl, trivial⟩ fun q1 => ?_
                      refine eGo ⟨qM, trivial⟩ ?_
                      refine buildSlice_fact (size := 1) (n := 1) [su' i] [.one (su' i)] rfl rfl (by decide) (by decide) ⟨Reads.one hone.one, rfl, trivial⟩ fun q2 => ?_
                      refine eGo ⟨qM, trivial⟩ ?_
                      refine make_rule (t := 35) (d := I false []) a.length rfl rfl (by omega) (by omega) fun lr hlr => ?_
                      refine eGo ⟨qM, trivial⟩ ?_
                      first | refine append_one (size := 1) (n := i) (el' := fun y => [Dat.one (sb' i)].getD y (.one undef)) (e' := fun y => .one (sb' y)) 4 rfl hs.vb (Knw.fact qM) eb (by omega) (by omega) fun vb' hvb' => ?_ | refine append_one (size := 1) (n := i) (el' := fun y => [Dat.one (sb' i)].getD y (.one undef)) (e' := fun y => .one (sb' y)) 5 rfl hs.vb (Knw.fact qM) eb (by omega) (by omega) fun vb' hvb' => ?_
                      refine eGo ⟨qM, trivial⟩ ?_
                      first | refine append_one (size := 1) (n := i) (el' := fun y => [Dat.one (su' i)].getD y (.one undef)) (e' := fun y => .one (su' y)) 6 rfl hs.vu (Knw.fact qM) eu (by omega) (by omega) fun vu' hvu' => ?_ | refine append_one (size := 1) (n := i) (el' := fun y => [Dat.one (su' i)].getD y (.one undef)) (e' := fun y => .one (su' y)) 7 rfl hs.vu (Knw.fact qM) eu (by omega) (by omega) fun vu' hvu' => ?_
                      refine eGo ⟨qM, trivial⟩ ?_
                      refine buildSlice_fact (size := 1) (n := 1) [lr] [.one lr] rfl rfl (by decide) (by decide) ⟨Reads.one hlr.one, rfl, trivial⟩ fun q3 => ?_
                      refine eGo ⟨qM, trivial⟩ ?_
                      refine append_one (size := 1) (n := i) (el' := fun y => [Dat.one lr].getD y (.one undef)) (e' := fun y => .one (if y < i then s.sl y else lr)) 10 rfl hs.vl (Knw.fact qM) (fun y _ => by by_cases e : y < i <;> simp [e]) (by omega) (by omega) fun vl' hvl' => ?_
                      refine eGo ⟨qM, trivial⟩ ?_
                      refine field_ptr ?_
                      refine field_ptr ?_
                      refine store4 3 0 rfl rfl (by decide) hvb'.one (by kernel_rfl) ?_
                      refine field_ptr ?_
                      refine field_ptr ?_
                      refine store4 3 1 rfl rfl (by decide) hvu'.one (by kernel_rfl) ?_
                      refine field_ptr ?_
                      refine store4 3 3 rfl rfl (by decide) hvl'.one (by kernel_rfl) ?_
                      exact again (lr, vb', vu', vl') ⟨hlr, hvb', hvu', hvl'⟩ trivial qF (Seals.sub qD)
                    · refine ordE_go [own4 (ptr0 s.r 0) s.vb s.vu s.vd s.vl] [7, 15, 22, 24] [9, 10, 17, 18, 25, 26, 27] [] [0, 1, 2, 3, 4, 5, 6, 7, 8, 11, 12, 13, 14, 15, 16, 19, 20, 21, 22, 23, 24, 9, 17, 25, 10, 26, 18, 27, 28, 29, 30, 31, 32, 33, 34, 35, 36, 37, 38] (by kernel_rfl) (by kernel_rfl) (by kernel_rfl) ?_
                      refine field_ptr ?_
                      refine field_ptr ?_
                      refine lookD (v := s.vb) ⟨qM, trivial⟩ rfl (lookE4 0 rfl (by decide)) ?_
                      refine field_ptr ?_
                      refine field_ptr ?_
                      refine lookD (v := s.vu) ⟨qM, trivial⟩ rfl (lookE4 1 rfl (by decide)) ?_
                      refine field_ptr ?_
                      refine lookD (v := s.vl) ⟨qM, trivial⟩ rfl (lookE4 3 rfl (by decide)) ?_
                      refine lookD (v := .int .i64 a.length) ⟨qM, trivial⟩ rfl (fun _ _ _ => len_eq hsv rfl) ?_
                      refine buildSlice_fact (size := 1) (n := 1) [sb' i] [.one (sb' i)] rfl rfl (by decide) (by decide) ⟨Reads.one hrow.one, rfl, trivial⟩ fun q1 => ?_
                      refine eGo ⟨qM, trivial⟩ ?_
                      refine buildSlice_fact (size := 1) (n := 1) [su' i] [.one (su' i)] rfl rfl (by decide) (by decide) ⟨Reads.one hone.one, rfl, trivial⟩ fun q2 => ?_
                      refine eGo ⟨qM, trivial⟩ ?_
                      refine make_rule (t := 35) (d := I false []) a.length rfl rfl (by omega) (by omega) fun lr hlr => ?_
                      refine eGo ⟨qM, trivial⟩ ?_
                      first | refine append_one (size := 1) (n := i) (el' := fun y => [Dat.one (sb' i)].getD y (.one undef)) (e' := fun y => .one (sb' y)) 4 rfl hs.vb (Knw.fact qM) eb (by omega) (by omega) fun vb' hvb' => ?_ | refine append_one (size := 1) (n := i) (el' := fun y => [Dat.one (sb' i)].getD y (.one undef)) (e' := fun y => .one (sb' y)) 5 rfl hs.vb (Knw.fact qM) eb (by omega) (by omega) fun vb' hvb' => ?_
                      refine eGo ⟨qM, trivial⟩ ?_
                      refine buildSlice_fact (size := 1) (n := 1) [lr] [.one lr] rfl rfl (by decide) (by decide) ⟨Reads.one hlr.one, rfl, trivial⟩ fun q3 => ?_
                      refine eGo ⟨qM, trivial⟩ ?_
                      first | refine append_one (size := 1) (n := i) (el' := fun y => [Dat.one (su' i)].getD y (.one undef)) (e' := fun y => .one (su' y)) 6 rfl hs.vu (Knw.fact qM) eu (by omega) (by omega) fun vu' hvu' => ?_ | refine append_one (size := 1) (n := i) (el' := fun y => [Dat.one (su' i)].getD y (.one undef)) (e' := fun y => .one (su' y)) 7 rfl hs.vu (Knw.fact qM) eu (by omega) (by omega) fun vu' hvu' => ?_
                      refine eGo ⟨qM, trivial⟩ ?_
                      refine append_one (size := 1) (n := i) (el' := fun y => [Dat.one lr].getD y (.one undef)) (e' := fun y => .one (if y < i then s.sl y else lr)) 10 rfl hs.vl (Knw.fact qM) (fun y _ => by by_cases e : y < i <;> simp [e]) (by omega) (by omega) fun vl' hvl' => ?_
                      refine eGo ⟨qM, trivial⟩ ?_
                      refine field_ptr ?_
                      refine field_ptr ?_
                      refine store4 3 0 rfl rfl (by decide) hvb'.one (by kernel_rfl) ?_
                      refine field_ptr ?_
                      refine field_ptr ?_
                      refine store4 3 1 rfl rfl (by decide) hvu'.one (by kernel_rfl) ?_
                      refine field_ptr ?_
                      refine store4 3 3 rfl rfl (by decide) hvl'.one (by kernel_rfl) ?_
                      exact again (lr, vb', vu', vl') ⟨hlr, hvb', hvu', hvl'⟩ trivial qF (Seals.sub qD)
                  · refine ord_split 18 26 (by kernel_rfl) (by kernel_rfl) (by kernel_rfl) ?_ ?_
                    · refine ordE_go [own4 (ptr0 s.r 0) s.vb s.vu s.vd s.vl] [7, 15, 22, 24] [9, 10, 17, 18, 25, 26, 27] [] [0, 1, 2, 3, 4, 5, 6, 7, 8, 11, 12, 13, 14, 15, 16, 19, 20, 21, 22, 23, 24, 9, 25, 17, 10, 18, 26, 27, 28, 29, 30, 31, 32, 33, 34, 35, 36, 37, 38] (by kernel_rfl) (by kernel_rfl) (by kernel_rfl) ?_
                      refine field_ptr ?_
                      refine field_ptr ?_
                      refine lookD (v := s.vb) ⟨qM, trivial⟩ rfl (lookE4 0 rfl (by decide)) ?_
                      refine field_ptr ?_
                      refine field_ptr ?_
                      refine lookD (v := s.vu) ⟨qM, trivial⟩ rfl (lookE4 1 rfl (by decide)) ?_
                      refine field_ptr ?_
                      refine lookD (v := s.vl) ⟨qM, trivial⟩ rfl (lookE4 3 rfl (by decide)) ?_
                      refine lookD (v := .int .i64 a.length) ⟨qM, trivial⟩ rfl (fun _ _ _ => len_eq hsv rfl) ?_
                      refine buildSlice_fact (size := 1) (n := 1) [sb' i] [.one (sb' i)] rfl rfl (by decide) (by decide) ⟨Reads.one hrow.one, rfl, trivial⟩ fun q1 => ?_
                      refine eGo ⟨qM, trivial⟩ ?_
                      refine make_rule (t := 35) (d := I false []) a.length rfl rfl (by omega) (by omega) fun lr hlr => ?_
                      refine eGo ⟨qM, trivial⟩ ?_
                      refine buildSlice_fact (size := 1) (n := 1) [su' i] [.one (su' i)] rfl rfl (by decide) (by decide) ⟨Reads.one hone.one, rfl, trivial⟩ fun q2 => ?_
                      refine eGo ⟨qM, trivial⟩ ?_
                      first | refine append_one (size := 1) (n := i) (el' := fun y => [Dat.one (sb' i)].getD y (.one undef)) (e' := fun y => .one (sb' y)) 4 rfl hs.vb (Knw.fact qM) eb (by omega) (by omega) fun vb' hvb' => ?_ | refine append_one (size := 1) (n := i) (el' := fun y => [Dat.one (sb' i)].getD y (.one undef)) (e' := fun y => .one (sb' y)) 5 rfl hs.vb (Knw.fact qM) eb (by omega) (by omega) fun vb' hvb' => ?_
                      refine eGo ⟨qM, trivial⟩ ?_
                      first | refine append_one (size := 1) (n := i) (el' := fun y => [Dat.one (su' i)].getD y (.one undef)) (e' := fun y => .one (su' y)) 6 rfl hs.vu (Knw.fact qM) eu (by omega) (by omega) fun vu' hvu' => ?_ | refine append_one (size := 1) (n := i) (el' := fun y => [Dat.one (su' i)].getD y (.one undef)) (e' := fun y => .one (su' y)) 7 rfl hs.vu (Knw.fact qM) eu (by omega) (by omega) fun vu' hvu' => ?_
                      refine eGo ⟨qM, trivial⟩ ?_
                      refine buildSlice_fact (size := 1) (n := 1) [lr] [.one lr] rfl rfl (by decide) (by decide) ⟨Reads.one hlr.one, rfl, trivial⟩ fun q3 => ?_
                      refine eGo ⟨qM, trivial⟩ ?_
                      refine append_one (size := 1) (n := i) (el' := fun y => [Dat.one lr].getD y (.one undef)) (e' := fun y => .one (if y < i then s.sl y else lr)) 10 rfl hs.vl (Knw.fact qM) (fun y _ => by by_cases e : y < i <;> simp [e]) (by omega) (by omega) fun vl' hvl' => ?_
                      refine eGo ⟨qM, trivial⟩ ?_
                      refine field_ptr ?_
                      refine field_ptr ?_
                      refine store4 3 0 rfl rfl (by decide) hvb'.one (by kernel_rfl) ?_
                      refine field_ptr ?_
                      refine field_ptr ?_
                      refine store4 3 1 rfl rfl (by decide) hvu'.one (by kernel_rfl) ?_
                      refine field_ptr ?_
                      refine store4 3 3 rfl rfl (by decide) hvl'.one (by kernel_rfl) ?_
                      exact again (lr, vb', vu', vl') ⟨hlr, hvb', hvu', hvl'⟩ trivial qF (Seals.sub qD)
                    · refine ordE_go [own4 (ptr0 s.r 0) s.vb s.vu s.vd s.vl] [7, 15, 22, 24] [9, 10, 17, 18, 25, 26, 27] [] [0, 1, 2, 3, 4, 5, 6, 7, 8, 11, 12, 13, 14, 15, 16, 19, 20, 21, 22, 23, 24, 9, 25, 17, 10, 26, 18, 27, 28, 29, 30, 31, 32, 33, 34, 35, 36, 37, 38] (by kernel_rfl) (by kernel_rfl) (by kernel_rfl) ?_
                      refine field_ptr ?_
                      refine field_ptr ?_
                      refine lookD (v := s.vb) ⟨qM, trivial⟩ rfl (lookE4 0 rfl (by decide)) ?_
                      refine field_ptr ?_
                      refine field_ptr ?_
                      refine lookD (v := s.vu) ⟨qM, trivial⟩ rfl (lookE4 1 rfl (by decide)) ?_
                      refine field_ptr ?_
                      refine lookD (v := s.vl) ⟨qM, trivial⟩ rfl (lookE4 3 rfl (by decide)) ?_
                      refine lookD (v := .int .i64 a.length) ⟨qM, trivial⟩ rfl (fun _ _ _ => len_eq hsv rfl) ?_
                      refine buildSlice_fact (size := 1) (n := 1) [sb' i] [.one (sb' i)] rfl rfl (by decide) (by decide) ⟨Reads.one hrow.one, rfl, trivial⟩ fun q1 => ?_
                      refine eGo ⟨qM, trivial⟩ ?_
                      refine make_rule (t := 35) (d := I false []) a.length rfl rfl (by omega) (by omega) fun lr hlr => ?_
                      refine eGo ⟨qM, trivial⟩ ?_
                      refine buildSlice_fact (size := 1) (n := 1) [su' i] [.one (su' i)] rfl rfl (by decide) (by decide) ⟨Reads.one hone.one, rfl, trivial⟩ fun q2 => ?_
                      refine eGo ⟨qM, trivial⟩ ?_
                      first | refine append_one (size := 1) (n := i) (el' := fun y => [Dat.one (sb' i)].getD y (.one undef)) (e' := fun y => .one (sb' y)) 4 rfl hs.vb (Knw.fact qM) eb (by omega) (by omega) fun vb' hvb' => ?_ | refine append_one (size := 1) (n := i) (el' := fun y => [Dat.one (sb' i)].getD y (.one undef)) (e' := fun y => .one (sb' y)) 5 rfl hs.vb (Knw.fact qM) eb (by omega) (by omega) fun vb' hvb' => ?_
                      refine eGo ⟨qM, trivial⟩ ?_
                      refine buildSlice_fact (size := 1) (n := 1) [lr] [.one lr] rfl rfl (by decide) (by decide) ⟨Reads.one hlr.one, rfl, trivial⟩ fun q3 => ?_
                      refine eGo ⟨qM, trivial⟩ ?_
                      first | refine append_one (size := 1) (n := i) (el' := fun y => [Dat.one (su' i)].getD y (.one undef)) (e' := fun y => .one (su' y)) 6 rfl hs.vu (Knw.fact qM) eu (by omega) (by omega) fun vu' hvu' => ?_ | refine append_one (size := 1) (n := i) (el' := fun y => [Dat.one (su' i)].getD y (.one undef)) (e' := fun y => .one (su' y)) 7 rfl hs.vu (Knw.fact qM) eu (by omega) (by omega) fun vu' hvu' => ?_
                      refine eGo ⟨qM, trivial⟩ ?_
                      refine append_one (size := 1) (n := i) (el' := fun y => [Dat.one lr].getD y (.one undef)) (e' := fun y => .one (if y < i then s.sl y else lr)) 10 rfl hs.vl (Knw.fact qM) (fun y _ => by by_cases e : y < i <;> simp [e]) (by omega) (by omega) fun vl' hvl' => ?_
                      refine eGo ⟨qM, trivial⟩ ?_
                      refine field_ptr ?_
                      refine field_ptr ?_
                      refine store4 3 0 rfl rfl (by decide) hvb'.one (by kernel_rfl) ?_
                      refine field_ptr ?_
                      refine field_ptr ?_
                      refine store4 3 1 rfl rfl (by decide) hvu'.one (by kernel_rfl) ?_
                      refine field_ptr ?_
                      refine store4 3 3 rfl rfl (by decide) hvl'.one (by kernel_rfl) ?_
                      exact again (lr, vb', vu', vl') ⟨hlr, hvb', hvu', hvl'⟩ trivial qF (Seals.sub qD)
                · refine ord_split 17 25 (by kernel_rfl) (by kernel_rfl) (by kernel_rfl) ?_ ?_
                  · refine ordE_go [own4 (ptr0 s.r 0) s.vb s.vu s.vd s.vl] [7, 15, 22, 24] [9, 10, 17, 18, 25, 26, 27] [] [0, 1, 2, 3, 4, 5, 6, 7, 8, 11, 12, 13, 14, 15, 16, 19, 20, 21, 22, 23, 24, 9, 17, 25, 26, 10, 18, 27, 28, 29, 30, 31, 32, 33, 34, 35, 36, 37, 38] (by kernel_rfl) (by kernel_rfl) (by kernel_rfl) ?_
                    refine field_ptr ?_
                    refine field_ptr ?_
                    refine lookD (v := s.vb) ⟨qM, trivial⟩ rfl (lookE4 0 rfl (by decide)) ?_
                    refine field_ptr ?_
                    refine field_ptr ?_
                    refine lookD (v := s.vu) ⟨qM, trivial⟩ rfl (lookE4 1 rfl (by decide)) ?_
                    refine field_ptr ?_
                    refine lookD (v := s.vl) ⟨qM, trivial⟩ rfl (lookE4 3 rfl (by decide)) ?_
                    refine lookD (v := .int .i64 a.length) ⟨qM, trivial⟩ rfl (fun _ _ _ => len_eq hsv rfl) ?_
                    refine buildSlice_fact (size := 1) (n := 1) [sb' i] [.one (sb' i)] rfl rfl (by decide) (by decide) ⟨Reads.one hrow.one, rfl, trivial⟩ fun q1 => ?_
                    refine eGo ⟨qM, trivial⟩ ?_
                    refine buildSlice_fact (size := 1) (n := 1) [su' i] [.one (su' i)] rfl rfl (by decide) (by decide) ⟨Reads.one hone.one, rfl, trivial⟩ fun q2 => ?_
                    refine eGo ⟨qM, trivial⟩ ?_
                    refine make_rule (t := 35) (d := I false []) a.length rfl rfl (by omega) (by omega) fun lr hlr => ?_
                    refine eGo ⟨qM, trivial⟩ ?_
                    refine buildSlice_fact (size := 1) (n := 1) [lr] [.one lr] rfl rfl (by decide) (by decide) ⟨Reads.one hlr.one, rfl, trivial⟩ fun q3 => ?_
                    refine eGo ⟨qM, trivial⟩ ?_
                    first | refine append_one (size := 1) (n := i) (el' := fun y => [Dat.one (sb' i)].getD y (.one undef)) (e' := fun y => .one (sb' y)) 4 rfl hs.vb (Knw.fact qM) eb (by omega) (by omega) fun vb' hvb' => ?_ | refine append_one (size := 1) (n := i) (el' := fun y => [Dat.one (sb' i)].getD y (.one undef)) (e' := fun y => .one (sb' y)) 5 rfl hs.vb (Knw.fact qM) eb (by omega) (by omega) fun vb' hvb' => ?_
                    refine eGo ⟨qM, trivial⟩ ?_
                    first | refine append_one (size := 1) (n := i) (el' := fun y => [Dat.one (su' i)].getD y (.one undef)) (e' := fun y => .one (su' y)) 6 rfl hs.vu (Knw.fact qM) eu (by omega) (by omega) fun vu' hvu' => ?_ | refine append_one (size := 1) (n := i) (el' := fun y => [Dat.one (su' i)].getD y (.one undef)) (e' := fun y => .one (su' y)) 7 rfl hs.vu (Knw.fact qM) eu (by omega) (by omega) fun vu' hvu' => ?_
                    refine eGo ⟨qM, trivial⟩ ?_
                    refine append_one (size := 1) (n := i) (el' := fun y => [Dat.one lr].getD y (.one undef)) (e' := fun y => .one (if y < i then s.sl y else lr)) 10 rfl hs.vl (Knw.fact qM) (fun y _ => by by_cases e : y < i <;> simp [e]) (by omega) (by omega) fun vl' hvl' => ?_
                    refine eGo ⟨qM, trivial⟩ ?_
                    refine field_ptr ?_
                    refine field_ptr ?_
                    refine store4 3 0 rfl rfl (by decide) hvb'.one (by kernel_rfl) ?_
                    refine field_ptr ?_
                    refine field_ptr ?_
                    refine store4 3 1 rfl rfl (by decide) hvu'.one (by kernel_rfl) ?_
                    refine field_ptr ?_
                    refine store4 3 3 rfl rfl (by decide) hvl'.one (by kernel_rfl) ?_
                    exact again (lr, vb', vu', vl') ⟨hlr, hvb', hvu', hvl'⟩ trivial qF (Seals.sub qD)
                  · refine ord_split 17 26 (by kernel_rfl) (by kernel_rfl) (by kernel_rfl) ?_ ?_
                    · refine ordE_go [own4 (ptr0 s.r 0) s.vb s.vu s.vd s.vl] [7, 15, 22, 24] [9, 10, 17, 18, 25, 26, 27] [] [0, 1, 2, 3, 4, 5, 6, 7, 8, 11, 12, 13, 14, 15, 16, 19, 20, 21, 22, 23, 24, 9, 25, 17, 26, 10, 18, 27, 28, 29, 30, 31, 32, 33, 34, 35, 36, 37, 38] (by kernel_rfl) (by kernel_rfl) (by kernel_rfl) ?_
                      refine field_ptr ?_
                      refine field_ptr ?_
                      refine lookD (v := s.vb) ⟨qM, trivial⟩ rfl (lookE4 0 rfl (by decide)) ?_
                      refine field_ptr ?_
                      refine field_ptr ?_
                      refine lookD (v := s.vu) ⟨qM, trivial⟩ rfl (lookE4 1 rfl (by decide)) ?_
                      refine field_ptr ?_
                      refine lookD (v := s.vl) ⟨qM, trivial⟩ rfl (lookE4 3 rfl (by decide)) ?_
                      refine lookD (v := .int .i64 a.length) ⟨qM, trivial⟩ rfl (fun _ _ _ => len_eq hsv rfl) ?_
                      refine buildSlice_fact (size := 1) (n := 1) [sb' i] [.one (sb' i)] rfl rfl (by decide) (by decide) ⟨Reads.one hrow.one, rfl, trivial⟩ fun q1 => ?_
                      refine eGo ⟨qM, trivial⟩ ?_
                      refine make_rule (t := 35) (d := I false []) a.length rfl rfl (by omega) (by omega) fun lr hlr => ?_
                      refine eGo ⟨qM, trivial⟩ ?_
                      refine buildSlice_fact (size := 1) (n := 1) [su' i] [.one (su' i)] rfl rfl (by decide) (by decide) ⟨Reads.one hone.one, rfl, trivial⟩ fun q2 => ?_
                      refine eGo ⟨qM, trivial⟩ ?_
                      refine buildSlice_fact (size := 1) (n := 1) [lr] [.one lr] rfl rfl (by decide) (by decide) ⟨Reads.one hlr.one, rfl, trivial⟩ fun q3 => ?_
                      refine eGo ⟨qM, trivial⟩ ?_
                      first | refine append_one (size := 1) (n := i) (el' := fun y => [Dat.one (sb' i)].getD y (.one undef)) (e' := fun y => .one (sb' y)) 4 rfl hs.vb (Knw.fact qM) eb (by omega) (by omega) fun vb' hvb' => ?_ | refine append_one (size := 1) (n := i) (el' := fun y => [Dat.one (sb' i)].getD y (.one undef)) (e' := fun y => .one (sb' y)) 5 rfl hs.vb (Knw.fact qM) eb (by omega) (by omega) fun vb' hvb' => ?_
                      refine eGo ⟨qM, trivial⟩ ?_
                      first | refine append_one (size := 1) (n := i) (el' := fun y => [Dat.one (su' i)].getD y (.one undef)) (e' := fun y => .one (su' y)) 6 rfl hs.vu (Knw.fact qM) eu (by omega) (by omega) fun vu' hvu' => ?_ | refine append_one (size := 1) (n := i) (el' := fun y => [Dat.one (su' i)].getD y (.one undef)) (e' := fun y => .one (su' y)) 7 rfl hs.vu (Knw.fact qM) eu (by omega) (by omega) fun vu' hvu' => ?_
                      refine eGo ⟨qM, trivial⟩ ?_
                      refine append_one (size := 1) (n := i) (el' := fun y => [Dat.one lr].getD y (.one undef)) (e' := fun y => .one (if y < i then s.sl y else lr)) 10 rfl hs.vl (Knw.fact qM) (fun y _ => by by_cases e : y < i <;> simp [e]) (by omega) (by omega) fun vl' hvl' => ?_
                      refine eGo ⟨qM, trivial⟩ ?_
                      refine field_ptr ?_
                      refine field_ptr ?_
                      refine store4 3 0 rfl rfl (by decide) hvb'.one (by kernel_rfl) ?_
                      refine field_ptr ?_
                      refine field_ptr ?_
                      refine store4 3 1 rfl rfl (by decide) hvu'.one (by kernel_rfl) ?_
                      refine field_ptr ?_
                      refine store4 3 3 rfl rfl (by decide) hvl'.one (by kernel_rfl) ?_
                      exact again (lr, vb', vu', vl') ⟨hlr, hvb', hvu', hvl'⟩ trivial qF (Seals.sub qD)
                    · refine ordE_go [own4 (ptr0 s.r 0) s.vb s.vu s.vd s.vl] [7, 15, 22, 24] [9, 10, 17, 18, 25, 26, 27] [] [0, 1, 2, 3, 4, 5, 6, 7, 8, 11, 12, 13, 14, 15, 16, 19, 20, 21, 22, 23, 24, 9, 25, 26, 17, 10, 18, 27, 28, 29, 30, 31, 32, 33, 34, 35, 36, 37, 38] (by kernel_rfl) (by kernel_rfl) (by kernel_rfl) ?_
                      refine field_ptr ?_
                      refine field_ptr ?_
                      refine lookD (v := s.vb) ⟨qM, trivial⟩ rfl (lookE4 0 rfl (by decide)) ?_
                      refine field_ptr ?_
                      refine field_ptr ?_
                      refine lookD (v := s.vu) ⟨qM, trivial⟩ rfl (lookE4 1 rfl (by decide)) ?_
                      refine field_ptr ?_
                      refine lookD (v := s.vl) ⟨qM, trivial⟩ rfl (lookE4 3 rfl (by decide)) ?_
                      refine lookD (v := .int .i64 a.length) ⟨qM, trivial⟩ rfl (fun _ _ _ => len_eq hsv rfl) ?_
                      refine buildSlice_fact (size := 1) (n := 1) [sb' i] [.one (sb' i)] rfl rfl (by decide) (by decide) ⟨Reads.one hrow.one, rfl, trivial⟩ fun q1 => ?_
                      refine eGo ⟨qM, trivial⟩ ?_
                      refine make_rule (t := 35) (d := I false []) a.length rfl rfl (by omega) (by omega) fun lr hlr => ?_
                      refine eGo ⟨qM, trivial⟩ ?_
                      refine buildSlice_fact (size := 1) (n := 1) [lr] [.one lr] rfl rfl (by decide) (by decide) ⟨Reads.one hlr.one, rfl, trivial⟩ fun q3 => ?_
                      refine eGo ⟨qM, trivial⟩ ?_
                      refine buildSlice_fact (size := 1) (n := 1) [su' i] [.one (su' i)] rfl rfl (by decide) (by decide) ⟨Reads.one hone.one, rfl, trivial⟩ fun q2 => ?_
                      refine eGo ⟨qM, trivial⟩ ?_
                      first | refine append_one (size := 1) (n := i) (el' := fun y => [Dat.one (sb' i)].getD y (.one undef)) (e' := fun y => .one (sb' y)) 4 rfl hs.vb (Knw.fact qM) eb (by omega) (by omega) fun vb' hvb' => ?_ | refine append_one (size := 1) (n := i) (el' := fun y => [Dat.one (sb' i)].getD y (.one undef)) (e' := fun y => .one (sb' y)) 5 rfl hs.vb (Knw.fact qM) eb (by omega) (by omega) fun vb' hvb' => ?_
                      refine eGo ⟨qM, trivial⟩ ?_
                      first | refine append_one (size := 1) (n := i) (el' := fun y => [Dat.one (su' i)].getD y (.one undef)) (e' := fun y => .one (su' y)) 6 rfl hs.vu (Knw.fact qM) eu (by omega) (by omega) fun vu' hvu' => ?_ | refine append_one (size := 1) (n := i) (el' := fun y => [Dat.one (su' i)].getD y (.one undef)) (e' := fun y => .one (su' y)) 7 rfl hs.vu (Knw.fact qM) eu (by omega) (by omega) fun vu' hvu' => ?_
                      refine eGo ⟨qM, trivial⟩ ?_
                      refine append_one (size := 1) (n := i) (el' := fun y => [Dat.one lr].getD y (.one undef)) (e' := fun y => .one (if y < i then s.sl y else lr)) 10 rfl hs.vl (Knw.fact qM) (fun y _ => by by_cases e : y < i <;> simp [e]) (by omega) (by omega) fun vl' hvl' => ?_
                      refine eGo ⟨qM, trivial⟩ ?_
                      refine field_ptr ?_
                      refine field_ptr ?_
                      refine store4 3 0 rfl rfl (by decide) hvb'.one (by kernel_rfl) ?_
                      refine field_ptr ?_
                      refine field_ptr ?_
                      refine store4 3 1 rfl rfl (by decide) hvu'.one (by kernel_rfl) ?_
                      refine field_ptr ?_
                      refine store4 3 3 rfl rfl (by decide) hvl'.one (by kernel_rfl) ?_
                      exact again (lr, vb', vu', vl') ⟨hlr, hvb', hvu', hvl'⟩ trivial qF (Seals.sub qD)
          · refine ord_split 9 26 (by kernel_rfl) (by kernel_rfl) (by kernel_rfl) ?_ ?_
            · refine ord_split 10 17 (by kernel_rfl) (by kernel_rfl) (by kernel_rfl) ?_ ?_
              · refine ord_split 10 26 (by kernel_rfl) (by kernel_rfl) (by kernel_rfl) ?_ ?_
                · refine ord_split 17 26 (by kernel_rfl) (by kernel_rfl) (by kernel_rfl) ?_ ?_
                  · refine ord_split 18 26 (by kernel_rfl) (by kernel_rfl) (by kernel_rfl) ?_ ?_
                    · refine ordE_go [own4 (ptr0 s.r 0) s.vb s.vu s.vd s.vl] [7, 15, 22, 24] [9, 10, 17, 18, 25, 26, 27] [] [0, 1, 2, 3, 4, 5, 6, 7, 8, 11, 12, 13, 14, 15, 16, 19, 20, 21, 22, 23, 24, 25, 9, 10, 17, 18, 26, 27, 28, 29, 30, 31, 32, 33, 34, 35, 36, 37, 38] (by kernel_rfl) (by kernel_rfl) (by kernel_rfl) ?_
                      refine field_ptr ?_
                      refine field_ptr ?_
                      refine lookD (v := s.vb) ⟨qM, trivial⟩ rfl (lookE4 0 rfl (by decide)) ?_
                      refine field_ptr ?_
                      refine field_ptr ?_
                      refine lookD (v := s.vu) ⟨qM, trivial⟩ rfl (lookE4 1 rfl (by decide)) ?_
                      refine field_ptr ?_
                      refine lookD (v := s.vl) ⟨qM, trivial⟩ rfl (lookE4 3 rfl (by decide)) ?_
                      refine lookD (v := .int .i64 a.length) ⟨qM, trivial⟩ rfl (fun _ _ _ => len_eq hsv rfl) ?_
                      refine make_rule (t := 35) (d := I false []) a.length rfl rfl (by omega) (by omega) fun lr hlr => ?_
                      refine eGo ⟨qM, trivial⟩ ?_
                      refine buildSlice_fact (size := 1) (n := 1) [sb' i] [.one (sb' i)] rfl rfl (by decide) (by decide) ⟨Reads.one hrow.one, rfl, trivial⟩ fun q1 => ?_
                      refine eGo ⟨qM, trivial⟩ ?_
                      first | refine append_one (size := 1) (n := i) (el' := fun y => [Dat.one (sb' i)].getD y (.one undef)) (e' := fun y => .one (sb' y)) 4 rfl hs.vb (Knw.fact qM) eb (by omega) (by omega) fun vb' hvb' => ?_ | refine append_one (size := 1) (n := i) (el' := fun y => [Dat.one (sb' i)].getD y (.one undef)) (e' := fun y => .one (sb' y)) 5 rfl hs.vb (Knw.fact qM) eb (by omega) (by omega) fun vb' hvb' => ?_
                      refine eGo ⟨qM, trivial⟩ ?_
                      refine buildSlice_fact (size := 1) (n := 1) [su' i] [.one (su' i)] rfl rfl (by decide) (by decide) ⟨Reads.one hone.one, rfl, trivial⟩ fun q2 => ?_
                      refine eGo ⟨qM, trivial⟩ ?_
                      first | refine append_one (size := 1) (n := i) (el' := fun y => [Dat.one (su' i)].getD y (.one undef)) (e' := fun y => .one (su' y)) 6 rfl hs.vu (Knw.fact qM) eu (by omega) (by omega) fun vu' hvu' => ?_ | refine append_one (size := 1) (n := i) (el' := fun y => [Dat.one (su' i)].getD y (.one undef)) (e' := fun y => .one (su' y)) 7 rfl hs.vu (Knw.fact qM) eu (by omega) (by omega) fun vu' hvu' => ?_
                      refine eGo ⟨qM, trivial⟩ ?_
                      refine buildSlice_fact (size := 1) (n := 1) [lr] [.one lr] rfl rfl (by decide) (by decide) ⟨Reads.one hlr.one, rfl, trivial⟩ fun q3 => ?_
                      refine eGo ⟨qM, trivial⟩ ?_
                      refine append_one (size := 1) (n := i) (el' := fun y => [Dat.one lr].getD y (.one undef)) (e' := fun y => .one (if y < i then s.sl y else lr)) 10 rfl hs.vl (Knw.fact qM) (fun y _ => by by_cases e : y < i <;> simp [e]) (by omega) (by omega) fun vl' hvl' => ?_
                      refine eGo ⟨qM, trivial⟩ ?_
                      refine field_ptr ?_
                      refine field_ptr ?_
                      refine store4 3 0 rfl rfl (by decide) hvb'.one (by kernel_rfl) ?_
                      refine field_ptr ?_
                      refine field_ptr ?_
                      refine store4 3 1 rfl rfl (by decide) hvu'.one (by kernel_rfl) ?_
                      refine field_ptr ?_
                      refine store4 3 3 rfl rfl (by decide) hvl'.one (by kernel_rfl) ?_
                      exact again (lr, vb', vu', vl') ⟨hlr, hvb', hvu', hvl'⟩ trivial qF (Seals.sub qD)
                    · refine ordE_go [own4 (ptr0 s.r 0) s.vb s.vu s.vd s.vl] [7, 15, 22, 24] [9, 10, 17, 18, 25, 26, 27] [] [0, 1, 2, 3, 4, 5, 6, 7, 8, 11, 12, 13, 14, 15, 16, 19, 20, 21, 22, 23, 24, 25, 9, 10, 17, 26, 18, 27, 28, 29, 30, 31, 32, 33, 34, 35, 36, 37, 38] (by kernel_rfl) (by kernel_rfl) (by kernel_rfl) ?_
                      refine field_ptr ?_
                      refine field_ptr ?_
                      refine lookD (v := s.vb) ⟨qM, trivial⟩ rfl (lookE4 0 rfl (by decide)) ?_
                      refine field_ptr ?_
                      refine field_ptr ?_
                      refine lookD (v := s.vu) ⟨qM, trivial⟩ rfl (lookE4 1 rfl (by decide)) ?_
                      refine field_ptr ?_
                      refine lookD (v := s.vl) ⟨qM, trivial⟩ rfl (lookE4 3 rfl (by decide)) ?_
                      refine lookD (v := .int .i64 a.length) ⟨qM, trivial⟩ rfl (fun _ _ _ => len_eq hsv rfl) ?_
                      refine make_rule (t := 35) (d := I false []) a.length rfl rfl (by omega) (by omega) fun lr hlr => ?_
                      refine eGo ⟨qM, trivial⟩ ?_
                      refine buildSlice_fact (size := 1) (n := 1) [sb' i] [.one (sb' i)] rfl rfl (by decide) (by decide) ⟨Reads.one hrow.one, rfl, trivial⟩ fun q1 => ?_
                      refine eGo ⟨qM, trivial⟩ ?_
                      first | refine append_one (size := 1) (n := i) (el' := fun y => [Dat.one (sb' i)].getD y (.one undef)) (e' := fun y => .one (sb' y)) 4 rfl hs.vb (Knw.fact qM) eb (by omega) (by omega) fun vb' hvb' => ?_ | refine append_one (size := 1) (n := i) (el' := fun y => [Dat.one (sb' i)].getD y (.one undef)) (e' := fun y => .one (sb' y)) 5 rfl hs.vb (Knw.fact qM) eb (by omega) (by omega) fun vb' hvb' => ?_
                      refine eGo ⟨qM, trivial⟩ ?_
                      refine buildSlice_fact (size := 1) (n := 1) [su' i] [.one (su' i)] rfl rfl (by decide) (by decide) ⟨Reads.one hone.one, rfl, trivial⟩ fun q2 => ?_
                      refine eGo ⟨qM, trivial⟩ ?_
                      refine buildSlice_fact (size := 1) (n := 1) [lr] [.one lr] rfl rfl (by decide) (by decide) ⟨Reads.one hlr.one, rfl, trivial⟩ fun q3 => ?_
                      refine eGo ⟨qM, trivial⟩ ?_
                      first | refine append_one (size := 1) (n := i) (el' := fun y => [Dat.one (su' i)].getD y (.one undef)) (e' := fun y => .one (su' y)) 6 rfl hs.vu (Knw.fact qM) eu (by omega) (by omega) fun vu' hvu' => ?_ | refine append_one (size := 1) (n := i) (el' := fun y => [Dat.one (su' i)].getD y (.one undef)) (e' := fun y => .one (su' y)) 7 rfl hs.vu (Knw.fact qM) eu (by omega) (by omega) fun vu' hvu' => ?_
                      refine eGo ⟨qM, trivial⟩ ?_
                      refine append_one (size := 1) (n := i) (el' := fun y => [Dat.one lr].getD y (.one undef)) (e' := fun y => .one (if y < i then s.sl y else lr)) 10 rfl hs.vl (Knw.fact qM) (fun y _ => by by_cases e : y < i <;> simp [e]) (by omega) (by omega) fun vl' hvl' => ?_
                      refine eGo ⟨qM, trivial⟩ ?_
                      refine field_ptr ?_
                      refine field_ptr ?_
                      refine store4 3 0 rfl rfl (by decide) hvb'.one (by kernel_rfl) ?_
                      refine field_ptr ?_
                      refine field_ptr ?_
                      refine store4 3 1 rfl rfl (by decide) hvu'.one (by kernel_rfl) ?_
                      refine field_ptr ?_
                      refine store4 3 3 rfl rfl (by decide) hvl'.one (by kernel_rfl) ?_
                      exact again (lr, vb', vu', vl') ⟨hlr, hvb', hvu', hvl'⟩ trivial qF (Seals.sub qD)
                  · refine ordE_go [own4 (ptr0 s.r 0) s.vb s.vu s.vd s.vl] [7, 15, 22, 24] [9, 10, 17, 18, 25, 26, 27] [] [0, 1, 2, 3, 4, 5, 6, 7, 8, 11, 12, 13, 14, 15, 16, 19, 20, 21, 22, 23, 24, 25, 9, 10, 26, 17, 18, 27, 28, 29, 30, 31, 32, 33, 34, 35, 36, 37, 38] (by kernel_rfl) (by kernel_rfl) (by kernel_rfl) ?_
                    refine field_ptr ?_
                    refine field_ptr ?_
                    refine lookD (v := s.vb) ⟨qM, trivial⟩ rfl (lookE4 0 rfl (by decide)) ?_
                    refine field_ptr ?_
                    refine field_ptr ?_
                    refine lookD (v := s.vu) ⟨qM, trivial⟩ rfl (lookE4 1 rfl (by decide)) ?_
                    refine field_ptr ?_
                    refine lookD (v := s.vl) ⟨qM, trivial⟩ rfl (lookE4 3 rfl (by decide)) ?_
                    refine lookD (v := .int .i64 a.length) ⟨qM, trivial⟩ rfl (fun _ _ _ => len_eq hsv rfl) ?_
                    refine make_rule (t := 35) (d := I false []) a.length rfl rfl (by omega) (by omega) fun lr hlr => ?_
                    refine eGo ⟨qM, trivial⟩ ?_
                    refine buildSlice_fact (size := 1) (n := 1) [sb' i] [.one (sb' i)] rfl rfl (by decide) (by decide) ⟨Reads.one hrow.one, rfl, trivial⟩ fun q1 => ?_
                    refine eGo ⟨qM, trivial⟩ ?_
                    first | refine append_one (size := 1) (n := i) (el' := fun y => [Dat.one (sb' i)].getD y (.one undef)) (e' := fun y => .one (sb' y)) 4 rfl hs.vb (Knw.fact qM) eb (by omega) (by omega) fun vb' hvb' => ?_ | refine append_one (size := 1) (n := i) (el' := fun y => [Dat.one (sb' i)].getD y (.one undef)) (e' := fun y => .one (sb' y)) 5 rfl hs.vb (Knw.fact qM) eb (by omega) (by omega) fun vb' hvb' => ?_
                    refine eGo ⟨qM, trivial⟩ ?_
                    refine buildSlice_fact (size := 1) (n := 1) [lr] [.one lr] rfl rfl (by decide) (by decide) ⟨Reads.one hlr.one, rfl, trivial⟩ fun q3 => ?_
                    refine eGo ⟨qM, trivial⟩ ?_
                    refine buildSlice_fact (size := 1) (n := 1) [su' i] [.one (su' i)] rfl rfl (by decide) (by decide) ⟨Reads.one hone.one, rfl, trivial⟩ fun q2 => ?_
                    refine eGo ⟨qM, trivial⟩ ?_
                    first | refine append_one (size := 1) (n := i) (el' := fun y => [Dat.one (su' i)].getD y (.one undef)) (e' := fun y => .one (su' y)) 6 rfl hs.vu (Knw.fact qM) eu (by omega) (by omega) fun vu' hvu' => ?_ | refine append_one (size := 1) (n := i) (el' := fun y => [Dat.one (su' i)].getD y (.one undef)) (e' := fun y => .one (su' y)) 7 rfl hs.vu (Knw.fact qM) eu (by omega) (by omega) fun vu' hvu' => ?_
                    refine eGo ⟨qM, trivial⟩ ?_
                    refine append_one (size := 1) (n := i) (el' := fun y => [Dat.one lr].getD y (.one undef)) (e' := fun y => .one (if y < i then s.sl y else lr)) 10 rfl hs.vl (Knw.fact qM) (fun y _ => by by_cases e : y < i <;> simp [e]) (by omega) (by omega) fun vl' hvl' => ?_
                    refine eGo ⟨qM, trivial⟩ ?_
                    refine field_ptr ?_
                    refine field_ptr ?_
                    refine store4 3 0 rfl rfl (by decide) hvb'.one (by kernel_rfl) ?_
                    refine field_ptr ?_
                    refine field_ptr ?_
                    refine store4 3 1 rfl rfl (by decide) hvu'.one (by kernel_rfl) ?_
                    refine field_ptr ?_
                    refine store4 3 3 rfl rfl (by decide) hvl'.one (by kernel_rfl) ?_
                    exact again (lr, vb', vu', vl') ⟨hlr, hvb', hvu', hvl'⟩ trivial qF (Seals.sub qD)
                · refine ordE_go [own4 (ptr0 s.r 0) s.vb s.vu s.vd s.vl] [7, 15, 22, 24] [9, 10, 17, 18, 25, 26, 27] [] [0, 1, 2, 3, 4, 5, 6, 7, 8, 11, 12, 13, 14, 15, 16, 19, 20, 21, 22, 23, 24, 25, 9, 26, 10, 17, 18, 27, 28, 29, 30, 31, 32, 33, 34, 35, 36, 37, 38] (by kernel_rfl) (by kernel_rfl) (by kernel_rfl) ?_
                  refine field_ptr ?_
                  refine field_ptr ?_
                  refine lookD (v := s.vb) ⟨qM, trivial⟩ rfl (lookE4 0 rfl (by decide)) ?_
                  refine field_ptr ?_
                  refine field_ptr ?_
                  refine lookD (v := s.vu) ⟨qM, trivial⟩ rfl (lookE4 1 rfl (by decide)) ?_
                  refine field_ptr ?_
                  refine lookD (v := s.vl) ⟨qM, trivial⟩ rfl (lookE4 3 rfl (by decide)) ?_
                  refine lookD (v := .int .i64 a.length) ⟨qM, trivial⟩ rfl (fun _ _ _ => len_eq hsv rfl) ?_
                  refine make_rule (t := 35) (d := I false []) a.length rfl rfl (by omega) (by omega) fun lr hlr => ?_
                  refine eGo ⟨qM, trivial⟩ ?_
                  refine buildSlice_fact (size := 1) (n := 1) [sb' i] [.one (sb' i)] rfl rfl (by decide) (by decide) ⟨Reads.one hrow.one, rfl, trivial⟩ fun q1 => ?_
                  refine eGo ⟨qM, trivial⟩ ?_
                  refine buildSlice_fact (size := 1) (n := 1) [lr] [.one lr] rfl rfl (by decide) (by decide) ⟨Reads.one hlr.one, rfl, trivial⟩ fun q3 => ?_
                  refine eGo ⟨qM, trivial⟩ ?_
                  first | refine append_one (size := 1) (n := i) (el' := fun y => [Dat.one (sb' i)].getD y (.one undef)) (e' := fun y => .one (sb' y)) 4 rfl hs.vb (Knw.fact qM) eb (by omega) (by omega) fun vb' hvb' => ?_ | refine append_one (size := 1) (n := i) (el' := fun y => [Dat.one (sb' i)].getD y (.one undef)) (e' := fun y => .one (sb' y)) 5 rfl hs.vb (Knw.fact qM) eb (by omega) (by omega) fun vb' hvb' => ?_
                  refine eGo ⟨qM, trivial⟩ ?_
                  refine buildSlice_fact (size := 1) (n := 1) [su' i] [.one (su' i)] rfl rfl (by decide) (by decide) ⟨Reads.one hone.one, rfl, trivial⟩ fun q2 => ?_
                  refine eGo ⟨qM, trivial⟩ ?_
                  first | refine append_one (size := 1) (n := i) (el' := fun y => [Dat.one (su' i)].getD y (.one undef)) (e' := fun y => .one (su' y)) 6 rfl hs.vu (Knw.fact qM) eu (by omega) (by omega) fun vu' hvu' => ?_ | refine append_one (size := 1) (n := i) (el' := fun y => [Dat.one (su' i)].getD y (.one undef)) (e' := fun y => .one (su' y)) 7 rfl hs.vu (Knw.fact qM) eu (by omega) (by omega) fun vu' hvu' => ?_
                  refine eGo ⟨qM, trivial⟩ ?_
                  refine append_one (size := 1) (n := i) (el' := fun y => [Dat.one lr].getD y (.one undef)) (e' := fun y => .one (if y < i then s.sl y else lr)) 10 rfl hs.vl (Knw.fact qM) (fun y _ => by by_cases e : y < i <;> simp [e]) (by omega) (by omega) fun vl' hvl' => ?_
                  refine eGo ⟨qM, trivial⟩ ?_
                  refine field_ptr ?_
                  refine field_ptr ?_
                  refine store4 3 0 rfl rfl (by decide) hvb'.one (by kernel_rfl) ?_
                  refine field_ptr ?_
                  refine field_ptr ?_
                  refine store4 3 1 rfl rfl (by decide) hvu'.one (by kernel_rfl) ?_
                  refine field_ptr ?_
                  refine store4 3 3 rfl rfl (by decide) hvl'.one (by kernel_rfl) ?_
                  exact again (lr, vb', vu', vl') ⟨hlr, hvb', hvu', hvl'⟩ trivial qF (Seals.sub qD)
              · refine ord_split 10 26 (by kernel_rfl) (by kernel_rfl) (by kernel_rfl) ?_ ?_
                · refine ord_split 18 26 (by kernel_rfl) (by kernel_rfl) (by kernel_rfl) ?_ ?_
                  · refine ordE_go [own4 (ptr0 s.r 0) s.vb s.vu s.vd s.vl] [7, 15, 22, 24] [9, 10, 17, 18, 25, 26, 27] [] [0, 1, 2, 3, 4, 5, 6, 7, 8, 11, 12, 13, 14, 15, 16, 19, 20, 21, 22, 23, 24, 25, 9, 17, 10, 18, 26, 27, 28, 29, 30, 31, 32, 33, 34, 35, 36, 37, 38] (by kernel_rfl) (by kernel_rfl) (by kernel_rfl) ?_
                    refine field_ptr ?_
                    refine field_ptr ?_
                    refine lookD (v := s.vb) ⟨qM, trivial⟩ rfl (lookE4 0 rfl (by decide)) ?_
                    refine field_ptr ?_
                    refine field_ptr ?_
                    refine lookD (v := s.vu) ⟨qM, trivial⟩ rfl (lookE4 1 rfl (by decide)) ?_
                    refine field_ptr ?_
                    refine lookD (v := s.vl) ⟨qM, trivial⟩ rfl (lookE4 3 rfl (by decide)) ?_
                    refine lookD (v := .int .i64 a.length) ⟨qM, trivial⟩ rfl (fun _ _ _ => len_eq hsv rfl) ?_
                    refine make_rule (t := 35) (d := I false []) a.length rfl rfl (by omega) (by omega) fun lr hlr => ?_
                    refine eGo ⟨qM, trivial⟩ ?_
                    refine buildSlice_fact (size := 1) (n := 1) [sb' i] [.one (sb' i)] rfl rfl (by decide) (by decide) ⟨Reads.one hrow.one, rfl, trivial⟩ fun q1 => ?_
                    refine eGo ⟨qM, trivial⟩ ?_
                    refine buildSlice_fact (size := 1) (n := 1) [su' i] [.one (su' i)] rfl rfl (by decide) (by decide) ⟨Reads.one hone.one, rfl, trivial⟩ fun q2 => ?_
                    refine eGo ⟨qM, trivial⟩ ?_
                    first | refine append_one (size := 1) (n := i) (el' := fun y => [Dat.one (sb' i)].getD y (.one undef)) (e' := fun y => .one (sb' y)) 4 rfl hs.vb (Knw.fact qM) eb (by omega) (by omega) fun vb' hvb' => ?_ | refine append_one (size := 1) (n := i) (el' := fun y => [Dat.one (sb' i)].getD y (.one undef)) (e' := fun y => .one (sb' y)) 5 rfl hs.vb (Knw.fact qM) eb (by omega) (by omega) fun vb' hvb' => ?_
                    refine eGo ⟨qM, trivial⟩ ?_
                    first | refine append_one (size := 1) (n := i) (el' := fun y => [Dat.one (su' i)].getD y (.one undef)) (e' := fun y => .one (su' y)) 6 rfl hs.vu (Knw.fact qM) eu (by omega) (by omega) fun vu' hvu' => ?_ | refine append_one (size := 1) (n := i) (el' := fun y => [Dat.one (su' i)].getD y (.one undef)) (e' := fun y => .one (su' y)) 7 rfl hs.vu (Knw.fact qM) eu (by omega) (by omega) fun vu' hvu' => ?_
                    refine eGo ⟨qM, trivial⟩ ?_
                    refine buildSlice_fact (size := 1) (n := 1) [lr] [.one lr] rfl rfl (by decide) (by decide) ⟨Reads.one hlr.one, rfl, trivial⟩ fun q3 => ?_
                    refine eGo ⟨qM, trivial⟩ ?_
                    refine append_one (size := 1) (n := i) (el' := fun y => [Dat.one lr].getD y (.one undef)) (e' := fun y => .one (if y < i then s.sl y else lr)) 10 rfl hs.vl (Knw.fact qM) (fun y _ => by by_cases e : y < i <;> simp [e]) (by omega) (by omega) fun vl' hvl' => ?_
                    refine eGo ⟨qM, trivial⟩ ?_
                    refine field_ptr ?_
                    refine field_ptr ?_
                    refine store4 3 0 rfl rfl (by decide) hvb'.one (by kernel_rfl) ?_
                    refine field_ptr ?_
                    refine field_ptr ?_
                    refine store4 3 1 rfl rfl (by decide) hvu'.one (by kernel_rfl) ?_
                    refine field_ptr ?_
                    refine store4 3 3 rfl rfl (by decide) hvl'.one (by kernel_rfl) ?_
                    exact again (lr, vb', vu', vl') ⟨hlr, hvb', hvu', hvl'⟩ trivial qF (Seals.sub qD)
                  · refine ordE_go [own4 (ptr0 s.r 0) s.vb s.vu s.vd s.vl] [7, 15, 22, 24] [9, 10, 17, 18, 25, 26, 27] [] [0, 1, 2, 3, 4, 5, 6, 7, 8, 11, 12, 13, 14, 15, 16, 19, 20, 21, 22, 23, 24, 25, 9, 17, 10, 26, 18, 27, 28, 29, 30, 31, 32, 33, 34, 35, 36, 37, 38] (by kernel_rfl) (by kernel_rfl) (by kernel_rfl) ?_
                    refine field_ptr ?_
                    refine field_ptr ?_
                    refine lookD (v := s.vb) ⟨qM, trivial⟩ rfl (lookE4 0 rfl (by decide)) ?_
                    refine field_ptr ?_
                    refine field_ptr ?_
                    refine lookD (v := s.vu) ⟨qM, trivial⟩ rfl (lookE4 1 rfl (by decide)) ?_
                    refine field_ptr ?_
                    refine lookD (v := s.vl) ⟨qM, trivial⟩ rfl (lookE4 3 rfl (by decide)) ?_
                    refine lookD (v := .int .i64 a.length) ⟨qM, trivial⟩ rfl (fun _ _ _ => len_eq hsv rfl) ?_
                    refine make_rule (t := 35) (d := I false []) a.length rfl rfl (by omega) (by omega) fun lr hlr => ?_
                    refine eGo ⟨qM, trivial⟩ ?_
                    refine buildSlice_fact (size := 1) (n := 1) [sb' i] [.one (sb' i)] rfl rfl (by decide) (by decide) ⟨Reads.one hrow.one, rfl, trivial⟩ fun q1 => ?_
                    refine eGo ⟨qM, trivial⟩ ?_
                    refine buildSlice_fact (size := 1) (n := 1) [su' i] [.one (su' i)] rfl rfl (by decide) (by decide) ⟨Reads.one hone.one, rfl, trivial⟩ fun q2 => ?_
                    refine eGo ⟨qM, trivial⟩ ?_
                    first | refine append_one (size := 1) (n := i) (el' := fun y => [Dat.one (sb' i)].getD y (.one undef)) (e' := fun y => .one (sb' y)) 4 rfl hs.vb (Knw.fact qM) eb (by omega) (by omega) fun vb' hvb' => ?_ | refine append_one (size := 1) (n := i) (el' := fun y => [Dat.one (sb' i)].getD y (.one undef)) (e' := fun y => .one (sb' y)) 5 rfl hs.vb (Knw.fact qM) eb (by omega) (by omega) fun vb' hvb' => ?_
                    refine eGo ⟨qM, trivial⟩ ?_
                    refine buildSlice_fact (size := 1) (n := 1) [lr] [.one lr] rfl rfl (by decide) (by decide) ⟨Reads.one hlr.one, rfl, trivial⟩ fun q3 => ?_
                    refine eGo ⟨qM, trivial⟩ ?_
                    first | refine append_one (size := 1) (n := i) (el' := fun y => [Dat.one (su' i)].getD y (.one undef)) (e' := fun y => .one (su' y)) 6 rfl hs.vu (Knw.fact qM) eu (by omega) (by omega) fun vu' hvu' => ?_ | refine append_one (size := 1) (n := i) (el' := fun y => [Dat.one (su' i)].getD y (.one undef)) (e' := fun y => .one (su' y)) 7 rfl hs.vu (Knw.fact qM) eu (by omega) (by omega) fun vu' hvu' => ?_
                    refine eGo ⟨qM, trivial⟩ ?_
                    refine append_one (size := 1) (n := i) (el' := fun y => [Dat.one lr].getD y (.one undef)) (e' := fun y => .one (if y < i then s.sl y else lr)) 10 rfl hs.vl (Knw.fact qM) (fun y _ => by by_cases e : y < i <;> simp [e]) (by omega) (by omega) fun vl' hvl' => ?_
                    refine eGo ⟨qM, trivial⟩ ?_
                    refine field_ptr ?_
                    refine field_ptr ?_
                    refine store4 3 0 rfl rfl (by decide) hvb'.one (by kernel_rfl) ?_
                    refine field_ptr ?_
                    refine field_ptr ?_
                    refine store4 3 1 rfl rfl (by decide) hvu'.one (by kernel_rfl) ?_
                    refine field_ptr ?_
                    refine store4 3 3 rfl rfl (by decide) hvl'.one (by kernel_rfl) ?_
                    exact again (lr, vb', vu', vl') ⟨hlr, hvb', hvu', hvl'⟩ trivial qF (Seals.sub qD)
                · refine ord_split 17 26 (by kernel_rfl) (by kernel_rfl) (by kernel_rfl) ?_ ?_
                  · refine ordE_go [own4 (ptr0 s.r 0) s.vb s.vu s.vd s.vl] [7, 15, 22, 24] [9, 10, 17, 18, 25, 26, 27] [] [0, 1, 2, 3, 4, 5, 6, 7, 8, 11, 12, 13, 14, 15, 16, 19, 20, 21, 22, 23, 24, 25, 9, 17, 26, 10, 18, 27, 28, 29, 30, 31, 32, 33, 34, 35, 36, 37, 38] (by kernel_rfl) (by kernel_rfl) (by kernel_rfl) ?_
                    refine field_ptr ?_
                    refine field_ptr ?_
                    refine lookD (v := s.vb) ⟨qM, trivial⟩ rfl (lookE4 0 rfl (by decide)) ?_
                    refine field_ptr ?_
                    refine field_ptr ?_
                    refine lookD (v := s.vu) ⟨qM, trivial⟩ rfl (lookE4 1 rfl (by decide)) ?_
                    refine field_ptr ?_
                    refine lookD (v := s.vl) ⟨qM, trivial⟩ rfl (lookE4 3 rfl (by decide)) ?_
                    refine lookD (v := .int .i64 a.length) ⟨qM, trivial⟩ rfl (fun _ _ _ => len_eq hsv rfl) ?_
                    refine make_rule (t := 35) (d := I false []) a.length rfl rfl (by omega) (by omega) fun lr hlr => ?_
                    refine eGo ⟨qM, trivial⟩ ?_
                    refine buildSlice_fact (size := 1) (n := 1) [sb' i] [.one (sb' i)] rfl rfl (by decide) (by decide) ⟨Reads.one hrow.one, rfl, trivial⟩ fun q1 => ?_
                    refine eGo ⟨qM, trivial⟩ ?_
                    refine buildSlice_fact (size := 1) (n := 1) [su' i] [.one (su' i)] rfl rfl (by decide) (by decide) ⟨Reads.one hone.one, rfl, trivial⟩ fun q2 => ?_
                    refine eGo ⟨qM, trivial⟩ ?_
                    refine buildSlice_fact (size := 1) (n := 1) [lr] [.one lr] rfl rfl (by decide) (by decide) ⟨Reads.one hlr.one, rfl, trivial⟩ fun q3 => ?_
                    refine eGo ⟨qM, trivial⟩ ?_
                    first | refine append_one (size := 1) (n := i) (el' := fun y => [Dat.one (sb' i)].getD y (.one undef)) (e' := fun y => .one (sb' y)) 4 rfl hs.vb (Knw.fact qM) eb (by omega) (by omega) fun vb' hvb' => ?_ | refine append_one (size := 1) (n := i) (el' := fun y => [Dat.one (sb' i)].getD y (.one undef)) (e' := fun y => .one (sb' y)) 5 rfl hs.vb (Knw.fact qM) eb (by omega) (by omega) fun vb' hvb' => ?_
                    refine eGo ⟨qM, trivial⟩ ?_
                    first | refine append_one (size := 1) (n := i) (el' := fun y => [Dat.one (su' i)].getD y (.one undef)) (e' := fun y => .one (su' y)) 6 rfl hs.vu (Knw.fact qM) eu (by omega) (by omega) fun vu' hvu' => ?_ | refine append_one (size := 1) (n := i) (el' := fun y => [Dat.one (su' i)].getD y (.one undef)) (e' := fun y => .one (su' y)) 7 rfl hs.vu (Knw.fact qM) eu (by omega) (by omega) fun vu' hvu' => ?_
                    refine eGo ⟨qM, trivial⟩ ?_
                    refine append_one (size := 1) (n := i) (el' := fun y => [Dat.one lr].getD y (.one undef)) (e' := fun y => .one (if y < i then s.sl y else lr)) 10 rfl hs.vl (Knw.fact qM) (fun y _ => by by_cases e : y < i <;> simp [e]) (by omega) (by omega) fun vl' hvl' => ?_
                    refine eGo ⟨qM, trivial⟩ ?_
                    refine field_ptr ?_
                    refine field_ptr ?_
                    refine store4 3 0 rfl rfl (by decide) hvb'.one (by kernel_rfl) ?_
                    refine field_ptr ?_
                    refine field_ptr ?_
                    refine store4 3 1 rfl rfl (by decide) hvu'.one (by kernel_rfl) ?_
                    refine field_ptr ?_
                    refine store4 3 3 rfl rfl (by decide) hvl'.one (by kernel_rfl) ?_
                    exact again (lr, vb', vu', vl') ⟨hlr, hvb', hvu', hvl'⟩ trivial qF (Seals.sub qD)
                  · refine ordE_go [own4 (ptr0 s.r 0) s.vb s.vu s.vd s.vl] [7, 15, 22, 24] [9, 10, 17, 18, 25, 26, 27] [] [0, 1, 2, 3, 4, 5, 6, 7, 8, 11, 12, 13, 14, 15, 16, 19, 20, 21, 22, 23, 24, 25, 9, 26, 17, 10, 18, 27, 28, 29, 30, 31, 32, 33, 34, 35, 36, 37, 38] (by kernel_rfl) (by kernel_rfl) (by kernel_rfl) ?_
                    refine field_ptr ?_
                    refine field_ptr ?_
                    refine lookD (v := s.vb) ⟨qM, trivial⟩ rfl (lookE4 0 rfl (by decide)) ?_
                    refine field_ptr ?_
                    refine field_ptr ?_
                    refine lookD (v := s.vu) ⟨qM, trivial⟩ rfl (lookE4 1 rfl (by decide)) ?_
                    refine field_ptr ?_
                    refine lookD (v := s.vl) ⟨qM, trivial⟩ rfl (lookE4 3 rfl (by decide)) ?_
                    refine lookD (v := .int .i64 a.length) ⟨qM, trivial⟩ rfl (fun _ _ _ => len_eq hsv rfl) ?_
                    refine make_rule (t := 35) (d := I false []) a.length rfl rfl (by omega) (by omega) fun lr hlr => ?_
                    refine eGo ⟨qM, trivial⟩ ?_
                    refine buildSlice_fact (size := 1) (n := 1) [sb' i] [.one (sb' i)] rfl rfl (by decide) (by decide) ⟨Reads.one hrow.one, rfl, trivial⟩ fun q1 => ?_
                    refine eGo ⟨qM, trivial⟩ ?_
                    refine buildSlice_fact (size := 1) (n := 1) [lr] [.one lr] rfl rfl (by decide) (by decide) ⟨Reads.one hlr.one, rfl, trivial⟩ fun q3 => ?_
                    refine eGo ⟨qM, trivial⟩ ?_
                    refine buildSlice_fact (size := 1) (n := 1) [su' i] [.one (su' i)] rfl rfl (by decide) (by decide) ⟨Reads.one hone.one, rfl, trivial⟩ fun q2 => ?_
                    refine eGo ⟨qM, trivial⟩ ?_
                    first | refine append_one (size := 1) (n := i) (el' := fun y => [Dat.one (sb' i)].getD y (.one undef)) (e' := fun y => .one (sb' y)) 4 rfl hs.vb (Knw.fact qM) eb (by omega) (by omega) fun vb' hvb' => ?_ | refine append_one (size := 1) (n := i) (el' := fun y => [Dat.one (sb' i)].getD y (.one undef)) (e' := fun y => .one (sb' y)) 5 rfl hs.vb (Knw.fact qM) eb (by omega) (by omega) fun vb' hvb' => ?_
                    refine eGo ⟨qM, trivial⟩ ?_
                    first | refine append_one (size := 1) (n := i) (el' := fun y => [Dat.one (su' i)].getD y (.one undef)) (e' := fun y => .one (su' y)) 6 rfl hs.vu (Knw.fact qM) eu (by omega) (by omega) fun vu' hvu' => ?_ | refine append_one (size := 1) (n := i) (el' := fun y => [Dat.one (su' i)].getD y (.one undef)) (e' := fun y => .one (su' y)) 7 rfl hs.vu (Knw.fact qM) eu (by omega) (by omega) fun vu' hvu' => ?_
                    refine eGo ⟨qM, trivial⟩ ?_
                    refine append_one (size := 1) (n := i) (el' := fun y => [Dat.one lr].getD y (.one undef)) (e' := fun y => .one (if y < i then s.sl y else lr)) 10 rfl hs.vl (Knw.fact qM) (fun y _ => by by_cases e : y < i <;> simp [e]) (by omega) (by omega) fun vl' hvl' => ?_
                    refine eGo ⟨qM, trivial⟩ ?_
                    refine field_ptr ?_
                    refine field_ptr ?_
                    refine store4 3 0 rfl rfl (by decide) hvb'.one (by kernel_rfl) ?_
                    refine field_ptr ?_
                    refine field_ptr ?_
                    refine store4 3 1 rfl rfl (by decide) hvu'.one (by kernel_rfl) ?_
                    refine field_ptr ?_
                    refine store4 3 3 rfl rfl (by decide) hvl'.one (by kernel_rfl) ?_
                    exact again (lr, vb', vu', vl') ⟨hlr, hvb', hvu', hvl'⟩ trivial qF (Seals.sub qD)
            · refine ord_split 10 17 (by kernel_rfl) (by kernel_rfl) (by kernel_rfl) ?_ ?_
              · refine ordE_go [own4 (ptr0 s.r 0) s.vb s.vu s.vd s.vl] [7, 15, 22, 24] [9, 10, 17, 18, 25, 26, 27] [] [0, 1, 2, 3, 4, 5, 6, 7, 8, 11, 12, 13, 14, 15, 16, 19, 20, 21, 22, 23, 24, 25, 26, 9, 10, 17, 18, 27, 28, 29, 30, 31, 32, 33, 34, 35, 36, 37, 38] (by kernel_rfl) (by kernel_rfl) (by kernel_rfl) ?_
                refine field_ptr ?_
                refine field_ptr ?_
                refine lookD (v := s.vb) ⟨qM, trivial⟩ rfl (lookE4 0 rfl (by decide)) ?_
                refine field_ptr ?_
                refine field_ptr ?_
                refine lookD (v := s.vu) ⟨qM, trivial⟩ rfl (lookE4 1 rfl (by decide)) ?_
                refine field_ptr ?_
                refine lookD (v := s.vl) ⟨qM, trivial⟩ rfl (lookE4 3 rfl (by decide)) ?_
                refine lookD (v := .int .i64 a.length) ⟨qM, trivial⟩ rfl (fun _ _ _ => len_eq hsv rfl) ?_
                refine make_rule (t := 35) (d := I false []) a.length rfl rfl (by omega) (by omega) fun lr hlr => ?_
                refine eGo ⟨qM, trivial⟩ ?_
                refine buildSlice_fact (size := 1) (n := 1) [lr] [.one lr] rfl rfl (by decide) (by decide) ⟨Reads.one hlr.one, rfl, trivial⟩ fun q3 => ?_
                refine eGo ⟨qM, trivial⟩ ?_
                refine buildSlice_fact (size := 1) (n := 1) [sb' i] [.one (sb' i)] rfl rfl (by decide) (by decide) ⟨Reads.one hrow.one, rfl, trivial⟩ fun q1 => ?_
                refine eGo ⟨qM, trivial⟩ ?_
                first | refine append_one (size := 1) (n := i) (el' := fun y => [Dat.one (sb' i)].getD y (.one undef)) (e' := fun y => .one (sb' y)) 4 rfl hs.vb (Knw.fact qM) eb (by omega) (by omega) fun vb' hvb' => ?_ | refine append_one (size := 1) (n := i) (el' := fun y => [Dat.one (sb' i)].getD y (.one undef)) (e' := fun y => .one (sb' y)) 5 rfl hs.vb (Knw.fact qM) eb (by omega) (by omega) fun vb' hvb' => ?_
                refine eGo ⟨qM, trivial⟩ ?_
                refine buildSlice_fact (size := 1) (n := 1) [su' i] [.one (su' i)] rfl rfl (by decide) (by decide) ⟨Reads.one hone.one, rfl, trivial⟩ fun q2 => ?_
                refine eGo ⟨qM, trivial⟩ ?_
                first | refine append_one (size := 1) (n := i) (el' := fun y => [Dat.one (su' i)].getD y (.one undef)) (e' := fun y => .one (su' y)) 6 rfl hs.vu (Knw.fact qM) eu (by omega) (by omega) fun vu' hvu' => ?_ | refine append_one (size := 1) (n := i) (el' := fun y => [Dat.one (su' i)].getD y (.one undef)) (e' := fun y => .one (su' y)) 7 rfl hs.vu (Knw.fact qM) eu (by omega) (by omega) fun vu' hvu' => ?_
                refine eGo ⟨qM, trivial⟩ ?_
                refine append_one (size := 1) (n := i) (el' := fun y => [Dat.one lr].getD y (.one undef)) (e' := fun y => .one (if y < i then s.sl y else lr)) 10 rfl hs.vl (Knw.fact qM) (fun y _ => by by_cases e : y < i <;> simp [e]) (by omega) (by omega) fun vl' hvl' => ?_
                refine eGo ⟨qM, trivial⟩ ?_
                refine field_ptr ?_
                refine field_ptr ?_
                refine store4 3 0 rfl rfl (by decide) hvb'.one (by kernel_rfl) ?_
                refine field_ptr ?_
                refine field_ptr ?_
                refine store4 3 1 rfl rfl (by decide) hvu'.one (by kernel_rfl) ?_
                refine field_ptr ?_
                refine store4 3 3 rfl rfl (by decide) hvl'.one (by kernel_rfl) ?_
                exact again (lr, vb', vu', vl') ⟨hlr, hvb', hvu', hvl'⟩ trivial qF (Seals.sub qD)
              · refine ordE_go [own4 (ptr0 s.r 0) s.vb s.vu s.vd s.vl] [7, 15, 22, 24] [9, 10, 17, 18, 25, 26, 27] [] [0, 1, 2, 3, 4, 5, 6, 7, 8, 11, 12, 13, 14, 15, 16, 19, 20, 21, 22, 23, 24, 25, 26, 9, 17, 10, 18, 27, 28, 29, 30, 31, 32, 33, 34, 35, 36, 37, 38] (by kernel_rfl) (by kernel_rfl) (by kernel_rfl) ?_
                refine field_ptr ?_
                refine field_ptr ?_
                refine lookD (v := s.vb) ⟨qM, trivial⟩ rfl (lookE4 0 rfl (by decide)) ?_
                refine field_ptr ?_
                refine field_ptr ?_
                refine lookD (v := s.vu) ⟨qM, trivial⟩ rfl (lookE4 1 rfl (by decide)) ?_
                refine field_ptr ?_
                refine lookD (v := s.vl) ⟨qM, trivial⟩ rfl (lookE4 3 rfl (by decide)) ?_
                refine lookD (v := .int .i64 a.length) ⟨qM, trivial⟩ rfl (fun _ _ _ => len_eq hsv rfl) ?_
                refine make_rule (t := 35) (d := I false []) a.length rfl rfl (by omega) (by omega) fun lr hlr => ?_
                refine eGo ⟨qM, trivial⟩ ?_
                refine buildSlice_fact (size := 1) (n := 1) [lr] [.one lr] rfl rfl (by decide) (by decide) ⟨Reads.one hlr.one, rfl, trivial⟩ fun q3 => ?_
                refine eGo ⟨qM, trivial⟩ ?_
                refine buildSlice_fact (size := 1) (n := 1) [sb' i] [.one (sb' i)] rfl rfl (by decide) (by decide) ⟨Reads.one hrow.one, rfl, trivial⟩ fun q1 => ?_
                refine eGo ⟨qM, trivial⟩ ?_
                refine buildSlice_fact (size := 1) (n := 1) [su' i] [.one (su' i)] rfl rfl (by decide) (by decide) ⟨Reads.one hone.one, rfl, trivial⟩ fun q2 => ?_
                refine eGo ⟨qM, trivial⟩ ?_
                first | refine append_one (size := 1) (n := i) (el' := fun y => [Dat.one (sb' i)].getD y (.one undef)) (e' := fun y => .one (sb' y)) 4 rfl hs.vb (Knw.fact qM) eb (by omega) (by omega) fun vb' hvb' => ?_ | refine append_one (size := 1) (n := i) (el' := fun y => [Dat.one (sb' i)].getD y (.one undef)) (e' := fun y => .one (sb' y)) 5 rfl hs.vb (Knw.fact qM) eb (by omega) (by omega) fun vb' hvb' => ?_
                refine eGo ⟨qM, trivial⟩ ?_
                first | refine append_one (size := 1) (n := i) (el' := fun y => [Dat.one (su' i)].getD y (.one undef)) (e' := fun y => .one (su' y)) 6 rfl hs.vu (Knw.fact qM) eu (by omega) (by omega) fun vu' hvu' => ?_ | refine append_one (size := 1) (n := i) (el' := fun y => [Dat.one (su' i)].getD y (.one undef)) (e' := fun y => .one (su' y)) 7 rfl hs.vu (Knw.fact qM) eu (by omega) (by omega) fun vu' hvu' => ?_
                refine eGo ⟨qM, trivial⟩ ?_
                refine append_one (size := 1) (n := i) (el' := fun y => [Dat.one lr].getD y (.one undef)) (e' := fun y => .one (if y < i then s.sl y else lr)) 10 rfl hs.vl (Knw.fact qM) (fun y _ => by by_cases e : y < i <;> simp [e]) (by omega) (by omega) fun vl' hvl' => ?_
                refine eGo ⟨qM, trivial⟩ ?_
                refine field_ptr ?_
                refine field_ptr ?_
                refine store4 3 0 rfl rfl (by decide) hvb'.one (by kernel_rfl) ?_
                refine field_ptr ?_
                refine field_ptr ?_
                refine store4 3 1 rfl rfl (by decide) hvu'.one (by kernel_rfl) ?_
                refine field_ptr ?_
                refine store4 3 3 rfl rfl (by decide) hvl'.one (by kernel_rfl) ?_
                exact again (lr, vb', vu', vl') ⟨hlr, hvb', hvu', hvl'⟩ trivial qF (Seals.sub qD)
        · refine ord_split 9 25 (by kernel_rfl) (by kernel_rfl) (by kernel_rfl) ?_ ?_
          · refine ord_split 10 25 (by kernel_rfl) (by kernel_rfl) (by kernel_rfl) ?_ ?_
            · refine ord_split 18 25 (by kernel_rfl) (by kernel_rfl) (by kernel_rfl) ?_ ?_
              · refine ordE_go [own4 (ptr0 s.r 0) s.vb s.vu s.vd s.vl] [7, 15, 22, 24] [9, 10, 17, 18, 25, 26, 27] [] [0, 1, 2, 3, 4, 5, 6, 7, 8, 11, 12, 13, 14, 15, 16, 19, 20, 21, 22, 23, 24, 17, 9, 10, 18, 25, 26, 27, 28, 29, 30, 31, 32, 33, 34, 35, 36, 37, 38] (by kernel_rfl) (by kernel_rfl) (by kernel_rfl) ?_
                refine field_ptr ?_
                refine field_ptr ?_
                refine lookD (v := s.vb) ⟨qM, trivial⟩ rfl (lookE4 0 rfl (by decide)) ?_
                refine field_ptr ?_
                refine field_ptr ?_
                refine lookD (v := s.vu) ⟨qM, trivial⟩ rfl (lookE4 1 rfl (by decide)) ?_
                refine field_ptr ?_
                refine lookD (v := s.vl) ⟨qM, trivial⟩ rfl (lookE4 3 rfl (by decide)) ?_
                refine lookD (v := .int .i64 a.length) ⟨qM, trivial⟩ rfl (fun _ _ _ => len_eq hsv rfl) ?_
                refine buildSlice_fact (size := 1) (n := 1) [su' i] [.one (su' i)] rfl rfl (by decide) (by decide) ⟨Reads.one hone.one, rfl, trivial⟩ fun q2 => ?_
                refine eGo ⟨qM, trivial⟩ ?_
                refine buildSlice_fact (size := 1) (n := 1) [sb' i] [.one (sb' i)] rfl rfl (by decide) (by decide) ⟨Reads.one hrow.one, rfl, trivial⟩ fun q1 => ?_
                refine eGo ⟨qM, trivial⟩ ?_
                first | refine append_one (size := 1) (n := i) (el' := fun y => [Dat.one (sb' i)].getD y (.one undef)) (e' := fun y => .one (sb' y)) 4 rfl hs.vb (Knw.fact qM) eb (by omega) (by omega) fun vb' hvb' => ?_ | refine append_one (size := 1) (n := i) (el' := fun y => [Dat.one (sb' i)].getD y (.one undef)) (e' := fun y => .one (sb' y)) 5 rfl hs.vb (Knw.fact qM) eb (by omega) (by omega) fun vb' hvb' => ?_
                refine eGo ⟨qM, trivial⟩ ?_
                first | refine append_one (size := 1) (n := i) (el' := fun y => [Dat.one (su' i)].getD y (.one undef)) (e' := fun y => .one (su' y)) 6 rfl hs.vu (Knw.fact qM) eu (by omega) (by omega) fun vu' hvu' => ?_ | refine append_one (size := 1) (n := i) (el' := fun y => [Dat.one (su' i)].getD y (.one undef)) (e' := fun y => .one (su' y)) 7 rfl hs.vu (Knw.fact qM) eu (by omega) (by omega) fun vu' hvu' => ?_
                refine eGo ⟨qM, trivial⟩ ?_
                refine make_rule (t := 35) (d := I false []) a.length rfl rfl (by omega) (by omega) fun lr hlr => ?_
                refine eGo ⟨qM, trivial⟩ ?_
                refine buildSlice_fact (size := 1) (n := 1) [lr] [.one lr] rfl rfl (by decide) (by decide) ⟨Reads.one hlr.one, rfl, trivial⟩ fun q3 => ?_
                refine eGo ⟨qM, trivial⟩ ?_
                refine append_one (size := 1) (n := i) (el' := fun y => [Dat.one lr].getD y (.one undef)) (e' := fun y => .one (if y < i then s.sl y else lr)) 10 rfl hs.vl (Knw.fact qM) (fun y _ => by by_cases e : y < i <;> simp [e]) (by omega) (by omega) fun vl' hvl' => ?_
                refine eGo ⟨qM, trivial⟩ ?_
                refine field_ptr ?_
                refine field_ptr ?_
                refine store4 3 0 rfl rfl (by decide) hvb'.one (by kernel_rfl) ?_
                refine field_ptr ?_
                refine field_ptr ?_
                refine store4 3 1 rfl rfl (by decide) hvu'.one (by kernel_rfl) ?_
                refine field_ptr ?_
                refine store4 3 3 rfl rfl (by decide) hvl'.one (by kernel_rfl) ?_
                exact again (lr, vb', vu', vl') ⟨hlr, hvb', hvu', hvl'⟩ trivial qF (Seals.sub qD)
              · refine ord_split 18 26 (by kernel_rfl) (by kernel_rfl) (by kernel_rfl) ?_ ?_
                · refine ordE_go [own4 (ptr0 s.r 0) s.vb s.vu s.vd s.vl] [7, 15, 22, 24] [9, 10, 17, 18, 25, 26, 27] [] [0, 1, 2, 3, 4, 5, 6, 7, 8, 11, 12, 13, 14, 15, 16, 19, 20, 21, 22, 23, 24, 17, 9, 10, 25, 18, 26, 27, 28, 29, 30, 31, 32, 33, 34, 35, 36, 37, 38] (by kernel_rfl) (by kernel_rfl) (by kernel_rfl) ?_
                  refine field_ptr ?_
                  refine field_ptr ?_
                  refine lookD (v := s.vb) ⟨qM, trivial⟩ rfl (lookE4 0 rfl (by decide)) ?_
                  refine field_ptr ?_
                  refine field_ptr ?_
                  refine lookD (v := s.vu) ⟨qM, trivial⟩ rfl (lookE4 1 rfl (by decide)) ?_
                  refine field_ptr ?_
                  refine lookD (v := s.vl) ⟨qM, trivial⟩ rfl (lookE4 3 rfl (by decide)) ?_
                  refine lookD (v := .int .i64 a.length) ⟨qM, trivial⟩ rfl (fun _ _ _ => len_eq hsv rfl) ?_
                  refine buildSlice_fact (size := 1) (n := 1) [su' i] [.one (su' i)] rfl rfl (by decide) (by decide) ⟨Reads.one hone.one, rfl, trivial⟩ fun q2 => ?_
                  refine eGo ⟨qM, trivial⟩ ?_
                  refine buildSlice_fact (size := 1) (n := 1) [sb' i] [.one (sb' i)] rfl rfl (by decide) (by decide) ⟨Reads.one hrow.one, rfl, trivial⟩ fun q1 => ?_
                  refine eGo ⟨qM, trivial⟩ ?_
                  first | refine append_one (size := 1) (n := i) (el' := fun y => [Dat.one (sb' i)].getD y (.one undef)) (e' := fun y => .one (sb' y)) 4 rfl hs.vb (Knw.fact qM) eb (by omega) (by omega) fun vb' hvb' => ?_ | refine append_one (size := 1) (n := i) (el' := fun y => [Dat.one (sb' i)].getD y (.one undef)) (e' := fun y => .one (sb' y)) 5 rfl hs.vb (Knw.fact qM) eb (by omega) (by omega) fun vb' hvb' => ?_
                  refine eGo ⟨qM, trivial⟩ ?_
                  refine make_rule (t := 35) (d := I false []) a.length rfl rfl (by omega) (by omega) fun lr hlr => ?_
                  refine eGo ⟨qM, trivial⟩ ?_
                  first | refine append_one (size := 1) (n := i) (el' := fun y => [Dat.one (su' i)].getD y (.one undef)) (e' := fun y => .one (su' y)) 6 rfl hs.vu (Knw.fact qM) eu (by omega) (by omega) fun vu' hvu' => ?_ | refine append_one (size := 1) (n := i) (el' := fun y => [Dat.one (su' i)].getD y (.one undef)) (e' := fun y => .one (su' y)) 7 rfl hs.vu (Knw.fact qM) eu (by omega) (by omega) fun vu' hvu' => ?_
                  refine eGo ⟨qM, trivial⟩ ?_
                  refine buildSlice_fact (size := 1) (n := 1) [lr] [.one lr] rfl rfl (by decide) (by decide) ⟨Reads.one hlr.one, rfl, trivial⟩ fun q3 => ?_
                  refine eGo ⟨qM, trivial⟩ ?_
                  refine append_one (size := 1) (n := i) (el' := fun y => [Dat.one lr].getD y (.one undef)) (e' := fun y => .one (if y < i then s.sl y else lr)) 10 rfl hs.vl (Knw.fact qM) (fun y _ => by by_cases e : y < i <;> simp [e]) (by omega) (by omega) fun vl' hvl' => ?_
                  refine eGo ⟨qM, trivial⟩ ?_
                  refine field_ptr ?_
                  refine field_ptr ?_
                  refine store4 3 0 rfl rfl (by decide) hvb'.one (by kernel_rfl) ?_
                  refine field_ptr ?_
                  refine field_ptr ?_
                  refine store4 3 1 rfl rfl (by decide) hvu'.one (by kernel_rfl) ?_
                  refine field_ptr ?_
                  refine store4 3 3 rfl rfl (by decide) hvl'.one (by kernel_rfl) ?_
                  exact again (lr, vb', vu', vl') ⟨hlr, hvb', hvu', hvl'⟩ trivial qF (Seals.sub qD)
                · refine ordE_go [own4 (ptr0 s.r 0) s.vb s.vu s.vd s.vl] [7, 15, 22, 24] [9, 10, 17, 18, 25, 26, 27] [] [0, 1, 2, 3, 4, 5, 6, 7, 8, 11, 12, 13, 14, 15, 16, 19, 20, 21, 22, 23, 24, 17, 9, 10, 25, 26, 18, 27, 28, 29, 30, 31, 32, 33, 34, 35, 36, 37, 38] (by kernel_rfl) (by kernel_rfl) (by kernel_rfl) ?_
                  refine field_ptr ?_
                  refine field_ptr ?_
                  refine lookD (v := s.vb) ⟨qM, trivial⟩ rfl (lookE4 0 rfl (by decide)) ?_
                  refine field_ptr ?_
                  refine field_ptr ?_
                  refine lookD (v := s.vu) ⟨qM, trivial⟩ rfl (lookE4 1 rfl (by decide)) ?_
                  refine field_ptr ?_
                  refine lookD (v := s.vl) ⟨qM, trivial⟩ rfl (lookE4 3 rfl (by decide)) ?_
                  refine lookD (v := .int .i64 a.length) ⟨qM, trivial⟩ rfl (fun _ _ _ => len_eq hsv rfl) ?_
                  refine buildSlice_fact (size := 1) (n := 1) [su' i] [.one (su' i)] rfl rfl (by decide) (by decide) ⟨Reads.one hone.one, rfl, trivial⟩ fun q2 => ?_
                  refine eGo ⟨qM, trivial⟩ ?_
                  refine buildSlice_fact (size := 1) (n := 1) [sb' i] [.one (sb' i)] rfl rfl (by decide) (by decide) ⟨Reads.one hrow.one, rfl, trivial⟩ fun q1 => ?_
                  refine eGo ⟨qM, trivial⟩ ?_
                  first | refine append_one (size := 1) (n := i) (el' := fun y => [Dat.one (sb' i)].getD y (.one undef)) (e' := fun y => .one (sb' y)) 4 rfl hs.vb (Knw.fact qM) eb (by omega) (by omega) fun vb' hvb' => ?_ | refine append_one (size := 1) (n := i) (el' := fun y => [Dat.one (sb' i)].getD y (.one undef)) (e' := fun y => .one (sb' y)) 5 rfl hs.vb (Knw.fact qM) eb (by omega) (by omega) fun vb' hvb' => ?_
                  refine eGo ⟨qM, trivial⟩ ?_
                  refine make_rule (t := 35) (d := I false []) a.length rfl rfl (by omega) (by omega) fun lr hlr => ?_
                  refine eGo ⟨qM, trivial⟩ ?_
                  refine buildSlice_fact (size := 1) (n := 1) [lr] [.one lr] rfl rfl (by decide) (by decide) ⟨Reads.one hlr.one, rfl, trivial⟩ fun q3 => ?_
                  refine eGo ⟨qM, trivial⟩ ?_
                  first | refine append_one (size := 1) (n := i) (el' := fun y => [Dat.one (su' i)].getD y (.one undef)) (e' := fun y => .one (su' y)) 6 rfl hs.vu (Knw.fact qM) eu (by omega) (by omega) fun vu' hvu' => ?_ | refine append_one (size := 1) (n := i) (el' := fun y => [Dat.one (su' i)].getD y (.one undef)) (e' := fun y => .one (su' y)) 7 rfl hs.vu (Knw.fact qM) eu (by omega) (by omega) fun vu' hvu' => ?_
                  refine eGo ⟨qM, trivial⟩ ?_
                  refine append_one (size := 1) (n := i) (el' := fun y => [Dat.one lr].getD y (.one undef)) (e' := fun y => .one (if y < i then s.sl y else lr)) 10 rfl hs.vl (Knw.fact qM) (fun y _ => by by_cases e : y < i <;> simp [e]) (by omega) (by omega) fun vl' hvl' => ?_
                  refine eGo ⟨qM, trivial⟩ ?_
                  refine field_ptr ?_
                  refine field_ptr ?_
                  refine store4 3 0 rfl rfl (by decide) hvb'.one (by kernel_rfl) ?_
                  refine field_ptr ?_
                  refine field_ptr ?_
                  refine store4 3 1 rfl rfl (by decide) hvu'.one (by kernel_rfl) ?_
                  refine field_ptr ?_
                  refine store4 3 3 rfl rfl (by decide) hvl'.one (by kernel_rfl) ?_
                  exact again (lr, vb', vu', vl') ⟨hlr, hvb', hvu', hvl'⟩ trivial qF (Seals.sub qD)
            · refine ord_split 10 26 (by kernel_rfl) (by kernel_rfl) (by kernel_rfl) ?_ ?_
              · refine ord_split 18 26 (by kernel_rfl) (by kernel_rfl) (by kernel_rfl) ?_ ?_
                · refine ordE_go [own4 (ptr0 s.r 0) s.vb s.vu s.vd s.vl] [7, 15, 22, 24] [9, 10, 17, 18, 25, 26, 27] [] [0, 1, 2, 3, 4, 5, 6, 7, 8, 11, 12, 13, 14, 15, 16, 19, 20, 21, 22, 23, 24, 17, 9, 25, 10, 18, 26, 27, 28, 29, 30, 31, 32, 33, 34, 35, 36, 37, 38] (by kernel_rfl) (by kernel_rfl) (by kernel_rfl) ?_
                  refine field_ptr ?_
                  refine field_ptr ?_
                  refine lookD (v := s.vb) ⟨qM, trivial⟩ rfl (lookE4 0 rfl (by decide)) ?_
                  refine field_ptr ?_
                  refine field_ptr ?_
                  refine lookD (v := s.vu) ⟨qM, trivial⟩ rfl (lookE4 1 rfl (by decide)) ?_
                  refine field_ptr ?_
                  refine lookD (v := s.vl) ⟨qM, trivial⟩ rfl (lookE4 3 rfl (by decide)) ?_
                  refine lookD (v := .int .i64 a.length) ⟨qM, trivial⟩ rfl (fun _ _ _ => len_eq hsv rfl) ?_
                  refine buildSlice_fact (size := 1) (n := 1) [su' i] [.one (su' i)] rfl rfl (by decide) (by decide) ⟨Reads.one hone.one, rfl, trivial⟩ fun q2 => ?_
                  refine eGo ⟨qM, trivial⟩ ?_
                  refine buildSlice_fact (size := 1) (n := 1) [sb' i] [.one (sb' i)] rfl rfl (by decide) (by decide) ⟨Reads.one hrow.one, rfl, trivial⟩ fun q1 => ?_
                  refine eGo ⟨qM, trivial⟩ ?_
                  refine make_rule (t := 35) (d := I false []) a.length rfl rfl (by omega) (by omega) fun lr hlr => ?_
                  refine eGo ⟨qM, trivial⟩ ?_
                  first | refine append_one (size := 1) (n := i) (el' := fun y => [Dat.one (sb' i)].getD y (.one undef)) (e' := fun y => .one (sb' y)) 4 rfl hs.vb (Knw.fact qM) eb (by omega) (by omega) fun vb' hvb' => ?_ | refine append_one (size := 1) (n := i) (el' := fun y => [Dat.one (sb' i)].getD y (.one undef)) (e' := fun y => .one (sb' y)) 5 rfl hs.vb (Knw.fact qM) eb (by omega) (by omega) fun vb' hvb' => ?_
                  refine eGo ⟨qM, trivial⟩ ?_
                  first | refine append_one (size := 1) (n := i) (el' := fun y => [Dat.one (su' i)].getD y (.one undef)) (e' := fun y => .one (su' y)) 6 rfl hs.vu (Knw.fact qM) eu (by omega) (by omega) fun vu' hvu' => ?_ | refine append_one (size := 1) (n := i) (el' := fun y => [Dat.one (su' i)].getD y (.one undef)) (e' := fun y => .one (su' y)) 7 rfl hs.vu (Knw.fact qM) eu (by omega) (by omega) fun vu' hvu' => ?_
                  refine eGo ⟨qM, trivial⟩ ?_
                  refine buildSlice_fact (size := 1) (n := 1) [lr] [.one lr] rfl rfl (by decide) (by decide) ⟨Reads.one hlr.one, rfl, trivial⟩ fun q3 => ?_
                  refine eGo ⟨qM, trivial⟩ ?_
                  refine append_one (size := 1) (n := i) (el' := fun y => [Dat.one lr].getD y (.one undef)) (e' := fun y => .one (if y < i then s.sl y else lr)) 10 rfl hs.vl (Knw.fact qM) (fun y _ => by by_cases e : y < i <;> simp [e]) (by omega) (by omega) fun vl' hvl' => ?_
                  refine eGo ⟨qM, trivial⟩ ?_
                  refine field_ptr ?_
                  refine field_ptr ?_
                  refine store4 3 0 rfl rfl (by decide) hvb'.one (by kernel_rfl) ?_
                  refine field_ptr ?_
                  refine field_ptr ?_
                  refine store4 3 1 rfl rfl (by decide) hvu'.one (by kernel_rfl) ?_
                  refine field_ptr ?_
                  refine store4 3 3 rfl rfl (by decide) hvl'.one (by kernel_rfl) ?_
                  exact again (lr, vb', vu', vl') ⟨hlr, hvb', hvu', hvl'⟩ trivial qF (Seals.sub qD)
                · refine ordE_go [own4 (ptr0 s.r 0) s.vb s.vu s.vd s.vl] [7, 15, 22, 24] [9, 10, 17, 18, 25, 26, 27] [] [0, 1, 2, 3, 4, 5, 6, 7, 8, 11, 12, 13, 14, 15, 16, 19, 20, 21, 22, 23, 24, 17, 9, 25, 10, 26, 18, 27, 28, 29, 30, 31, 32, 33, 34, 35, 36, 37, 38] (by kernel_rfl) (by kernel_rfl) (by kernel_rfl) ?_
                  refine field_ptr ?_
                  refine field_ptr ?_
                  refine lookD (v := s.vb) ⟨qM, trivial⟩ rfl (lookE4 0 rfl (by decide)) ?_
                  refine field_ptr ?_
                  refine field_ptr ?_
                  refine lookD (v := s.vu) ⟨qM, trivial⟩ rfl (lookE4 1 rfl (by decide)) ?_
                  refine field_ptr ?_
                  refine lookD (v := s.vl) ⟨qM, trivial⟩ rfl (lookE4 3 rfl (by decide)) ?_
                  refine lookD (v := .int .i64 a.length) ⟨qM, trivial⟩ rfl (fun _ _ _ => len_eq hsv rfl) ?_
                  refine buildSlice_fact (size := 1) (n := 1) [su' i] [.one (su' i)] rfl rfl (by decide) (by decide) ⟨Reads.one hone.one, rfl, trivial⟩ fun q2 => ?_
                  refine eGo ⟨qM, trivial⟩ ?_
                  refine buildSlice_fact (size := 1) (n := 1) [sb' i] [.one (sb' i)] rfl rfl (by decide) (by decide) ⟨Reads.one hrow.one, rfl, trivial⟩ fun q1 => ?_
                  refine eGo ⟨qM, trivial⟩ ?_
                  refine make_rule (t := 35) (d := I false []) a.length rfl rfl (by omega) (by omega) fun lr hlr => ?_
                  refine eGo ⟨qM, trivial⟩ ?_
                  first | refine append_one (size := 1) (n := i) (el' := fun y => [Dat.one (sb' i)].getD y (.one undef)) (e' := fun y => .one (sb' y)) 4 rfl hs.vb (Knw.fact qM) eb (by omega) (by omega) fun vb' hvb' => ?_ | refine append_one (size := 1) (n := i) (el' := fun y => [Dat.one (sb' i)].getD y (.one undef)) (e' := fun y => .one (sb' y)) 5 rfl hs.vb (Knw.fact qM) eb (by omega) (by omega) fun vb' hvb' => ?_
                  refine eGo ⟨qM, trivial⟩ ?_
                  refine buildSlice_fact (size := 1) (n := 1) [lr] [.one lr] rfl rfl (by decide) (by decide) ⟨Reads.one hlr.one, rfl, trivial⟩ fun q3 => ?_
                  refine eGo ⟨qM, trivial⟩ ?_
                  first | refine append_one (size := 1) (n := i) (el' := fun y => [Dat.one (su' i)].getD y (.one undef)) (e' := fun y => .one (su' y)) 6 rfl hs.vu (Knw.fact qM) eu (by omega) (by omega) fun vu' hvu' => ?_ | refine append_one (size := 1) (n := i) (el' := fun y => [Dat.one (su' i)].getD y (.one undef)) (e' := fun y => .one (su' y)) 7 rfl hs.vu (Knw.fact qM) eu (by omega) (by omega) fun vu' hvu' => ?_
                  refine eGo ⟨qM, trivial⟩ ?_
                  refine append_one (size := 1) (n := i) (el' := fun y => [Dat.one lr].getD y (.one undef)) (e' := fun y => .one (if y < i then s.sl y else lr)) 10 rfl hs.vl (Knw.fact qM) (fun y _ => by by_cases e : y < i <;> simp [e]) (by omega) (by omega) fun vl' hvl' => ?_
                  refine eGo ⟨qM, trivial⟩ ?_
                  refine field_ptr ?_
                  refine field_ptr ?_
                  refine store4 3 0 rfl rfl (by decide) hvb'.one (by kernel_rfl) ?_
                  refine field_ptr ?_
                  refine field_ptr ?_
                  refine store4 3 1 rfl rfl (by decide) hvu'.one (by kernel_rfl) ?_
                  refine field_ptr ?_
                  refine store4 3 3 rfl rfl (by decide) hvl'.one (by kernel_rfl) ?_
                  exact again (lr, vb', vu', vl') ⟨hlr, hvb', hvu', hvl'⟩ trivial qF (Seals.sub qD)
              · refine ordE_go [own4 (ptr0 s.r 0) s.vb s.vu s.vd s.vl] [7, 15, 22, 24] [9, 10, 17, 18, 25, 26, 27] [] [0, 1, 2, 3, 4, 5, 6, 7, 8, 11, 12, 13, 14, 15, 16, 19, 20, 21, 22, 23, 24, 17, 9, 25, 26, 10, 18, 27, 28, 29, 30, 31, 32, 33, 34, 35, 36, 37, 38] (by kernel_rfl) (by kernel_rfl) (by kernel_rfl) ?_
                refine field_ptr ?_
                refine field_ptr ?_
                refine lookD (v := s.vb) ⟨qM, trivial⟩ rfl (lookE4 0 rfl (by decide)) ?_
                refine field_ptr ?_
                refine field_ptr ?_
                refine lookD (v := s.vu) ⟨qM, trivial⟩ rfl (lookE4 1 rfl (by decide)) ?_
                refine field_ptr ?_
                refine lookD (v := s.vl) ⟨qM, trivial⟩ rfl (lookE4 3 rfl (by decide)) ?_
                refine lookD (v := .int .i64 a.length) ⟨qM, trivial⟩ rfl (fun _ _ _ => len_eq hsv rfl) ?_
                refine buildSlice_fact (size := 1) (n := 1) [su' i] [.one (su' i)] rfl rfl (by decide) (by decide) ⟨Reads.one hone.one, rfl, trivial⟩ fun q2 => ?_
                refine eGo ⟨qM, trivial⟩ ?_
                refine buildSlice_fact (size := 1) (n := 1) [sb' i] [.one (sb' i)] rfl rfl (by decide) (by decide) ⟨Reads.one hrow.one, rfl, trivial⟩ fun q1 => ?_
                refine eGo ⟨qM, trivial⟩ ?_
                refine make_rule (t := 35) (d := I false []) a.length rfl rfl (by omega) (by omega) fun lr hlr => ?_
                refine eGo ⟨qM, trivial⟩ ?_
                refine buildSlice_fact (size := 1) (n := 1) [lr] [.one lr] rfl rfl (by decide) (by decide) ⟨Reads.one hlr.one, rfl, trivial⟩ fun q3 => ?_
                refine eGo ⟨qM, trivial⟩ ?_
                first | refine append_one (size := 1) (n := i) (el' := fun y => [Dat.one (sb' i)].getD y (.one undef)) (e' := fun y => .one (sb' y)) 4 rfl hs.vb (Knw.fact qM) eb (by omega) (by omega) fun vb' hvb' => ?_ | refine append_one (size := 1) (n := i) (el' := fun y => [Dat.one (sb' i)].getD y (.one undef)) (e' := fun y => .one (sb' y)) 5 rfl hs.vb (Knw.fact qM) eb (by omega) (by omega) fun vb' hvb' => ?_
                refine eGo ⟨qM, trivial⟩ ?_
                first | refine append_one (size := 1) (n := i) (el' := fun y => [Dat.one (su' i)].getD y (.one undef)) (e' := fun y => .one (su' y)) 6 rfl hs.vu (Knw.fact qM) eu (by omega) (by omega) fun vu' hvu' => ?_ | refine append_one (size := 1) (n := i) (el' := fun y => [Dat.one (su' i)].getD y (.one undef)) (e' := fun y => .one (su' y)) 7 rfl hs.vu (Knw.fact qM) eu (by omega) (by omega) fun vu' hvu' => ?_
                refine eGo ⟨qM, trivial⟩ ?_
                refine append_one (size := 1) (n := i) (el' := fun y => [Dat.one lr].getD y (.one undef)) (e' := fun y => .one (if y < i then s.sl y else lr)) 10 rfl hs.vl (Knw.fact qM) (fun y _ => by by_cases e : y < i <;> simp [e]) (by omega) (by omega) fun vl' hvl' => ?_
                refine eGo ⟨qM, trivial⟩ ?_
                refine field_ptr ?_
                refine field_ptr ?_
                refine store4 3 0 rfl rfl (by decide) hvb'.one (by kernel_rfl) ?_
                refine field_ptr ?_
                refine field_ptr ?_
                refine store4 3 1 rfl rfl (by decide) hvu'.one (by kernel_rfl) ?_
                refine field_ptr ?_
                refine store4 3 3 rfl rfl (by decide) hvl'.one (by kernel_rfl) ?_
                exact again (lr, vb', vu', vl') ⟨hlr, hvb', hvu', hvl'⟩ trivial qF (Seals.sub qD)
          · refine ord_split 9 26 (by kernel_rfl) (by kernel_rfl) (by kernel_rfl) ?_ ?_
            · refine ord_split 10 26 (by kernel_rfl) (by kernel_rfl) (by kernel_rfl) ?_ ?_
              · refine ord_split 17 25 (by kernel_rfl) (by kernel_rfl) (by kernel_rfl) ?_ ?_
                · refine ord_split 18 26 (by kernel_rfl) (by kernel_rfl) (by kernel_rfl) ?_ ?_
                  · refine ordE_go [own4 (ptr0 s.r 0) s.vb s.vu s.vd s.vl] [7, 15, 22, 24] [9, 10, 17, 18, 25, 26, 27] [] [0, 1, 2, 3, 4, 5, 6, 7, 8, 11, 12, 13, 14, 15, 16, 19, 20, 21, 22, 23, 24, 17, 25, 9, 10, 18, 26, 27, 28, 29, 30, 31, 32, 33, 34, 35, 36, 37, 38] (by kernel_rfl) (by kernel_rfl) (by kernel_rfl) ?_
                    refine field_ptr ?_
                    refine field_ptr ?_
                    refine lookD (v := s.vb) ⟨qM, trivial⟩ rfl (lookE4 0 rfl (by decide)) ?_
                    refine field_ptr ?_
                    refine field_ptr ?_
                    refine lookD (v := s.vu) ⟨qM, trivial⟩ rfl (lookE4 1 rfl (by decide)) ?_
                    refine field_ptr ?_
                    refine lookD (v := s.vl) ⟨qM, trivial⟩ rfl (lookE4 3 rfl (by decide)) ?_
                    refine lookD (v := .int .i64 a.length) ⟨qM, trivial⟩ rfl (fun _ _ _ => len_eq hsv rfl) ?_
                    refine buildSlice_fact (size := 1) (n := 1) [su' i] [.one (su' i)] rfl rfl (by decide) (by decide) ⟨Reads.one hone.one, rfl, trivial⟩ fun q2 => ?_
                    refine eGo ⟨qM, trivial⟩ ?_
                    refine make_rule (t := 35) (d := I false []) a.length rfl rfl (by omega) (by omega) fun lr hlr => ?_
                    refine eGo ⟨qM, trivial⟩ ?_
                    refine buildSlice_fact (size := 1) (n := 1) [sb' i] [.one (sb' i)] rfl rfl (by decide) (by decide) ⟨Reads.one hrow.one, rfl, trivial⟩ fun q1 => ?_
                    refine eGo ⟨qM, trivial⟩ ?_
                    first | refine append_one (size := 1) (n := i) (el' := fun y => [Dat.one (sb' i)].getD y (.one undef)) (e' := fun y => .one (sb' y)) 4 rfl hs.vb (Knw.fact qM) eb (by omega) (by omega) fun vb' hvb' => ?_ | refine append_one (size := 1) (n := i) (el' := fun y => [Dat.one (sb' i)].getD y (.one undef)) (e' := fun y => .one (sb' y)) 5 rfl hs.vb (Knw.fact qM) eb (by omega) (by omega) fun vb' hvb' => ?_
                    refine eGo ⟨qM, trivial⟩ ?_
                    first | refine append_one (size := 1) (n := i) (el' := fun y => [Dat.one (su' i)].getD y (.one undef)) (e' := fun y => .one (su' y)) 6 rfl hs.vu (Knw.fact qM) eu (by omega) (by omega) fun vu' hvu' => ?_ | refine append_one (size := 1) (n := i) (el' := fun y => [Dat.one (su' i)].getD y (.one undef)) (e' := fun y => .one (su' y)) 7 rfl hs.vu (Knw.fact qM) eu (by omega) (by omega) fun vu' hvu' => ?_
                    refine eGo ⟨qM, trivial⟩ ?_
                    refine buildSlice_fact (size := 1) (n := 1) [lr] [.one lr] rfl rfl (by decide) (by decide) ⟨Reads.one hlr.one, rfl, trivial⟩ fun q3 => ?_
                    refine eGo ⟨qM, trivial⟩ ?_
                    refine append_one (size := 1) (n := i) (el' := fun y => [Dat.one lr].getD y (.one undef)) (e' := fun y => .one (if y < i then s.sl y else lr)) 10 rfl hs.vl (Knw.fact qM) (fun y _ => by by_cases e : y < i <;> simp [e]) (by omega) (by omega) fun vl' hvl' => ?_
                    refine eGo ⟨qM, trivial⟩ ?_
                    refine field_ptr ?_
                    refine field_ptr ?_
                    refine store4 3 0 rfl rfl (by decide) hvb'.one (by kernel_rfl) ?_
                    refine field_ptr ?_
                    refine field_ptr ?_
                    refine store4 3 1 rfl rfl (by decide) hvu'.one (by kernel_rfl) ?_
                    refine field_ptr ?_
                    refine store4 3 3 rfl rfl (by decide) hvl'.one (by kernel_rfl) ?_
                    exact again (lr, vb', vu', vl') ⟨hlr, hvb', hvu', hvl'⟩ trivial qF (Seals.sub qD)
                  · refine ordE_go [own4 (ptr0 s.r 0) s.vb s.vu s.vd s.vl] [7, 15, 22, 24] [9, 10, 17, 18, 25, 26, 27] [] [0, 1, 2, 3, 4, 5, 6, 7, 8, 11, 12, 13, 14, 15, 16, 19, 20, 21, 22, 23, 24, 17, 25, 9, 10, 26, 18, 27, 28, 29, 30, 31, 32, 33, 34, 35, 36, 37, 38] (by kernel_rfl) (by kernel_rfl) (by kernel_rfl) ?_
                    refine field_ptr ?_
                    refine field_ptr ?_
                    refine lookD (v := s.vb) ⟨qM, trivial⟩ rfl (lookE4 0 rfl (by decide)) ?_
                    refine field_ptr ?_
                    refine field_ptr ?_
                    refine lookD (v := s.vu) ⟨qM, trivial⟩ rfl (lookE4 1 rfl (by decide)) ?_
                    refine field_ptr ?_
                    refine lookD (v := s.vl) ⟨qM, trivial⟩ rfl (lookE4 3 rfl (by decide)) ?_
                    refine lookD (v := .int .i64 a.length) ⟨qM, trivial⟩ rfl (fun _ _ _ => len_eq hsv rfl) ?_
                    refine buildSlice_fact (size := 1) (n := 1) [su' i] [.one (su' i)] rfl rfl (by decide) (by decide) ⟨Reads.one hone.one, rfl, trivial⟩ fun q2 => ?_
                    refine eGo ⟨qM, trivial⟩ ?_
                    refine make_rule (t := 35) (d := I false []) a.length rfl rfl (by omega) (by omega) fun lr hlr => ?_
                    refine eGo ⟨qM, trivial⟩ ?_
                    refine buildSlice_fact (size := 1) (n := 1) [sb' i] [.one (sb' i)] rfl rfl (by decide) (by decide) ⟨Reads.one hrow.one, rfl, trivial⟩ fun q1 => ?_
                    refine eGo ⟨qM, trivial⟩ ?_
                    first | refine append_one (size := 1) (n := i) (el' := fun y => [Dat.one (sb' i)].getD y (.one undef)) (e' := fun y => .one (sb' y)) 4 rfl hs.vb (Knw.fact qM) eb (by omega) (by omega) fun vb' hvb' => ?_ | refine append_one (size := 1) (n := i) (el' := fun y => [Dat.one (sb' i)].getD y (.one undef)) (e' := fun y => .one (sb' y)) 5 rfl hs.vb (Knw.fact qM) eb (by omega) (by omega) fun vb' hvb' => ?_
                    refine eGo ⟨qM, trivial⟩ ?_
                    refine buildSlice_fact (size := 1) (n := 1) [lr] [.one lr] rfl rfl (by decide) (by decide) ⟨Reads.one hlr.one, rfl, trivial⟩ fun q3 => ?_
                    refine eGo ⟨qM, trivial⟩ ?_
                    first | refine append_one (size := 1) (n := i) (el' := fun y => [Dat.one (su' i)].getD y (.one undef)) (e' := fun y => .one (su' y)) 6 rfl hs.vu (Knw.fact qM) eu (by omega) (by omega) fun vu' hvu' => ?_ | refine append_one (size := 1) (n := i) (el' := fun y => [Dat.one (su' i)].getD y (.one undef)) (e' := fun y => .one (su' y)) 7 rfl hs.vu (Knw.fact qM) eu (by omega) (by omega) fun vu' hvu' => ?_
                    refine eGo ⟨qM, trivial⟩ ?_
                    refine append_one (size := 1) (n := i) (el' := fun y => [Dat.one lr].getD y (.one undef)) (e' := fun y => .one (if y < i then s.sl y else lr)) 10 rfl hs.vl (Knw.fact qM) (fun y _ => by by_cases e : y < i <;> simp [e]) (by omega) (by omega) fun vl' hvl' => ?_
                    refine eGo ⟨qM, trivial⟩ ?_
                    refine field_ptr ?_
                    refine field_ptr ?_
                    refine store4 3 0 rfl rfl (by decide) hvb'.one (by kernel_rfl) ?_
                    refine field_ptr ?_
                    refine field_ptr ?_
                    refine store4 3 1 rfl rfl (by decide) hvu'.one (by kernel_rfl) ?_
                    refine field_ptr ?_
                    refine store4 3 3 rfl rfl (by decide) hvl'.one (by kernel_rfl) ?_
                    exact again (lr, vb', vu', vl') ⟨hlr, hvb', hvu', hvl'⟩ trivial qF (Seals.sub qD)
                · refine ord_split 18 26 (by kernel_rfl) (by kernel_rfl) (by kernel_rfl) ?_ ?_
                  · refine ordE_go [own4 (ptr0 s.r 0) s.vb s.vu s.vd s.vl] [7, 15, 22, 24] [9, 10, 17, 18, 25, 26, 27] [] [0, 1, 2, 3, 4, 5, 6, 7, 8, 11, 12, 13, 14, 15, 16, 19, 20, 21, 22, 23, 24, 25, 17, 9, 10, 18, 26, 27, 28, 29, 30, 31, 32, 33, 34, 35, 36, 37, 38] (by kernel_rfl) (by kernel_rfl) (by kernel_rfl) ?_
                    refine field_ptr ?_
                    refine field_ptr ?_
                    refine lookD (v := s.vb) ⟨qM, trivial⟩ rfl (lookE4 0 rfl (by decide)) ?_
                    refine field_ptr ?_
                    refine field_ptr ?_
                    refine lookD (v := s.vu) ⟨qM, trivial⟩ rfl (lookE4 1 rfl (by decide)) ?_
                    refine field_ptr ?_
                    refine lookD (v := s.vl) ⟨qM, trivial⟩ rfl (lookE4 3 rfl (by decide)) ?_
                    refine lookD (v := .int .i64 a.length) ⟨qM, trivial⟩ rfl (fun _ _ _ => len_eq hsv rfl) ?_
                    refine make_rule (t := 35) (d := I false []) a.length rfl rfl (by omega) (by omega) fun lr hlr => ?_
                    refine eGo ⟨qM, trivial⟩ ?_
                    refine buildSlice_fact (size := 1) (n := 1) [su' i] [.one (su' i)] rfl rfl (by decide) (by decide) ⟨Reads.one hone.one, rfl, trivial⟩ fun q2 => ?_
                    refine eGo ⟨qM, trivial⟩ ?_
                    refine buildSlice_fact (size := 1) (n := 1) [sb' i] [.one (sb' i)] rfl rfl (by decide) (by decide) ⟨Reads.one hrow.one, rfl, trivial⟩ fun q1 => ?_
                    refine eGo ⟨qM, trivial⟩ ?_
                    first | refine append_one (size := 1) (n := i) (el' := fun y => [Dat.one (sb' i)].getD y (.one undef)) (e' := fun y => .one (sb' y)) 4 rfl hs.vb (Knw.fact qM) eb (by omega) (by omega) fun vb' hvb' => ?_ | refine append_one (size := 1) (n := i) (el' := fun y => [Dat.one (sb' i)].getD y (.one undef)) (e' := fun y => .one (sb' y)) 5 rfl hs.vb (Knw.fact qM) eb (by omega) (by omega) fun vb' hvb' => ?_
                    refine eGo ⟨qM, trivial⟩ ?_
                    first | refine append_one (size := 1) (n := i) (el' := fun y => [Dat.one (su' i)].getD y (.one undef)) (e' := fun y => .one (su' y)) 6 rfl hs.vu (Knw.fact qM) eu (by omega) (by omega) fun vu' hvu' => ?_ | refine append_one (size := 1) (n := i) (el' := fun y => [Dat.one (su' i)].getD y (.one undef)) (e' := fun y => .one (su' y)) 7 rfl hs.vu (Knw.fact qM) eu (by omega) (by omega) fun vu' hvu' => ?_
                    refine eGo ⟨qM, trivial⟩ ?_
                    refine buildSlice_fact (size := 1) (n := 1) [lr] [.one lr] rfl rfl (by decide) (by decide) ⟨Reads.one hlr.one, rfl, trivial⟩ fun q3 => ?_
                    refine eGo ⟨qM, trivial⟩ ?_
                    refine append_one (size := 1) (n := i) (el' := fun y => [Dat.one lr].getD y (.one undef)) (e' := fun y => .one (if y < i then s.sl y else lr)) 10 rfl hs.vl (Knw.fact qM) (fun y _ => by by_cases e : y < i <;> simp [e]) (by omega) (by omega) fun vl' hvl' => ?_
                    refine eGo ⟨qM, trivial⟩ ?_
                    refine field_ptr ?_
                    refine field_ptr ?_
                    refine store4 3 0 rfl rfl (by decide) hvb'.one (by kernel_rfl) ?_
                    refine field_ptr ?_
                    refine field_ptr ?_
                    refine store4 3 1 rfl rfl (by decide) hvu'.one (by kernel_rfl) ?_
                    refine field_ptr ?_
                    refine store4 3 3 rfl rfl (by decide) hvl'.one (by kernel_rfl) ?_
                    exact again (lr, vb', vu', vl') ⟨hlr, hvb', hvu', hvl'⟩ trivial qF (Seals.sub qD)
                  · refine ordE_go [own4 (ptr0 s.r 0) s.vb s.vu s.vd s.vl] [7, 15, 22, 24] [9, 10, 17, 18, 25, 26, 27] [] [0, 1, 2, 3, 4, 5, 6, 7, 8, 11, 12, 13, 14, 15, 16, 19, 20, 21, 22, 23, 24, 25, 17, 9, 10, 26, 18, 27, 28, 29, 30, 31, 32, 33, 34, 35, 36, 37, 38] (by kernel_rfl) (by kernel_rfl) (by kernel_rfl) ?_
                    refine field_ptr ?_
                    refine field_ptr ?_
                    refine lookD (v := s.vb) ⟨qM, trivial⟩ rfl (lookE4 0 rfl (by decide)) ?_
                    refine field_ptr ?_
                    refine field_ptr ?_
                    refine lookD (v := s.vu) ⟨qM, trivial⟩ rfl (lookE4 1 rfl (by decide)) ?_
                    refine field_ptr ?_
                    refine lookD (v := s.vl) ⟨qM, trivial⟩ rfl (lookE4 3 rfl (by decide)) ?_
                    refine lookD (v := .int .i64 a.length) ⟨qM, trivial⟩ rfl (fun _ _ _ => len_eq hsv rfl) ?_
                    refine make_rule (t := 35) (d := I false []) a.length rfl rfl (by omega) (by omega) fun lr hlr => ?_
                    refine eGo ⟨qM, trivial⟩ ?_
                    refine buildSlice_fact (size := 1) (n := 1) [su' i] [.one (su' i)] rfl rfl (by decide) (by decide) ⟨Reads.one hone.one, rfl, trivial⟩ fun q2 => ?_
                    refine eGo ⟨qM, trivial⟩ ?_
                    refine buildSlice_fact (size := 1) (n := 1) [sb' i] [.one (sb' i)] rfl rfl (by decide) (by decide) ⟨Reads.one hrow.one, rfl, trivial⟩ fun q1 => ?_
                    refine eGo ⟨qM, trivial⟩ ?_
                    first | refine append_one (size := 1) (n := i) (el' := fun y => [Dat.one (sb' i)].getD y (.one undef)) (e' := fun y => .one (sb' y)) 4 rfl hs.vb (Knw.fact qM) eb (by omega) (by omega) fun vb' hvb' => ?_ | refine append_one (size := 1) (n := i) (el' := fun y => [Dat.one (sb' i)].getD y (.one undef)) (e' := fun y => .one (sb' y)) 5 rfl hs.vb (Knw.fact qM) eb (by omega) (by omega) fun vb' hvb' => ?_
                    refine eGo ⟨qM, trivial⟩ ?_
                    refine buildSlice_fact (size := 1) (n := 1) [lr] [.one lr] rfl rfl (by decide) (by decide) ⟨Reads.one hlr.one, rfl, trivial⟩ fun q3 => ?_
                    refine eGo ⟨qM, trivial⟩ ?_
                    first | refine append_one (size := 1) (n := i) (el' := fun y => [Dat.one (su' i)].getD y (.one undef)) (e' := fun y => .one (su' y)) 6 rfl hs.vu (Knw.fact qM) eu (by omega) (by omega) fun vu' hvu' => ?_ | refine append_one (size := 1) (n := i) (el' := fun y => [Dat.one (su' i)].getD y (.one undef)) (e' := fun y => .one (su' y)) 7 rfl hs.vu (Knw.fact qM) eu (by omega) (by omega) fun vu' hvu' => ?_
                    refine eGo ⟨qM, trivial⟩ ?_
                    refine append_one (size := 1) (n := i) (el' := fun y => [Dat.one lr].getD y (.one undef)) (e' := fun y => .one (if y < i then s.sl y else lr)) 10 rfl hs.vl (Knw.fact qM) (fun y _ => by by_cases e : y < i <;> simp [e]) (by omega) (by omega) fun vl' hvl' => ?_
                    refine eGo ⟨qM, trivial⟩ ?_
                    refine field_ptr ?_
                    refine field_ptr ?_
                    refine store4 3 0 rfl rfl (by decide) hvb'.one (by kernel_rfl) ?_
                    refine field_ptr ?_
                    refine field_ptr ?_
                    refine store4 3 1 rfl rfl (by decide) hvu'.one (by kernel_rfl) ?_
                    refine field_ptr ?_
                    refine store4 3 3 rfl rfl (by decide) hvl'.one (by kernel_rfl) ?_
                    exact again (lr, vb', vu', vl') ⟨hlr, hvb', hvu', hvl'⟩ trivial qF (Seals.sub qD)
              · refine ord_split 17 25 (by kernel_rfl) (by kernel_rfl) (by kernel_rfl) ?_ ?_
                · refine ordE_go [own4 (ptr0 s.r 0) s.vb s.vu s.vd s.vl] [7, 15, 22, 24] [9, 10, 17, 18, 25, 26, 27] [] [0, 1, 2, 3, 4, 5, 6, 7, 8, 11, 12, 13, 14, 15, 16, 19, 20, 21, 22, 23, 24, 17, 25, 9, 26, 10, 18, 27, 28, 29, 30, 31, 32, 33, 34, 35, 36, 37, 38] (by kernel_rfl) (by kernel_rfl) (by kernel_rfl) ?_
                  refine field_ptr ?_
                  refine field_ptr ?_
                  refine lookD (v := s.vb) ⟨qM, trivial⟩ rfl (lookE4 0 rfl (by decide)) ?_
                  refine field_ptr ?_
                  refine field_ptr ?_
                  refine lookD (v := s.vu) ⟨qM, trivial⟩ rfl (lookE4 1 rfl (by decide)) ?_
                  refine field_ptr ?_
                  refine lookD (v := s.vl) ⟨qM, trivial⟩ rfl (lookE4 3 rfl (by decide)) ?_
                  refine lookD (v := .int .i64 a.length) ⟨qM, trivial⟩ rfl (fun _ _ _ => len_eq hsv rfl) ?_
                  refine buildSlice_fact (size := 1) (n := 1) [su' i] [.one (su' i)] rfl rfl (by decide) (by decide) ⟨Reads.one hone.one, rfl, trivial⟩ fun q2 => ?_
                  refine eGo ⟨qM, trivial⟩ ?_
                  refine make_rule (t := 35) (d := I false []) a.length rfl rfl (by omega) (by omega) fun lr hlr => ?_
                  refine eGo ⟨qM, trivial⟩ ?_
                  refine buildSlice_fact (size := 1) (n := 1) [sb' i] [.one (sb' i)] rfl rfl (by decide) (by decide) ⟨Reads.one hrow.one, rfl, trivial⟩ fun q1 => ?_
                  refine eGo ⟨qM, trivial⟩ ?_
                  refine buildSlice_fact (size := 1) (n := 1) [lr] [.one lr] rfl rfl (by decide) (by decide) ⟨Reads.one hlr.one, rfl, trivial⟩ fun q3 => ?_
                  refine eGo ⟨qM, trivial⟩ ?_
                  first | refine append_one (size := 1) (n := i) (el' := fun y => [Dat.one (sb' i)].getD y (.one undef)) (e' := fun y => .one (sb' y)) 4 rfl hs.vb (Knw.fact qM) eb (by omega) (by omega) fun vb' hvb' => ?_ | refine append_one (size := 1) (n := i) (el' := fun y => [Dat.one (sb' i)].getD y (.one undef)) (e' := fun y => .one (sb' y)) 5 rfl hs.vb (Knw.fact qM) eb (by omega) (by omega) fun vb' hvb' => ?_
                  refine eGo ⟨qM, trivial⟩ ?_
                  first | refine append_one (size := 1) (n := i) (el' := fun y => [Dat.one (su' i)].getD y (.one undef)) (e' := fun y => .one (su' y)) 6 rfl hs.vu (Knw.fact qM) eu (by omega) (by omega) fun vu' hvu' => ?_ | refine append_one (size := 1) (n := i) (el' := fun y => [Dat.one (su' i)].getD y (.one undef)) (e' := fun y => .one (su' y)) 7 rfl hs.vu (Knw.fact qM) eu (by omega) (by omega) fun vu' hvu' => ?_
                  refine eGo ⟨qM, trivial⟩ ?_
                  refine append_one (size := 1) (n := i) (el' := fun y => [Dat.one lr].getD y (.one undef)) (e' := fun y => .one (if y < i then s.sl y else lr)) 10 rfl hs.vl (Knw.fact qM) (fun y _ => by by_cases e : y < i <;> simp [e]) (by omega) (by omega) fun vl' hvl' => ?_
                  refine eGo ⟨qM, trivial⟩ ?_
                  refine field_ptr ?_
                  refine field_ptr ?_
                  refine store4 3 0 rfl rfl (by decide) hvb'.one (by kernel_rfl) ?_
                  refine field_ptr ?_
                  refine field_ptr ?_
                  refine store4 3 1 rfl rfl (by decide) hvu'.one (by kernel_rfl) ?_
                  refine field_ptr ?_
                  refine store4 3 3 rfl rfl (by decide) hvl'.one (by kernel_rfl) ?_
                  exact again (lr, vb', vu', vl') ⟨hlr, hvb', hvu', hvl'⟩ trivial qF (Seals.sub qD)
                · refine ordE_go [own4 (ptr0 s.r 0) s.vb s.vu s.vd s.vl] [7, 15, 22, 24] [9, 10, 17, 18, 25, 26, 27] [] [0, 1, 2, 3, 4, 5, 6, 7, 8, 11, 12, 13, 14, 15, 16, 19, 20, 21, 22, 23, 24, 25, 17, 9, 26, 10, 18, 27, 28, 29, 30, 31, 32, 33, 34, 35, 36, 37, 38] (by kernel_rfl) (by kernel_rfl) (by kernel_rfl) ?_
                  refine field_ptr ?_
                  refine field_ptr ?_
                  refine lookD (v := s.vb) ⟨qM, trivial⟩ rfl (lookE4 0 rfl (by decide)) ?_
                  refine field_ptr ?_
                  refine field_ptr ?_
                  refine lookD (v := s.vu) ⟨qM, trivial⟩ rfl (lookE4 1 rfl (by decide)) ?_
                  refine field_ptr ?_
                  refine lookD (v := s.vl) ⟨qM, trivial⟩ rfl (lookE4 3 rfl (by decide)) ?_
                  refine lookD (v := .int .i64 a.length) ⟨qM, trivial⟩ rfl (fun _ _ _ => len_eq hsv rfl) ?_
                  refine make_rule (t := 35) (d := I false []) a.length rfl rfl (by omega) (by omega) fun lr hlr => ?_
                  refine eGo ⟨qM, trivial⟩ ?_
                  refine buildSlice_fact (size := 1) (n := 1) [su' i] [.one (su' i)] rfl rfl (by decide) (by decide) ⟨Reads.one hone.one, rfl, trivial⟩ fun q2 => ?_
                  refine eGo ⟨qM, trivial⟩ ?_
                  refine buildSlice_fact (size := 1) (n := 1) [sb' i] [.one (sb' i)] rfl rfl (by decide) (by decide) ⟨Reads.one hrow.one, rfl, trivial⟩ fun q1 => ?_
                  refine eGo ⟨qM, trivial⟩ ?_
                  refine buildSlice_fact (size := 1) (n := 1) [lr] [.one lr] rfl rfl (by decide) (by decide) ⟨Reads.one hlr.one, rfl, trivial⟩ fun q3 => ?_
                  refine eGo ⟨qM, trivial⟩ ?_
                  first | refine append_one (size := 1) (n := i) (el' := fun y => [Dat.one (sb' i)].getD y (.one undef)) (e' := fun y => .one (sb' y)) 4 rfl hs.vb (Knw.fact qM) eb (by omega) (by omega) fun vb' hvb' => ?_ | refine append_one (size := 1) (n := i) (el' := fun y => [Dat.one (sb' i)].getD y (.one undef)) (e' := fun y => .one (sb' y)) 5 rfl hs.vb (Knw.fact qM) eb (by omega) (by omega) fun vb' hvb' => ?_
                  refine eGo ⟨qM, trivial⟩ ?_
                  first | refine append_one (size := 1) (n := i) (el' := fun y => [Dat.one (su' i)].getD y (.one undef)) (e' := fun y => .one (su' y)) 6 rfl hs.vu (Knw.fact qM) eu (by omega) (by omega) fun vu' hvu' => ?_ | refine append_one (size := 1) (n := i) (el' := fun y => [Dat.one (su' i)].getD y (.one undef)) (e' := fun y => .one (su' y)) 7 rfl hs.vu (Knw.fact qM) eu (by omega) (by omega) fun vu' hvu' => ?_
                  refine eGo ⟨qM, trivial⟩ ?_
                  refine append_one (size := 1) (n := i) (el' := fun y => [Dat.one lr].getD y (.one undef)) (e' := fun y => .one (if y < i then s.sl y else lr)) 10 rfl hs.vl (Knw.fact qM) (fun y _ => by by_cases e : y < i <;> simp [e]) (by omega) (by omega) fun vl' hvl' => ?_
                  refine eGo ⟨qM, trivial⟩ ?_
                  refine field_ptr ?_
                  refine field_ptr ?_
                  refine store4 3 0 rfl rfl (by decide) hvb'.one (by kernel_rfl) ?_
                  refine field_ptr ?_
                  refine field_ptr ?_
                  refine store4 3 1 rfl rfl (by decide) hvu'.one (by kernel_rfl) ?_
                  refine field_ptr ?_
                  refine store4 3 3 rfl rfl (by decide) hvl'.one (by kernel_rfl) ?_
                  exact again (lr, vb', vu', vl') ⟨hlr, hvb', hvu', hvl'⟩ trivial qF (Seals.sub qD)
            · refine ord_split 17 25 (by kernel_rfl) (by kernel_rfl) (by kernel_rfl) ?_ ?_
              · refine ordE_go [own4 (ptr0 s.r 0) s.vb s.vu s.vd s.vl] [7, 15, 22, 24] [9, 10, 17, 18, 25, 26, 27] [] [0, 1, 2, 3, 4, 5, 6, 7, 8, 11, 12, 13, 14, 15, 16, 19, 20, 21, 22, 23, 24, 17, 25, 26, 9, 10, 18, 27, 28, 29, 30, 31, 32, 33, 34, 35, 36, 37, 38] (by kernel_rfl) (by kernel_rfl) (by kernel_rfl) ?_
                refine field_ptr ?_
                refine field_ptr ?_
                refine lookD (v := s.vb) ⟨qM, trivial⟩ rfl (lookE4 0 rfl (by decide)) ?_
                refine field_ptr ?_
                refine field_ptr ?_
                refine lookD (v := s.vu) ⟨qM, trivial⟩ rfl (lookE4 1 rfl (by decide)) ?_
                refine field_ptr ?_
                refine lookD (v := s.vl) ⟨qM, trivial⟩ rfl (lookE4 3 rfl (by decide)) ?_
                refine lookD (v := .int .i64 a.length) ⟨qM, trivial⟩ rfl (fun _ _ _ => len_eq hsv rfl) ?_
                refine buildSlice_fact (size := 1) (n := 1) [su' i] [.one (su' i)] rfl rfl (by decide) (by decide) ⟨Reads.one hone.one, rfl, trivial⟩ fun q2 => ?_
                refine eGo ⟨qM, trivial⟩ ?_
                refine make_rule (t := 35) (d := I false []) a.length rfl rfl (by omega) (by omega) fun lr hlr => ?_
                refine eGo ⟨qM, trivial⟩ ?_
                refine buildSlice_fact (size := 1) (n := 1) [lr] [.one lr] rfl rfl (by decide) (by decide) ⟨Reads.one hlr.one, rfl, trivial⟩ fun q3 => ?_
                refine eGo ⟨qM, trivial⟩ ?_
                refine buildSlice_fact (size := 1) (n := 1) [sb' i] [.one (sb' i)] rfl rfl (by decide) (by decide) ⟨Reads.one hrow.one, rfl, trivial⟩ fun q1 => ?_
                refine eGo ⟨qM, trivial⟩ ?_
                first | refine append_one (size := 1) (n := i) (el' := fun y => [Dat.one (sb' i)].getD y (.one undef)) (e' := fun y => .one (sb' y)) 4 rfl hs.vb (Knw.fact qM) eb (by omega) (by omega) fun vb' hvb' => ?_ | refine append_one (size := 1) (n := i) (el' := fun y => [Dat.one (sb' i)].getD y (.one undef)) (e' := fun y => .one (sb' y)) 5 rfl hs.vb (Knw.fact qM) eb (by omega) (by omega) fun vb' hvb' => ?_
                refine eGo ⟨qM, trivial⟩ ?_
                first | refine append_one (size := 1) (n := i) (el' := fun y => [Dat.one (su' i)].getD y (.one undef)) (e' := fun y => .one (su' y)) 6 rfl hs.vu (Knw.fact qM) eu (by omega) (by omega) fun vu' hvu' => ?_ | refine append_one (size := 1) (n := i) (el' := fun y => [Dat.one (su' i)].getD y (.one undef)) (e' := fun y => .one (su' y)) 7 rfl hs.vu (Knw.fact qM) eu (by omega) (by omega) fun vu' hvu' => ?_
                refine eGo ⟨qM, trivial⟩ ?_
                refine append_one (size := 1) (n := i) (el' := fun y => [Dat.one lr].getD y (.one undef)) (e' := fun y => .one (if y < i then s.sl y else lr)) 10 rfl hs.vl (Knw.fact qM) (fun y _ => by by_cases e : y < i <;> simp [e]) (by omega) (by omega) fun vl' hvl' => ?_
                refine eGo ⟨qM, trivial⟩ ?_
                refine field_ptr ?_
                refine field_ptr ?_
                refine store4 3 0 rfl rfl (by decide) hvb'.one (by kernel_rfl) ?_
                refine field_ptr ?_
                refine field_ptr ?_
                refine store4 3 1 rfl rfl (by decide) hvu'.one (by kernel_rfl) ?_
                refine field_ptr ?_
                refine store4 3 3 rfl rfl (by decide) hvl'.one (by kernel_rfl) ?_
                exact again (lr, vb', vu', vl') ⟨hlr, hvb', hvu', hvl'⟩ trivial qF (Seals.sub qD)
              · refine ord_split 17 26 (by kernel_rfl) (by kernel_rfl) (by kernel_rfl) ?_ ?_
                · refine ordE_go [own4 (ptr0 s.r 0) s.vb s.vu s.vd s.vl] [7, 15, 22, 24] [9, 10, 17, 18, 25, 26, 27] [] [0, 1, 2, 3, 4, 5, 6, 7, 8, 11, 12, 13, 14, 15, 16, 19, 20, 21, 22, 23, 24, 25, 17, 26, 9, 10, 18, 27, 28, 29, 30, 31, 32, 33, 34, 35, 36, 37, 38] (by kernel_rfl) (by kernel_rfl) (by kernel_rfl) ?_
                  refine field_ptr ?_
                  refine field_ptr ?_
                  refine lookD (v := s.vb) ⟨qM, trivial⟩ rfl (lookE4 0 rfl (by decide)) ?_
                  refine field_ptr ?_
                  refine field_ptr ?_
                  refine lookD (v := s.vu) ⟨qM, trivial⟩ rfl (lookE4 1 rfl (by decide)) ?_
                  refine field_ptr ?_
                  refine lookD (v := s.vl) ⟨qM, trivial⟩ rfl (lookE4 3 rfl (by decide)) ?_
                  refine lookD (v := .int .i64 a.length) ⟨qM, trivial⟩ rfl (fun _ _ _ => len_eq hsv rfl) ?_
                  refine make_rule (t := 35) (d := I false []) a.length rfl rfl (by omega) (by omega) fun lr hlr => ?_
                  refine eGo ⟨qM, trivial⟩ ?_
                  refine buildSlice_fact (size := 1) (n := 1) [su' i] [.one (su' i)] rfl rfl (by decide) (by decide) ⟨Reads.one hone.one, rfl, trivial⟩ fun q2 => ?_
                  refine eGo ⟨qM, trivial⟩ ?_
                  refine buildSlice_fact (size := 1) (n := 1) [lr] [.one lr] rfl rfl (by decide) (by decide) ⟨Reads.one hlr.one, rfl, trivial⟩ fun q3 => ?_
                  refine eGo ⟨qM, trivial⟩ ?_
                  refine buildSlice_fact (size := 1) (n := 1) [sb' i] [.one (sb' i)] rfl rfl (by decide) (by decide) ⟨Reads.one hrow.one, rfl, trivial⟩ fun q1 => ?_
                  refine eGo ⟨qM, trivial⟩ ?_
                  first | refine append_one (size := 1) (n := i) (el' := fun y => [Dat.one (sb' i)].getD y (.one undef)) (e' := fun y => .one (sb' y)) 4 rfl hs.vb (Knw.fact qM) eb (by omega) (by omega) fun vb' hvb' => ?_ | refine append_one (size := 1) (n := i) (el' := fun y => [Dat.one (sb' i)].getD y (.one undef)) (e' := fun y => .one (sb' y)) 5 rfl hs.vb (Knw.fact qM) eb (by omega) (by omega) fun vb' hvb' => ?_
                  refine eGo ⟨qM, trivial⟩ ?_
                  first | refine append_one (size := 1) (n := i) (el' := fun y => [Dat.one (su' i)].getD y (.one undef)) (e' := fun y => .one (su' y)) 6 rfl hs.vu (Knw.fact qM) eu (by omega) (by omega) fun vu' hvu' => ?_ | refine append_one (size := 1) (n := i) (el' := fun y => [Dat.one (su' i)].getD y (.one undef)) (e' := fun y => .one (su' y)) 7 rfl hs.vu (Knw.fact qM) eu (by omega) (by omega) fun vu' hvu' => ?_
                  refine eGo ⟨qM, trivial⟩ ?_
                  refine append_one (size := 1) (n := i) (el' := fun y => [Dat.one lr].getD y (.one undef)) (e' := fun y => .one (if y < i then s.sl y else lr)) 10 rfl hs.vl (Knw.fact qM) (fun y _ => by by_cases e : y < i <;> simp [e]) (by omega) (by omega) fun vl' hvl' => ?_
                  refine eGo ⟨qM, trivial⟩ ?_
                  refine field_ptr ?_
                  refine field_ptr ?_
                  refine store4 3 0 rfl rfl (by decide) hvb'.one (by kernel_rfl) ?_
                  refine field_ptr ?_
                  refine field_ptr ?_
                  refine store4 3 1 rfl rfl (by decide) hvu'.one (by kernel_rfl) ?_
                  refine field_ptr ?_
                  refine store4 3 3 rfl rfl (by decide) hvl'.one (by kernel_rfl) ?_
                  exact again (lr, vb', vu', vl') ⟨hlr, hvb', hvu', hvl'⟩ trivial qF (Seals.sub qD)
                · refine ordE_go [own4 (ptr0 s.r 0) s.vb s.vu s.vd s.vl] [7, 15, 22, 24] [9, 10, 17, 18, 25, 26, 27] [] [0, 1, 2, 3, 4, 5, 6, 7, 8, 11, 12, 13, 14, 15, 16, 19, 20, 21, 22, 23, 24, 25, 26, 17, 9, 10, 18, 27, 28, 29, 30, 31, 32, 33, 34, 35, 36, 37, 38] (by kernel_rfl) (by kernel_rfl) (by kernel_rfl) ?_
                  refine field_ptr ?_
                  refine field_ptr ?_
                  refine lookD (v := s.vb) ⟨qM, trivial⟩ rfl (lookE4 0 rfl (by decide)) ?_
                  refine field_ptr ?_
                  refine field_ptr ?_
                  refine lookD (v := s.vu) ⟨qM, trivial⟩ rfl (lookE4 1 rfl (by decide)) ?_
                  refine field_ptr ?_
                  refine lookD (v := s.vl) ⟨qM, trivial⟩ rfl (lookE4 3 rfl (by decide)) ?_
                  refine lookD (v := .int .i64 a.length) ⟨qM, trivial⟩ rfl (fun _ _ _ => len_eq hsv rfl) ?_
                  refine make_rule (t := 35) (d := I false []) a.length rfl rfl (by omega) (by omega) fun lr hlr => ?_
                  refine eGo ⟨qM, trivial⟩ ?_
                  refine buildSlice_fact (size := 1) (n := 1) [lr] [.one lr] rfl rfl (by decide) (by decide) ⟨Reads.one hlr.one, rfl, trivial⟩ fun q3 => ?_
                  refine eGo ⟨qM, trivial⟩ ?_
                  refine buildSlice_fact (size := 1) (n := 1) [su' i] [.one (su' i)] rfl rfl (by decide) (by decide) ⟨Reads.one hone.one, rfl, trivial⟩ fun q2 => ?_
                  refine eGo ⟨qM, trivial⟩ ?_
                  refine buildSlice_fact (size := 1) (n := 1) [sb' i] [.one (sb' i)] rfl rfl (by decide) (by decide) ⟨Reads.one hrow.one, rfl, trivial⟩ fun q1 => ?_
                  refine eGo ⟨qM, trivial⟩ ?_
                  first | refine append_one (size := 1) (n := i) (el' := fun y => [Dat.one (sb' i)].getD y (.one undef)) (e' := fun y => .one (sb' y)) 4 rfl hs.vb (Knw.fact qM) eb (by omega) (by omega) fun vb' hvb' => ?_ | refine append_one (size := 1) (n := i) (el' := fun y => [Dat.one (sb' i)].getD y (.one undef)) (e' := fun y => .one (sb' y)) 5 rfl hs.vb (Knw.fact qM) eb (by omega) (by omega) fun vb' hvb' => ?_
                  refine eGo ⟨qM, trivial⟩ ?_
                  first | refine append_one (size := 1) (n := i) (el' := fun y => [Dat.one (su' i)].getD y (.one undef)) (e' := fun y => .one (su' y)) 6 rfl hs.vu (Knw.fact qM) eu (by omega) (by omega) fun vu' hvu' => ?_ | refine append_one (size := 1) (n := i) (el' := fun y => [Dat.one (su' i)].getD y (.one undef)) (e' := fun y => .one (su' y)) 7 rfl hs.vu (Knw.fact qM) eu (by omega) (by omega) fun vu' hvu' => ?_
                  refine eGo ⟨qM, trivial⟩ ?_
                  refine append_one (size := 1) (n := i) (el' := fun y => [Dat.one lr].getD y (.one undef)) (e' := fun y => .one (if y < i then s.sl y else lr)) 10 rfl hs.vl (Knw.fact qM) (fun y _ => by by_cases e : y < i <;> simp [e]) (by omega) (by omega) fun vl' hvl' => ?_
                  refine eGo ⟨qM, trivial⟩ ?_
                  refine field_ptr ?_
                  refine field_ptr ?_
                  refine store4 3 0 rfl rfl (by decide) hvb'.one (by kernel_rfl) ?_
                  refine field_ptr ?_
                  refine field_ptr ?_
                  refine store4 3 1 rfl rfl (by decide) hvu'.one (by kernel_rfl) ?_
                  refine field_ptr ?_
                  refine store4 3 3 rfl rfl (by decide) hvl'.one (by kernel_rfl) ?_
                  exact again (lr, vb', vu', vl') ⟨hlr, hvb', hvu', hvl'⟩ trivial qF (Seals.sub qD)
      rintro ⟨lr, vb', vu', vl'⟩ ⟨hlr, hvb', hvu', hvl'⟩
      simp only at hlr hvb' hvu' hvl' ⊢
      obtain ⟨sl', e5, e6⟩ : ∃ f : Nat → Value, f i = lr ∧ ∀ y, y < i → f y = s.sl y := ⟨fun y => if y = i then lr else s.sl y, if_pos rfl, fun y hy => if_neg (by omega)⟩
      subst e5
      have hsn : BS.ok ⟨s.r, vb', vu', s.vd, vl', sb', su', sl'⟩ (i + 1) := ⟨hvb', hvu', hs.vd, hvl', fun y hy => by
          by_cases e : y < i
          · show isSl (sb' y); rw [e2 y e]; exact hs.sb y e
          · show isSl (sb' y); rw [show y = i by omega]; exact hrow, fun y hy => by
          by_cases e : y < i
          · show isSl (su' y); rw [e4 y e]; exact hs.su y e
          · show isSl (su' y); rw [show y = i by omega]; exact hone, fun y hy => by
          by_cases e : y < i
          · show isSl (sl' y); rw [e6 y e]; exact hs.sl y e
          · show isSl (sl' y); rw [show y = i by omega]; exact hlr⟩
      refine ar rfl qI ?_
      refine loop_rule (X := Nat × Nat × BS) (fun x => ([(0, v), (3, ptr0 x.2.2.r 0), (4, .int .i64 (i : Nat)), (5, x.2.2.sb i), (15, .int .i64 (a.length : Nat)), (16, .int .i64 (i : Nat)), (75, .int .i64 ((i + 1 : Nat) : Nat)), (76, .int .i64 (x.1 : Nat))],
          bak x.2.2 C a.length (i + 1) x.2.1 (rawJ a) uniJ (dG G) (ltb C (rvm a) i x.1) [], [(v, W a)]))
        (fun x => x.1 ≤ i + 1 ∧ x.2.1 = i + 1 + (x.1 - i) ∧ x.2.2.ok (i + 1) ∧ ∀ t, t < x.2.1 → 0 < dG G t) (fun x => i + 1 - x.1) rfl ?_ ?_
      · refine again (0, i + 1, ⟨s.r, vb', vu', s.vd, vl', sb', su', sl'⟩) ⟨Nat.zero_le _, by simp only; omega, hsn, fun t ht => hpos t (by simp only at ht; omega)⟩ trivial qF ?_
        refine Seals.trans (Seals.own_cong (os := [_, _, _, _, _, _, _, _, _, _, _]) 10 (fun y => .one (sl' y)) rfl rfl (fun y hy => ?_)) (Seals.trans (Seals.pick [2, 4, 0, 1, 3, 5, 6, 7, 8, 9, 10] 11 rfl (by decide))
          (Seals.trans (Seals.join (F' := famJ sb' (i + 1) C (rawJ a)) rfl rfl rfl (fun y hy => ⟨e2 y hy, rfl, fun _ _ => rfl⟩) ⟨rfl, rfl, fun c hc => ?_⟩) (Seals.trans (Seals.pick [2, 5, 0, 1, 3, 4, 6, 7, 8, 9] 10 rfl (by decide))
          (Seals.trans (Seals.join (F' := famJ su' (i + 1) a.length uniJ) rfl rfl rfl (fun y hy => ⟨e4 y hy, rfl, fun _ _ => rfl⟩) ⟨rfl, rfl, fun c hc => ?_⟩) (Seals.trans (Seals.pick [2, 7, 0, 1, 3, 4, 5, 6, 8] 9 rfl (by decide))
          (Seals.trans (Seals.join (F' := famZ sl' (i + 1) a.length (ltb C (rvm a) i 0)) rfl rfl rfl (fun y hy => ⟨e6 y hy, rfl, fun _ _ => rfl⟩) ⟨rfl, rfl, fun c hc => ?_⟩) (Seals.trans (Seals.pick [3, 2, 4, 1, 5, 6, 0, 7] 8 rfl (by decide)) (Seals.sub qS))))))))
        · by_cases e : y < i
          · rw [if_pos e, e6 y e]
          · rw [if_neg e, show y = i by omega]
        · show J (rawJ a i c) = if c < C then _ else _
          rw [if_pos hc]; rfl
        · show J (uniJ i c) = upd (fun _ => I false []) i (zd 1) c
          unfold uniJ upd
          split <;> rfl
        · show J (cn (ltb C (rvm a) i 0 i c)) = I false []
          unfold ltb
          rw [if_neg (by omega), cn0]; rfl
      · rintro ⟨j, dn, s⟩ ⟨hj, hdn, hs, hps⟩
        simp only at hj hdn hs hps ⊢
        refine cmp_split _ rfl (fun hc => ?_) (fun hc => ?_)
        · have hji : j ≤ i := by omega
          refine field_ptr ?_
          refine field_ptr ?_
          refine ld4b 0 rfl rfl ?_
          refine index_elem 2 rfl hs.vb j rfl (by omega) ?_
          refine load_one_elem 2 rfl j (by omega) (u := s.sb j) rfl ?_
          refine dot_call 1 i j rfl (by omega) (by omega) hs.sb (k := k) (fun x c _ _ => hrx x c) (by omega) (by omega) fun x1 => ?_
          refine alloc_rule (d := I false []) fun xb hxb => ?_
          refine store_box (d := zd (mi G 0 i j)) 0 rfl hxb rfl (by kernel_rfl) (by rw [← e0 i j]; exact Reads.fact qM) ?_
          refine loop_rule (X := Nat) (fun t => ([(0, v), (3, ptr0 s.r 0), (4, .int .i64 (i : Nat)), (5, s.sb i), (7, .int .i64 (j : Nat)), (8, xb), (15, .int .i64 (a.length : Nat)), (16, .int .i64 (i : Nat)), (75, .int .i64 ((i + 1 : Nat) : Nat)), (76, .int .i64 (j : Nat)), (89, .int .i64 (j : Nat)), (90, .int .i64 (t : Nat))],
              own1 xb 2 1 (fun _ => zd (mi G t i j)) :: bak s C a.length (i + 1) dn (rawJ a) uniJ (dG G) (ltb C (rvm a) i j) [], [(v, W a)])) (fun t => t ≤ j) (fun t => j - t) rfl ?_ ?_
          · exact again 0 (Nat.zero_le _) trivial qF (Seals.trans (Seals.box0 rfl) (Seals.sub (fs' := [(v, W a)]) qS))
          · rintro t ht
            refine cmp_split _ rfl (fun hlt => ?_) (fun hlt => ?_)
            · have htj : t < j := by omega
              have g0 := hdz t (by omega)
              have g1 := hdz (t + 1) (by omega)
              have m1 := hmz t i j (by omega)
              have m2 := hmz t i t (by omega)
              have m3 := hmz t j t (by omega)
              have n0 : dG G t ≠ 0 := by have := hps t (by omega); omega
              have hq := fun z y => lquot_meets z y (dG G (t + 1) * mi G t i j - mi G t i t * mi G t j t) (dG G t) _ _ (sz_sub (g1.mul m1) (m2.mul m3)) g0 (by decide) (by decide) n0
              rw [hstep t i j n0] at hq
              refine draw_rule [0, 1, 2, 3, 4, 5, 6, 7, 8, 10, 11, 12, 13, 14, 15, 16, 17, 18, 19, 20, 21, 22, 23, 24, 25, 26, 27, 28, 29, 32, 33, 34, 35, 36, 37, 38, 9, 30, 31, 39, 40] [0, 1, 2, 3, 4, 5, 6, 7, 8, 9, 10, 11, 12, 13, 14, 15, 16, 17, 18, 19, 20, 21, 22, 23, 24, 25, 26, 27, 28, 29, 30, 31, 32, 33, 34, 35, 36, 37, 38, 39, 40] (by kernel_rfl) (by kernel_rfl) ?_
              refine field_ptr ?_
              refine ld4d 1 rfl rfl ?_
              refine ar rfl qI ?_
              refine index_elem 6 rfl hs.vd (t + 1) (by omega) (by omega) ?_
              refine load_elem' (d := zd (dG G (t + 1))) 6 rfl (t + 1) (by omega) rfl (load_I _ _) fun y1 => ?_
              refine load_box (d := zd (mi G t i j)) 0 rfl hxb rfl (load_I _ _) fun y2 => ?_
              refine field_ptr ?_
              refine ld4l 1 rfl rfl ?_
              refine index_elem 8 rfl hs.vl (i) (by omega) (by omega) ?_
              refine load_one_elem 8 rfl (i) (by omega) (u := s.sl (i)) rfl ?_
              refine index_fj 7 (i) rfl (by omega) (hs.sl (i) (by omega)) (t) (by omega) (by omega) ?_
              refine load_fj 7 i t rfl (by omega) (by omega) (cn (mi G t i t)) (by unfold ltb; rw [if_pos (by omega), hlm]) fun y3 => ?_
              refine field_ptr ?_
              refine ld4l 1 rfl rfl ?_
              refine index_elem 8 rfl hs.vl (j) (by omega) (by omega) ?_
              refine load_one_elem 8 rfl (j) (by omega) (u := s.sl (j)) rfl ?_
              refine index_fj 7 (j) rfl (by omega) (hs.sl (j) (by omega)) (t) (by omega) (by omega) ?_
              refine load_fj 7 j t rfl (by omega) (by omega) (cn (mi G t j t)) (by unfold ltb; rw [if_pos (by omega), hlm]) fun y4 => ?_
              refine field_ptr ?_
              refine ld4d 1 rfl rfl ?_
              refine index_elem 6 rfl hs.vd t (by omega) (by omega) ?_
              refine load_elem' (d := zd (dG G t)) 6 rfl t (by omega) rfl (load_I _ _) fun y5 => ?_
              refine call_fn (zMulZ y1 y2 (dG G (t + 1)) (mi G t i j) _ _ g1 m1 (by decide) (by decide)) (Seals.refl _ _) qS ?_
              rintro z1 _ _ ⟨rfl, rfl⟩
              refine call_fn (zMulZ y3 y4 (mi G t i t) (mi G t j t) _ _ m2 m3 (by decide) (by decide)) (Seals.refl _ _) qS ?_
              rintro z2 _ _ ⟨rfl, rfl⟩
              refine call_fn (zSubZ z1 z2 _ _ _ _ (g1.mul m1) (m2.mul m3) (by decide) (by decide)) (Seals.refl _ _) qS ?_
              rintro z3 _ _ ⟨rfl, rfl⟩
              refine call_fn (hq z3 y5) (Seals.refl _ _) qS ?_
              rintro z4 _ _ ⟨rfl, rfl⟩
              refine store_box (d := zd (mi G (t + 1) i j)) 0 rfl hxb rfl (by kernel_rfl) ?_ ?_; exact Reads.fact qM
              refine ar rfl qI ?_
              exact again (t + 1) (by omega) (by simp only; omega) qF (Seals.trans (Seals.box0 rfl) (Seals.sub (fs' := [(v, W a)]) qS))
            · have htj : t = j := by omega
              subst htj
              refine cmp_split _ rfl (fun hlt2 => ?_) (fun hlt2 => ?_)
              · have hti : t < i := by omega
                refine draw_rule [0, 1, 2, 3, 4, 5, 6, 7, 8, 9, 10] [0, 1, 2, 3, 4, 5, 6, 7, 8, 9, 10] (by kernel_rfl) (by kernel_rfl) ?_
                refine field_ptr ?_
                refine ld4l 1 rfl rfl ?_
                refine index_elem 8 rfl hs.vl (i) (by omega) (by omega) ?_
                refine load_one_elem 8 rfl (i) (by omega) (u := s.sl (i)) rfl ?_
                refine load_box (d := zd (mi G t i t)) 0 rfl hxb rfl (load_I _ _) fun y2 => ?_
                refine index_fj 7 (i) rfl (by omega) (hs.sl (i) (by omega)) (t) (by omega) (by omega) ?_
                refine store_fj 7 i t rfl (by omega) (by omega) (cn (mi G t i t)) (fun x y => cn (ltb C (rvm a) i (t + 1) x y)) (Reads.fact (d := zd (mi G t i t)) qM) (fun x y hx hy => ?_) ?_
                · by_cases e : x = i ∧ y = t
                  · rw [if_pos e, e.1, e.2]; unfold ltb; rw [if_pos (by omega), hlm]
                  · rw [if_neg e]; unfold ltb
                    by_cases e2 : y < x ∧ (x < i ∨ y < t)
                    · rw [if_pos e2, if_pos (by omega)]
                    · rw [if_neg e2, if_neg (by omega)]
                refine ar rfl qI ?_
                exact again (t + 1, dn, s) ⟨by simp only; omega, by simp only; omega, hs, hps⟩ (by simp only; omega) qF (Seals.trans (Seals.drop 0 _ _) (Seals.sub (fs' := [(v, W a)]) qS))
              · have hti : t = i := by omega
                subst hti
                have hms := hmz t t t (by omega)
                refine load_box (d := zd (mi G t t t)) 0 rfl hxb rfl (load_I _ _) fun y2 => ?_
                refine call_fn (zSignZ y2 _ _ hms (by decide)) (Seals.refl _ _) qS ?_
                rintro _ _ _ ⟨rfl, rfl, rfl⟩
                refine cmp_split _ rfl (fun h0 => ?_) (fun h0 => ?_)
                · have h0' : mi G t t t = 0 := Int.sign_eq_zero_iff_zero.1 h0
                  refine fin (.inl ⟨fun hI => ?_, rfl, rfl, rfl⟩) (by repeat (first | exact Seals.nil _ _ | refine Seals.trans (Seals.drop 0 _ _) ?_))
                  have h9 := hI (t + 1) (by omega)
                  rw [hdm, dG_succ, h0'] at h9
                  omega
                · have h0' : mi G t t t ≠ 0 := fun e => h0 (by rw [e]; rfl)
                  have hp1 : 0 < dG G (t + 1) := by
                    have h8 := hnn t
                    rw [hdm, hdm] at h8
                    have h7 := hps t (by omega)
                    have h6 : dG G (t + 1) ≠ 0 := by rw [dG_succ]; exact h0'
                    by_cases h5 : dG G (t + 1) < 0
                    · have := Int.mul_neg_of_pos_of_neg h7 h5
                      omega
                    · omega
                  refine draw_rule [0, 1, 2, 3, 4, 5, 6, 7, 8, 9, 10] [0, 1, 2, 3, 4, 5, 6, 7, 8, 9, 10] (by kernel_rfl) (by kernel_rfl) ?_
                  refine field_ptr ?_
                  refine ld4d 1 rfl rfl ?_
                  refine load_box (d := zd (mi G t t t)) 0 rfl hxb rfl (load_I _ _) fun y3 => ?_
                  refine lit_L (size := 2) J z0 (cn (mi G t t t)) (by decide) (Reads.fact (d := zd (mi G t t t)) qM) rfl fun l1 => ?_
                  refine append_one (size := 2) (n := dn) (el' := fun y => J ([cn (mi G t t t)].getD y z0)) (e' := fun y => zd (dG G y)) 6 rfl hs.vd (Knw.fact qM) (fun y hy => ?_) (by omega) (by omega) fun vd2 hvd2 => ?_
                  · by_cases hyj : y < dn
                    · rw [if_pos hyj]
                    · rw [if_neg hyj, show y = t + 1 by omega, dG_succ]; rfl
                  refine field_ptr ?_
                  refine store4 1 2 rfl rfl (by decide) hvd2.one (by kernel_rfl) ?_
                  refine ar rfl qI ?_
                  refine again (t + 1, dn + 1, { s with vd := vd2 }) ⟨by simp only; omega, by simp only; omega, ⟨hs.vb, hs.vu, hvd2, hs.vl, hs.sb, hs.su, hs.sl⟩, fun y hy => by
                    by_cases e : y < dn
                    · exact hps y e
                    · rw [show y = t + 1 by simp only at hy; omega]; exact hp1⟩ (by simp only; omega) qF (Seals.trans (Seals.drop 0 _ _) (Seals.trans (Seals.fjcong (vs := s.sl) (vs' := s.sl) (x := fun x y => cn (ltb C (rvm a) t t x y)) (x' := fun x y => cn (ltb C (rvm a) t (t + 1) x y)) (os := [_, _, _, _, _, _, _, _]) 6 rfl (fun x => x) (fun x hx => ⟨hx, rfl, fun y hy => ?_⟩) (fun _ _ _ _ e => e)) (Seals.sub qS)))
                  show cn _ = cn _
                  congr 1
                  unfold ltb
                  by_cases e : y < x
                  · rw [if_pos (by omega), if_pos (by omega)]
                  · rw [if_neg (fun h => e h.1), if_neg (fun h => e h.1)]
        · have hji : j = i + 1 := by omega
          subst hji
          have hd2 : dn = i + 1 + 1 := by omega
          subst hd2
          refine ar rfl qI ?_
          refine again (i + 1, s) ⟨by simp only; omega, hs, fun t ht => hps t (by simp only at ht; omega)⟩ (by simp only; omega) qF (Seals.trans (Seals.fjcong (vs := s.sl) (vs' := s.sl) (x := fun x y => cn (ltb C (rvm a) i (i + 1) x y)) (x' := fun x y => cn (ltb C (rvm a) (i + 1) 0 x y)) (os := [_, _, _, _, _, _, _, _]) 6 rfl (fun x => x) (fun x hx => ⟨hx, rfl, fun y hy => ?_⟩) (fun _ _ _ _ e => e)) (Seals.sub qS))
          show cn _ = cn _
          congr 1
          unfold ltb
          by_cases e : y < x
          · rw [if_pos (by omega), if_pos (by omega)]
          · rw [if_neg (fun h => e h.1), if_neg (fun h => e h.1)]
    · have hin : i = a.length := by omega
      subst hin
      subst hG
      exact fin (.inr ⟨fun t ht => hpos t ht, s, hs, rfl, rfl, rfl⟩) (Seals.sub (fs' := []) qS)
end Go.Proofs.YtabdfhdddmbmlaaGreat
namespace Go.Proofs.YtabdfhdddmbmlaaGreat
section
variable {m n : Nat} {b : Mx}
def comb (n : Nat) (c : Nat → Int) (b : Mx) : Nat → Int := fun x => isum (fun i => c i * b i x) n
theorem ip_comb (c : Nat → Int) (u : Nat → Int) : ip m u (comb n c b) = isum (fun i => c i * ip m u (b i)) n := by
  unfold ip comb
  rw [isum_congr (g' := fun x => isum (fun i => c i * (u x * b i x)) n) fun x _ => by rw [← isum_mul]; exact isum_congr fun i _ => by grind]
  rw [isum_swap]
  exact isum_congr fun i _ => isum_mul _ _ _
end
open Go.RowKit
def Rq (R C : Nat) (x : Jx) (B : Mx) (k0 : Nat) : Prop := ∀ i c, i < R → c < C → jv (x i c) = B i c ∧ Lim (x i c).2 ∧ ((x i c).2.length ≤ k0 ∨ x i c = cn (B i c))
theorem Rq.rp {R C : Nat} {x : Jx} {B : Mx} {k0 K : Nat} (h : Rq R C x B k0) (hz : ∀ i c, i < R → c < C → sz (B i c) K) (hk : k0 ≤ K) : Rp R C x B K := fun i c hi hc => by
  obtain ⟨h1, h2, h3⟩ := h i c hi hc
  refine ⟨h1, h2, ?_⟩
  rcases h3 with h3 | h3
  · omega
  · rw [h3]; exact (hz i c hi hc).len
theorem Rq.red {R C : Nat} {x x2 : Jx} {B : Mx} {k0 k j : Nat} {q : Int} (h : Rq R C x B k0) (hk : k < R) (hj : j < R) (h2 : x2 = x ∧ q = 0 ∨ x2 = mid x k j q C) : Rq R C x2 (redq B k j q) k0 := by
  rcases h2 with ⟨rfl, rfl⟩ | rfl
  · rw [redq_zero]; exact h
  · intro i c hi hc
    unfold mid redq
    by_cases e : i = k
    · rw [if_pos ⟨e, hc⟩, if_pos e, jv_cn, (h k c hk hc).1, (h j c hj hc).1]
      exact ⟨rfl, Lim_lims _, .inr rfl⟩
    · rw [if_neg (fun h => e h.1), if_neg e]
      exact h i c hi hc
theorem Rq.swb {R C : Nat} {x : Jx} {B : Mx} {k0 p : Nat} (h : Rq R C x B k0) (hp : p + 1 < R) : Rq R C (fun i c => x (sx p i) c) (swb B p) k0 := fun i c hi hc => h (sx p i) c (sx_lt hp hi) hc
structure Sv (m n : Nat) (a : Mx) (D K k0 : Nat) (x y : Jx) (d : Nat → Int) (l : Mx) (B U : Mx) : Prop where
  lb : LB a m n D K B U
  rb : Rq n m x B k0
  ru : Rq n n y U k0
  hd : ∀ t, t ≤ n → d t = dm m B t
  hl : ∀ i t, t < i → i < n → l i t = lm m B i t
section
variable {m n : Nat} {a : Mx} {D K k0 A Z : Nat} {x y : Jx} {d : Nat → Int} {l : Mx} {B U : Mx}
structure Szs (m n : Nat) (a : Mx) (D K k0 A Z : Nat) : Prop where
  hm : m ≤ 1048576
  hn : n ≤ 1048575
  ha : ∀ i c, i < n → c < m → sz (a i c) A
  hd : dm m a n ≠ 0
  hk : k0 ≤ Z
  hz : D + K + 2 ≤ Z ∧ K + A + 1 + ((A + A + 2) * n + 1) + 1 ≤ Z
  big : Z ≤ 268435456
theorem Szs.mono {K' : Nat} (h : Szs m n a D K' k0 A Z) (hk : K ≤ K') : Szs m n a D K k0 A Z :=
  ⟨h.hm, h.hn, h.ha, h.hd, h.hk, by have := h.hz; omega, h.big⟩
theorem Sv.mono {K' : Nat} (h : Sv m n a D K k0 x y d l B U) (hk : K ≤ K') : Sv m n a D K' k0 x y d l B U :=
  ⟨⟨h.lb.ind, h.lb.dz, fun i c hi hc => (h.lb.bz i c hi hc).mono hk, h.lb.ua, h.lb.un⟩, h.rb, h.ru, h.hd, h.hl⟩
theorem Sv.dz (h : Sv m n a D K k0 x y d l B U) (t : Nat) (ht : t ≤ n) : sz (d t) D := by rw [h.hd t ht]; exact h.lb.dz t ht
theorem Sv.lz (h : Sv m n a D K k0 x y d l B U) (z : Szs m n a D K k0 A Z) (i j : Nat) (hj : j < i) (hi : i < n) : sz (l i j) (D + K + 1) := by
  rw [h.hl i j hj hi]; exact h.lb.lz (by have := z.hm; omega) hi hj
theorem Sv.bp (h : Sv m n a D K k0 x y d l B U) (z : Szs m n a D K k0 A Z) : Rp n m x B Z := h.rb.rp (fun i c hi hc => (h.lb.bz i c hi hc).mono (by have := z.hz; omega)) z.hk
theorem Sv.uz (h : Sv m n a D K k0 x y d l B U) (z : Szs m n a D K k0 A Z) (i j : Nat) (hi : i < n) (hj : j < n) : sz (U i j) Z :=
  (h.lb.uz (by have := z.hm; omega) (by have := z.hn; omega) z.ha z.hd hi hj).mono z.hz.2
theorem Sv.up (h : Sv m n a D K k0 x y d l B U) (z : Szs m n a D K k0 A Z) : Rp n n y U Z := h.ru.rp (h.uz z) z.hk
theorem Sv.red {k j : Nat} {x2 y2 : Jx} (h : Sv m n a D K k0 x y d l B U) (z : Szs m n a D K k0 A Z) (hk : k < n) (hj : j < k) (hx : x2 = x ∧ rnd (l k j) (d (j + 1)) = 0 ∨ x2 = mid x k j (rnd (l k j) (d (j + 1))) m) (hy : y2 = y ∧ rnd (l k j) (d (j + 1)) = 0 ∨ y2 = mid y k j (rnd (l k j) (d (j + 1))) n) :
    Sv m n a D (D + K + K + 3) k0 x2 y2 d (lmid l d k j (rnd (l k j) (d (j + 1))) j) (redq B k j (rnd (lm m B k j) (dm m B (j + 1)))) (redq U k j (rnd (lm m B k j) (dm m B (j + 1)))) := by
  have e1 := h.hl k j hj hk
  have e2 := h.hd (j + 1) (by omega)
  rw [e1, e2] at hx hy ⊢
  have hm : m < 18446744073709551616 := by have := z.hm; omega
  refine ⟨h.lb.redq hk hj (h.lb.qz hm hk hj), h.rb.red hk (by omega) hx, h.ru.red hk (by omega) hy, fun t ht => by rw [dm_redq h.lb.ind hj ht]; exact h.hd t ht, fun i t ht hi => ?_⟩
  rw [lm_redq h.lb.ind hj ht hi]
  unfold lmid
  by_cases ei : i = k
  · rw [if_pos ei, if_pos ei]
    by_cases et : t = j
    · rw [if_pos et, if_neg (by omega), if_pos et, e1, e2]
    · rw [if_neg et]
      by_cases et2 : t < j
      · rw [if_pos et2, if_pos et2, h.hl k t (by omega) hk, h.hl j t et2 (by omega)]
      · rw [if_neg et2, if_neg et2, if_neg et, h.hl k t (by omega) hk]
  · rw [if_neg ei, if_neg ei, h.hl i t ht hi]
theorem Sv.turn {k : Nat} (h : Sv m n a D K k0 x y d l B U) (h1 : 1 ≤ k) (hk : k < n) (hf : ¬ farL m B k) :
    Sv m n a D K k0 (fun i c => x (sx (k - 1) i) c) (fun i c => y (sx (k - 1) i) c) (tdd d l k) (trw d l k n) (swb B (k - 1)) (swb U (k - 1)) := by
  obtain ⟨p, rfl⟩ : ∃ p, k = p + 1 := ⟨k - 1, by omega⟩
  rw [Nat.add_sub_cancel]
  have hi := h.lb.ind
  have e0 := h.hd p (by omega)
  have e1 := h.hd (p + 1) (by omega)
  have e2 := h.hd (p + 2) (by omega)
  have el := h.hl (p + 1) p (by omega) hk
  have n1 : dm m B (p + 1) ≠ 0 := by have := hi (p + 1) (by omega); omega
  have n2 : dm m B (p + 2) ≠ 0 := by have := hi (p + 2) (by omega); omega
  have hT : tD d l (p + 1) = mi (gr m B) p (p + 1) (p + 1) := by
    unfold tD
    rw [Nat.add_sub_cancel, e0, e1, e2, el, ← dd hi hk, Int.mul_ediv_cancel_left _ n1]
  have hlb := h.lb.swb (k := p + 1) (by omega) hk hf
  rw [Nat.add_sub_cancel] at hlb
  have hN1 : ∀ i, p + 1 < i → i < n → tN1 d l (p + 1) i = lm m (swb B p) i (p + 1) := fun i g1 g2 => by
    unfold tN1
    rw [Nat.add_sub_cancel, e1, e2, el, h.hl i p (by omega) g2, h.hl i (p + 1) g1 g2, ← lm_swb_one hi hk g1 g2, Int.mul_ediv_cancel_left _ n1]
  refine ⟨hlb, h.rb.swb hk, h.ru.swb hk, fun t ht => ?_, fun i t ht hi' => ?_⟩
  · unfold tdd
    rw [dm_swb hi hk ht]
    split
    · exact hT
    · exact h.hd t ht
  · unfold trw
    by_cases c1 : p + 1 < i
    · rw [if_pos ⟨c1, hi'⟩]
      by_cases c2 : t = p + 1
      · rw [if_pos c2, hN1 i c1 hi', c2]
      · rw [if_neg c2, Nat.add_sub_cancel]
        by_cases c3 : t = p
        · rw [if_pos c3]
          unfold tN2
          rw [hN1 i c1 hi', hT, Nat.add_sub_cancel, e2, el, h.hl i (p + 1) c1 hi', ← lm_swb_two hi hk c1 hi', Int.mul_ediv_cancel_left _ n2, c3]
        · rw [if_neg c3, lm_swb hi hk ht hi', if_neg (by omega), if_neg c3, if_neg c2, sx_high (by omega), h.hl i t ht hi']
    · rw [if_neg (fun h => c1 h.1), Nat.add_sub_cancel]
      unfold tsw
      by_cases c2 : i = p + 1
      · subst c2
        by_cases c3 : t < p
        · rw [if_pos ⟨rfl, c3⟩, Nat.add_sub_cancel, lm_swb hi hk ht hi', if_neg (by omega), if_neg (by omega), if_neg (by omega), sx_at', h.hl p t c3 (by omega)]
        · rw [if_neg (fun h => c3 h.2), if_neg (by omega), lm_swb hi hk ht hi', if_pos (by omega), show t = p by omega, el]
      · rw [if_neg (fun h => c2 h.1), Nat.add_sub_cancel]
        by_cases c4 : i = p
        · subst c4
          rw [if_pos (by omega), lm_swb hi hk ht hi', if_neg (by omega), if_neg (by omega), if_neg (by omega), sx_at, h.hl (i + 1) t (by omega) hk]
        · rw [if_neg (fun h => c4 h.1), lm_swb hi hk ht hi', if_neg (by omega), if_neg (by omega), if_neg (by omega), sx_low (by omega), h.hl i t ht hi']
theorem Sv.far {k : Nat} (h : Sv m n a D K k0 x y d l B U) (h1 : 1 ≤ k) (hk : k < n) : decide (farN d l k) = decide (farL m B k) := by
  refine decide_eq_decide.2 ?_
  unfold farN farL
  rw [h.hd k (by omega), h.hd (k + 1) (by omega), h.hd (k - 1) (by omega), h.hl k (k - 1) (by omega) hk]
end
open Go.RowKit
def lD (k n : Nat) : Nat := (k + k + 2) * n + 1
def lK (k n : Nat) : Nat := n * (lD k n + 1) + k
theorem mm_one_left {n : Nat} (A : Mx) {i : Nat} (c : Nat) (hi : i < n) : mm n one A i c = A i c := by
  unfold mm
  rw [isum_one (r := i) hi fun s _ hs => by unfold one; rw [if_neg (fun e => hs e.symm), Int.zero_mul]]
  unfold one; rw [if_pos rfl, Int.one_mul]
theorem Sv.start {a : List Row} {k : Nat} (hf : Fits k a) (lc : (a.getD 0 []).length ≤ 1048576) (ln : a.length ≤ 1024) (hI : Ind (a.getD 0 []).length a.length (rvm a)) :
    Sv (a.getD 0 []).length a.length (rvm a) (lD k a.length) (lK k a.length) k (rawJ a) uniJ (dm (a.getD 0 []).length (rvm a)) (ltb (a.getD 0 []).length (rvm a) a.length 0) (rvm a) one := by
  have hg : ∀ i j, sz (gr (a.getD 0 []).length (rvm a) i j) (k + k + 1) := gmx_sz hf lc
  refine ⟨⟨hI, fun t ht => ?_, fun i c _ _ => (rv_sz (hf.get i) c).mono (by unfold lK; omega), fun i c hi _ => mm_one_left _ c hi, .inl (det_one _)⟩, fun i c _ _ => ?_, fun i c _ _ => ?_, fun _ _ => rfl, fun i t h1 h2 => ?_⟩
  · unfold dm dG
    refine (det_sz t (by omega) (k := k + k + 1) fun x y _ _ => hg _ _).mono ?_
    have : (k + k + 1 + 1) * t ≤ (k + k + 2) * a.length := Nat.mul_le_mul (by omega) ht
    unfold lD; omega
  · exact ⟨rfl, ((hf.get i).get c).1, .inl ((hf.get i).get c).2⟩
  · have e : uniJ i c = cn (one i c) := by
      unfold uniJ one
      by_cases h : c = i
      · rw [if_pos h, if_pos h.symm]
      · rw [if_neg h, if_neg (fun e => h e.symm), cn0]
    rw [e, jv_cn]
    exact ⟨rfl, Lim_lims _, .inr rfl⟩
  · unfold ltb
    rw [if_pos ⟨h1, .inl h2⟩]
def lsm (m : Nat) (b : Mx) (k j : Nat) : Prop := ((lm m b k j).natAbs : Int) * 2 ≤ dm m b (j + 1)
def lrdc (m n : Nat) (b : Mx) : Prop := Ind m n b ∧ ∀ k, 1 ≤ k → k < n → (∀ j, j < k → lsm m b k j) ∧ farL m b k
theorem lReduced_meets (v : Value) (a : List Row) (k : Nat) (hf : Fits k a) (hk : k ≤ 1048576) (ln : a.length ≤ 1024) (lc : (a.getD 0 []).length ≤ 1048576) (hD : lD k a.length + lK k a.length + 2 ≤ 268435456) :
    Meets Tryz.prog 11 [v] [(v, W a)] (fun r os fs => os = [] ∧ fs = [] ∧ ∃ p : Bool, (p = true ↔ right a ∧ lrdc (a.getD 0 []).length a.length (rvm a)) ∧ r = .tuple #[.bool p, .int .i64 (if right a then 0 else 1)]) := by
  refine meets_of_vc Tryz.func11 (by kernel_rfl) rfl (by kernel_rfl) (Nat.le_of_ble_eq_true rfl) ?_
  refine call_fn (mRight_meets v a) (Seals.refl _ _) qS ?_
  rintro _ _ _ ⟨rfl, rfl, rfl⟩
  by_cases hr : right a
  case neg =>
    rw [decide_eq_false hr, if_neg hr]
    exact fin ⟨rfl, rfl, false, ⟨fun h => by simp at h, fun h => absurd h.1 hr⟩, rfl⟩ (Seals.nil _ _)
  rw [decide_eq_true hr, if_pos hr]
  refine call_fn (lmade_meets v a k hf hr hk ln lc) (Seals.refl _ _) qS ?_
  rintro _ _ _ (⟨hI, rfl, rfl, rfl⟩ | ⟨hI, s, hs, rfl, rfl, rfl⟩)
  · refine eq_ptr ?_
    exact fin ⟨rfl, rfl, false, ⟨fun h => by simp at h, fun h => absurd h.2.1 hI⟩, rfl⟩ (Seals.nil _ _)
  have hv := Sv.start hf lc ln hI
  have hn1 := hr.1
  generalize hC : (a.getD 0 []).length = C at *
  generalize dm C (rvm a) = d at *
  generalize ltb C (rvm a) a.length 0 = l at *
  have hdz := hv.dz
  have hlz : ∀ i j, j < i → i < a.length → sz (l i j) (lD k a.length + lK k a.length + 1) := fun i j h1 h2 => by
    rw [hv.hl i j h1 h2]; exact hv.lb.lz (by omega) h2 h1
  generalize hDD : lD k a.length = D at *
  generalize hKK : lK k a.length = K at *
  refine eq_ptr ?_
  refine loop_rule (X := Nat) (fun i => ([(0, v), (4, ptr0 s.r 0), (5, .int .i64 (i : Nat))], bas s C a.length (rawJ a) uniJ d l [], [(v, W a)]))
    (fun i => 1 ≤ i ∧ i ≤ a.length ∧ ∀ t, 1 ≤ t → t < i → (∀ j, j < t → lsm C (rvm a) t j) ∧ farL C (rvm a) t) (fun i => a.length - i) rfl ?_ ?_
  · exact again 1 ⟨Nat.le_refl _, hn1, fun t h1 h2 => by omega⟩ trivial qF (Seals.sub qS)
  · rintro i ⟨hi1, hi2, hb⟩
    refine len_fact (v := v) (n := a.length) qM fun _ => ?_
    refine cmp_split _ rfl (fun hc => ?_) (fun hc => ?_)
    · have hin : i < a.length := by omega
      refine loop_rule (X := Nat) (fun j => ([(0, v), (4, ptr0 s.r 0), (5, .int .i64 (i : Nat)), (20, .int .i64 (i : Nat)), (21, .int .i64 (j : Nat))], bas s C a.length (rawJ a) uniJ d l [], [(v, W a)]))
        (fun j => j ≤ i ∧ ∀ t, t < j → lsm C (rvm a) i t) (fun j => i - j) rfl ?_ ?_
      · exact again 0 ⟨Nat.zero_le _, fun t h1 => by omega⟩ trivial qF (Seals.sub qS)
      · rintro j ⟨hj, hjs⟩
        refine cmp_split _ rfl (fun hlt => ?_) (fun hlt => ?_)
        · have hji : j < i := by omega
          have g1 := hlz i j hji hin
          have g2 := hdz (j + 1) (by omega)
          have g3 : sz ((l i j).natAbs : Int) (D + K + 1) := by unfold sz at *; rw [Int.natAbs_natCast]; exact g1
          have f1 : (2 : Int) ^ far 1 = 2 := by decide
          have c2 := fun y => zShlZ y ((l i j).natAbs : Int) 1 _ g3 (by omega)
          rw [f1] at c2
          refine draw_rule [0, 1, 2, 3, 4, 5, 6, 7, 8, 9, 12, 13, 14, 15, 16, 17, 18, 19, 10, 11, 20, 21] [0, 1, 2, 3, 4, 5, 6, 7, 8, 9, 10, 11, 12, 13, 14, 15, 16, 17, 18, 19, 20, 21] (by kernel_rfl) (by kernel_rfl) ?_
          refine field_ptr ?_
          refine ld4l 0 rfl rfl ?_
          refine index_elem 7 rfl hs.vl (i) (by omega) (by omega) ?_
          refine load_one_elem 7 rfl (i) (by omega) (u := s.sl (i)) rfl ?_
          refine index_fj 6 (i) rfl (by omega) (hs.sl (i) (by omega)) (j) (by omega) (by omega) ?_
          refine load_fz 6 (i) (j) rfl (by omega) (by omega) fun y1 => ?_
          refine field_ptr ?_
          refine ld4d 0 rfl rfl ?_
          refine ar rfl qI ?_
          refine index_elem 5 rfl hs.vd (j + 1) (by omega) (by omega) ?_
          refine load_elem' (d := zd (d (j + 1))) 5 rfl (j + 1) (by omega) rfl (load_I _ _) fun y2 => ?_
          refine call_fn (zAbsZ y1 (l i j) _ g1 (by omega)) (Seals.refl _ _) qS ?_
          rintro z1 _ _ ⟨rfl, rfl⟩
          refine call_fn (c2 z1) (Seals.refl _ _) qS ?_
          rintro z2 _ _ ⟨rfl, rfl⟩
          refine call_fn (zCmpSZ z2 y2 _ _ (D + K + 1 + 1) D (g3.mul (sz_num 2 (by decide))) g2 (by omega) (by omega)) (Seals.refl _ _) qS ?_
          rintro _ _ _ ⟨rfl, rfl, rfl⟩
          have e : ((l i j).natAbs * 2 : Int) - d (j + 1) = ((lm C (rvm a) i j).natAbs : Int) * 2 - dm C (rvm a) (j + 1) := by rw [hv.hl i j hji hin, hv.hd (j + 1) (by omega)]
          rw [e]
          refine cmp_split _ rfl (fun hg => ?_) (fun hg => ?_)
          · refine fin ⟨rfl, rfl, false, ⟨fun h => by simp at h, fun h => ?_⟩, rfl⟩ ?_
            · have h1 := (h.2.2 i hi1 hin).1 j hji
              have h2 := Int.sign_pos_iff_pos' hg
              unfold lsm at h1; omega
            ·
              repeat (first | exact Seals.nil _ _ | refine Seals.trans (Seals.drop 0 _ _) ?_)
          · have hs2 : lsm C (rvm a) i j := by
              unfold lsm
              rcases Int.lt_trichotomy (((lm C (rvm a) i j).natAbs : Int) * 2 - dm C (rvm a) (j + 1)) 0 with h | h | h
              · omega
              · omega
              · rw [Int.sign_eq_one_of_pos h] at hg; omega
            refine ar rfl qI ?_
            exact again (j + 1) ⟨by omega, fun t ht => by
              by_cases e2 : t = j
              · rw [e2]; exact hs2
              · exact hjs t (by omega)⟩ (by simp only; omega) qF (Seals.sub (fs' := [(v, W a)]) qS)
        · have hji : j = i := by omega
          subst hji
          refine far_call j D (D + K + 1) hi1 hin (by omega) hs hdz hlz (by omega) (by omega) ?_
          rw [hv.far hi1 hin]
          by_cases hfar : farL C (rvm a) j
          · rw [decide_eq_true hfar]
            refine ar rfl qI ?_
            exact again (j + 1) ⟨by omega, by omega, fun t h1 h2 => by
              by_cases e2 : t = j
              · rw [e2]; exact ⟨hjs, hfar⟩
              · exact hb t h1 (by omega)⟩ (by simp only; omega) qF (Seals.sub (fs' := [(v, W a)]) qS)
          · rw [decide_eq_false hfar]
            refine fin ⟨rfl, rfl, false, ⟨fun h => by simp at h, fun h => absurd (h.2.2 j hi1 hin).2 hfar⟩, rfl⟩ ?_
            repeat (first | exact Seals.nil _ _ | refine Seals.trans (Seals.drop 0 _ _) ?_)
    · have hin : i = a.length := by omega
      refine fin ⟨rfl, rfl, true, ⟨fun _ => ⟨hr, hI, fun t h1 h2 => hb t h1 (by omega)⟩, fun _ => rfl⟩, rfl⟩ ?_
      repeat (first | exact Seals.nil _ _ | refine Seals.trans (Seals.drop 0 _ _) ?_)
where
  Int.sign_pos_iff_pos' {x : Int} (h : x.sign > 0) : 0 < x := by
    rcases Int.lt_trichotomy x 0 with e | e | e
    · rw [Int.sign_eq_neg_one_of_neg e] at h; omega
    · rw [e] at h; simp at h
    · exact e
open Go.RowKit
def kt (D K : Nat) : Nat → Nat
  | 0 => K
  | t + 1 => D + kt D K t + kt D K t + 3
theorem kt_mono {D K : Nat} : ∀ {s t : Nat}, s ≤ t → kt D K s ≤ kt D K t
  | s, 0, h => by rw [show s = 0 by omega]; exact Nat.le_refl _
  | s, t + 1, h => by
    by_cases e : s = t + 1
    · rw [e]; exact Nat.le_refl _
    · have := kt_mono (D := D) (K := K) (s := s) (t := t) (by omega)
      show kt D K s ≤ D + kt D K t + kt D K t + 3
      omega
def lZ (k n : Nat) : Nat := kt (lD k n) (lK k n) n + lD k n + k + ((k + k + 2) * n + 1) + 4
theorem lrun_step {m n f : Nat} {b u : Mx} {k : Nat} {R : Mx × Mx} (h : lrun m n f b u k = some R) (hk : k < n) :
    ∃ g, f = g + 1 ∧ (if farL m (redr m k k b u).1 k then lrun m n g (redr m k k b u).1 (redr m k k b u).2 (k + 1)
    else lrun m n g (swb (redr m k k b u).1 (k - 1)) (swb (redr m k k b u).2 (k - 1)) (max 1 (k - 1))) = some R := by
  cases f with
  | zero => simp [lrun] at h
  | succ g =>
    rw [lrun, if_neg (by omega)] at h
    exact ⟨g, rfl, h⟩
theorem lrun_end {m n f : Nat} {b u : Mx} {k : Nat} {R : Mx × Mx} (h : lrun m n f b u k = some R) (hk : n ≤ k) : R = (b, u) := by
  cases f with
  | zero => simp [lrun] at h
  | succ g =>
    rw [lrun, if_pos hk] at h
    simpa using h.symm
theorem redr_row {m k : Nat} : ∀ (j : Nat) (b u : Mx) (i c : Nat), i ≠ k → (redr m k j b u).1 i c = b i c
  | 0, _, _, _, _, _ => rfl
  | j + 1, b, u, i, c, h => by
    rw [redr_succ, redr_row j _ _ i c h]
    unfold redq; rw [if_neg h]
theorem Sv.full {m n : Nat} {a : Mx} {D K K' k0 k : Nat} {x y : Jx} {d : Nat → Int} {l : Mx} {B0 U0 B U : Mx} (h0 : LB a m n D K B0 U0) (h : Sv m n a D K' k0 x y d l B U) (hk : k < n) (hK : n * (D + 1) ≤ K)
    (he : (B, U) = redr m k k B0 U0) : Sv m n a D K k0 x y d l B U := by
  obtain ⟨w, ws⟩ := redr_full (u := U0) hk h0.ind
  have eB : B = (redr m k k B0 U0).1 := by rw [← he]
  have eU : U = (redr m k k B0 U0).2 := by rw [← he]
  rw [← eB] at w ws
  exact ⟨h0.full hk hK w ws (fun i c hi => by rw [eB]; exact redr_row k _ _ i c hi) h.lb.ua h.lb.un, h.rb, h.ru, h.hd, h.hl⟩
structure RdS where
  k : Nat
  s : BS
  b : Jx
  u : Jx
  d : Nat → Int
  l : Mx
  B : Mx
  U : Mx
  f : Nat
structure RdI where
  z : Int
  j : Nat
  b : Jx
  u : Jx
  l : Mx
  B : Mx
  U : Mx
def nrmJ (x : Jx) (i c : Nat) : Jx := fun a e => if a < i ∨ (a = i ∧ e < c) then cn (jv (x a e)) else x a e
theorem nrmJ_zero (x : Jx) : nrmJ x 0 0 = x := by
  funext a e; unfold nrmJ; rw [if_neg (by omega)]
theorem lReduce_meets (v : Value) (a : List Row) (k : Nat) (R : Mx × Mx) (hf : Fits k a) (hk : k ≤ 1048576) (ln : a.length ≤ 1024) (lc : (a.getD 0 []).length ≤ 1048576) (hZ : lZ k a.length ≤ 268435456)
    (hR : right a → Ind (a.getD 0 []).length a.length (rvm a) → ∃ f, lrun (a.getD 0 []).length a.length f (rvm a) one 1 = some R) :
    Meets Tryz.prog 10 [v] [(v, W a)] (fun r os fs => fs = [] ∧
      ((¬ right a ∧ r = .tuple #[.slice none 0 0, .slice none 0 0, .int .i64 1] ∧ os = []) ∨ (right a ∧ ¬ Ind (a.getD 0 []).length a.length (rvm a) ∧ r = .tuple #[.slice none 0 0, .slice none 0 0, .int .i64 8] ∧ os = []) ∨
       (right a ∧ Ind (a.getD 0 []).length a.length (rvm a) ∧ ∃ q w vs ws, isSl q ∧ isSl w ∧ (∀ i, i < a.length → isSl (vs i)) ∧ (∀ i, i < a.length → isSl (ws i)) ∧ r = .tuple #[q, w, .int .i64 0] ∧
        os = [famO vs a.length (a.getD 0 []).length R.1, outer q a.length vs, famO ws a.length a.length R.2, outer w a.length ws]))) := by
  refine meets_of_vc Tryz.func10 (by kernel_rfl) rfl (by kernel_rfl) (Nat.le_of_ble_eq_true rfl) ?_
  refine call_fn (mRight_meets v a) (Seals.refl _ _) qS ?_
  rintro _ _ _ ⟨rfl, rfl, rfl⟩
  by_cases hr : right a
  case neg =>
    rw [decide_eq_false hr]
    exact fin ⟨rfl, .inl ⟨hr, rfl, rfl⟩⟩ (Seals.nil _ _)
  rw [decide_eq_true hr]
  refine call_fn (lmade_meets v a k hf hr hk ln lc) (Seals.refl _ _) qS ?_
  rintro _ _ _ (⟨hI, rfl, rfl, rfl⟩ | ⟨hI, s0, hs0, rfl, rfl, rfl⟩)
  · refine eq_ptr ?_
    exact fin ⟨rfl, .inr (.inl ⟨hr, hI, rfl, rfl⟩)⟩ (Seals.nil _ _)
  have hv := Sv.start hf lc ln hI
  have hn1 := hr.1
  obtain ⟨f0, hf0⟩ := hR hr hI
  have hA : ∀ i c, sz (rvm a i c) k := fun i c => rv_sz (hf.get i) c
  have hdn : dm (a.getD 0 []).length (rvm a) a.length ≠ 0 := by have := hI a.length (Nat.le_refl _); omega
  have hnK : a.length * (lD k a.length + 1) ≤ lK k a.length := by unfold lK; omega
  have hzz : kt (lD k a.length) (lK k a.length) a.length + lD k a.length + k + ((k + k + 2) * a.length + 1) + 4 ≤ 268435456 := hZ
  generalize hC : (a.getD 0 []).length = C at *
  generalize dm C (rvm a) = d0 at hv ⊢
  generalize ltb C (rvm a) a.length 0 = l0 at *
  generalize hDD : lD k a.length = D at *
  generalize hKK : lK k a.length = K at *
  generalize hZZ : kt D K a.length + D + k + ((k + k + 2) * a.length + 1) + 4 = Z at *
  have hsz : ∀ t, t ≤ a.length → Szs C a.length (rvm a) D (kt D K t) k k Z := fun t ht => by
    have := kt_mono (D := D) (K := K) ht
    exact ⟨by omega, by omega, fun i c _ _ => hA i c, hdn, by omega, ⟨by omega, by omega⟩, hzz⟩
  have hK0 : Szs C a.length (rvm a) D K k k Z := hsz 0 (Nat.zero_le _)
  refine eq_ptr ?_
  refine loop_rule (X := RdS) (fun x => ([(0, v), (5, ptr0 x.s.r 0), (6, .int .i64 (x.k : Nat))], bas x.s C a.length x.b x.u x.d x.l [], [(v, W a)]))
    (fun x => 1 ≤ x.k ∧ x.k ≤ a.length ∧ x.s.ok a.length ∧ Sv C a.length (rvm a) D K k x.b x.u x.d x.l x.B x.U ∧ lrun C a.length x.f x.B x.U x.k = some R) (fun x => x.f) rfl ?_ ?_
  · exact again ⟨1, s0, rawJ a, uniJ, d0, l0, rvm a, one, f0⟩ ⟨Nat.le_refl _, hn1, hs0, hv, hf0⟩ trivial qF (Seals.sub qS)
  · rintro ⟨i, s, b, u, d, l, B, U, f⟩ ⟨hi1, hi2, hs, hv, hf⟩
    simp only at hi1 hi2 hs hv hf ⊢
    refine len_fact (v := v) (n := a.length) qM fun _ => ?_
    refine cmp_split _ rfl (fun hc => ?_) (fun hc => ?_)
    · have hin : i < a.length := by omega
      obtain ⟨g, rfl, hg⟩ := lrun_step hf hin
      refine ar rfl qI ?_
      refine loop_rule (X := RdI) (fun x => ([(0, v), (5, ptr0 s.r 0), (6, .int .i64 (i : Nat)), (7, .int .i64 x.z)], bas s C a.length x.b x.u d x.l [], [(v, W a)]))
        (fun x => x.z = (x.j : Int) - 1 ∧ x.j ≤ i ∧ Sv C a.length (rvm a) D (kt D K (i - x.j)) k x.b x.u d x.l x.B x.U ∧ redr C i x.j x.B x.U = redr C i i B U) (fun x => x.j) rfl ?_ ?_
      · exact again ⟨(i : Int) - 1, i, b, u, l, B, U⟩ ⟨rfl, Nat.le_refl _, by simp only [Nat.sub_self]; exact hv, rfl⟩ trivial qF (Seals.sub qS)
      · rintro ⟨z, j, b2, u2, l2, B2, U2⟩ ⟨hz, hj, hv2, he⟩
        simp only at hz hj hv2 he ⊢
        refine cmp_split _ rfl (fun hlt => ?_) (fun hlt => ?_)
        · obtain ⟨j, rfl⟩ : ∃ j', j = j' + 1 := ⟨j - 1, by omega⟩
          obtain rfl : z = (j : Int) := by omega
          have hS := hsz (i - (j + 1)) (by omega)
          have hbig := hS.hz
          refine size_call i j D (D + kt D K (i - (j + 1)) + 1) Z hin (by omega) (by omega) (by omega) hs (hv2.bp hS) (hv2.up hS) hv2.dz (fun x y h1 h2 => hv2.lz hS x y h1 h2) ?_ (by omega) (by omega) (by omega) fun r b3 u3 h3 h4 => ?_
          · rw [hv2.hd (j + 1) (by omega)]; exact hv2.lb.ind (j + 1) (by omega)
          have hv3 := hv2.red hS hin (by omega) h3 h4
          refine ar rfl qI ?_
          refine again ⟨(j : Int) - 1, j, b3, u3, lmid l2 d i j (rnd (l2 i j) (d (j + 1))) j, redq B2 i j (rnd (lm C B2 i j) (dm C B2 (j + 1))), redq U2 i j (rnd (lm C B2 i j) (dm C B2 (j + 1)))⟩ ⟨rfl, by simp only; omega, ?_, ?_⟩ (by simp only; omega) qF (Seals.sub (fs' := [(v, W a)]) qS)
          · refine hv3.mono ?_
            simp only
            rw [show i - j = (i - (j + 1)) + 1 by omega]
            exact Nat.le_refl _
          · exact he
        · obtain rfl : j = 0 := by omega
          have hv3 : Sv C a.length (rvm a) D K k b2 u2 d l2 B2 U2 := hv2.full hv.lb hin hnK he
          have eB : (redr C i i B U).1 = B2 := by rw [← he]; rfl
          have eU : (redr C i i B U).2 = U2 := by rw [← he]; rfl
          rw [eB, eU] at hg
          refine far_call i D (D + K + 1) hi1 hin (by omega) hs hv3.dz (fun x y h1 h2 => hv3.lz hK0 x y h1 h2) (by omega) (by have := hK0.hz; omega) ?_
          rw [hv3.far hi1 hin]
          by_cases hfar : farL C B2 i
          · rw [decide_eq_true hfar]
            rw [if_pos hfar] at hg
            refine ar rfl qI ?_
            exact again ⟨i + 1, s, b2, u2, d, l2, B2, U2, g⟩ ⟨by simp only; omega, by simp only; omega, hs, hv3, hg⟩ (by simp only; omega) qF (Seals.sub (fs' := [(v, W a)]) qS)
          · rw [decide_eq_false hfar]
            rw [if_neg hfar] at hg
            have n1 : d i ≠ 0 := by rw [hv3.hd i (by omega)]; have := hv3.lb.ind i (by omega); omega
            have n2 : d (i + 1) ≠ 0 := by rw [hv3.hd (i + 1) (by omega)]; have := hv3.lb.ind (i + 1) (by omega); omega
            refine turn_call i D (D + K + 1) hi1 hin (by omega) hs hv3.dz (fun x y h1 h2 => hv3.lz hK0 x y h1 h2) n1 n2 (by have := hK0.hz; omega) (by have := hK0.hz; omega) fun r => ?_
            have hv4 := hv3.turn hi1 hin hfar
            refine ar rfl qI ?_
            refine max2_rule ?_
            exact again ⟨max 1 (i - 1), s.sw (i - 1), _, _, _, _, _, _, g⟩ ⟨by simp only; omega, by simp only; omega, hs.sw (by omega), hv4, hg⟩ (by simp only; omega) qF (Seals.sub (fs' := [(v, W a)]) qS)
    · have hin : i = a.length := by omega
      have hRR := lrun_end hf (by omega)
      have hb := hv.bp hK0
      have hu := hv.up hK0
      have z1 := hs.vb
      have z2 := hs.vu
      have z3 := hs.sb
      have z4 := hs.su
      have hZb : Z ≤ 268435456 := hzz
      have e1 : ∀ i c, i < a.length → c < C → cn (jv (b i c)) = cn (R.1 i c) := fun i c h1 h2 => by rw [(hb i c h1 h2).1, hRR]
      have e2 : ∀ i c, i < a.length → c < a.length → cn (jv (u i c)) = cn (R.2 i c) := fun i c h1 h2 => by rw [(hu i c h1 h2).1, hRR]
      clear hv hf hRR hR hsz hK0 hf0 hA
      generalize hn : a.length = n at *
      refine draw_rule [0, 1, 2, 3, 4, 5, 6, 7, 8, 9, 12, 10, 11] [0, 1, 2, 3, 4, 5, 6, 7, 8, 9, 10, 11, 12] (by kernel_rfl) (by kernel_rfl) ?_
      refine field_ptr ?_
      refine field_ptr ?_
      refine ld4b 0 rfl rfl ?_
      refine field_ptr ?_
      refine field_ptr ?_
      refine ld4u 0 rfl rfl ?_
      refine buildSlice_fact (size := 1) (n := 2) [s.vb, s.vu] [.one s.vb, .one s.vu] rfl rfl (by decide) (by decide) ⟨Reads.one hs.vb.one, rfl, Reads.one hs.vu.one, rfl, trivial⟩ fun lt => ?_
      refine len_fact (n := 2) qM fun _ => ?_
      refine loop_rule (X := Nat) (fun t => ([(5, ptr0 s.r 0), (55, lt), (56, .int .i64 2), (57, .int .i64 (t : Nat))],
          bas s C n (selb b (nrmJ b n 0) t) (selu u (nrmJ u n 0) t) d l [], [(lt, .sl 1 2 fun i => [Dat.one s.vb, Dat.one s.vu].getD i (.one undef))]))
          (fun t => t ≤ 2) (fun t => 2 - t) rfl ?_ ?_
      · exact again 0 (Nat.zero_le _) trivial qF (Seals.sub qS)
      · rintro t ht
        refine cmp_split _ rfl (fun hc => ?_) (fun hc => ?_)
        · have htt : t = 0 ∨ t = 1 := by omega
          rcases htt with rfl | rfl
          ·
            refine index_fact (n := 2) qM 0 rfl (by decide) fun a1 => ?_
            refine load_one (u := s.vb) qM ?_
            refine len_own 2 rfl z1 fun _ => ?_
            refine loop_rule (X := Nat) (fun i => ([(5, ptr0 s.r 0), (55, lt), (56, .int .i64 2), (57, .int .i64 (0 : Nat)), (61, s.vb), (62, .int .i64 (n : Nat)), (63, .int .i64 (i : Nat))],
                bas s C n (nrmJ b i 0) (u) d l [], [(lt, .sl 1 2 fun i => [Dat.one s.vb, Dat.one s.vu].getD i (.one undef))]))
                (fun i => i ≤ n) (fun i => n - i) rfl ?_ ?_
            · exact again 0 (Nat.zero_le _) trivial qF (by rw [nrmJ_zero]; exact Seals.sub qS)
            rintro i hi
            refine cmp_split _ rfl (fun hlt => ?_) (fun hlt => ?_)
            · have hin : i < n := by omega
              refine index_elem 2 rfl z1 i rfl (by omega) ?_
              refine load_one_elem 2 rfl i (by omega) (u := s.sb i) rfl ?_
              refine len_fj 1 i rfl hin (z3 i hin) fun _ => ?_
              refine loop_rule (X := Nat) (fun c => ([(5, ptr0 s.r 0), (11, s.sb i), (55, lt), (56, .int .i64 2), (57, .int .i64 (0 : Nat)), (61, s.vb), (62, .int .i64 (n : Nat)), (63, .int .i64 (i : Nat)), (67, s.sb i), (68, .int .i64 (C : Nat)), (69, .int .i64 (c : Nat))],
                  bas s C n (nrmJ b i c) (u) d l [], [(lt, .sl 1 2 fun i => [Dat.one s.vb, Dat.one s.vu].getD i (.one undef))]))
                  (fun c => c ≤ C) (fun c => C - c) rfl ?_ ?_
              · exact again 0 (Nat.zero_le _) trivial qF (Seals.sub qS)
              rintro c hcm
              refine cmp_split _ rfl (fun hlt2 => ?_) (fun hlt2 => ?_)
              · have hcC : c < C := by omega
                have f1 := hb i c hin hcC
                refine index_fj 1 i rfl hin (z3 i hin) c rfl hcC ?_
                refine load_fj 1 i c rfl hin hcC (b i c) (by unfold nrmJ; rw [if_neg (by omega)]) fun y1 => ?_
                refine call_fn (znorm_meets y1 (b i c).1 (b i c).2 f1.2.1 (by omega)) (Seals.refl _ _) qS ?_
                rintro y2 _ _ ⟨rfl, rfl⟩
                refine index_fj 1 i rfl hin (z3 i hin) c rfl hcC ?_
                refine store_fj 1 i c rfl hin hcC (cn (jv (b i c))) (nrmJ b i (c + 1)) (Reads.fact (d := zd (jv (b i c))) qM) (fun a b' ha hb' => ?_) ?_
                · unfold nrmJ
                  by_cases e : a = i ∧ b' = c
                  · rw [if_pos e, if_pos (by omega), e.1, e.2]
                  · rw [if_neg e]
                    by_cases e2 : a < i ∨ (a = i ∧ b' < c)
                    · rw [if_pos e2, if_pos (by omega)]
                    · rw [if_neg e2, if_neg (by omega)]
                refine ar rfl qI ?_
                exact again (c + 1) (by omega) (by simp only; omega) qF (Seals.sub qS)
              · have hcC : c = C := by omega
                subst hcC
                refine ar rfl qI ?_
                refine again (i + 1) (by omega) (by simp only; omega) qF (Seals.trans (Seals.fjcong (vs := s.sb) (vs' := s.sb) (x := nrmJ b i c) (x' := nrmJ b (i + 1) 0) (os := [_, _, _, _, _, _, _, _]) 1 rfl (fun x => x) (fun x hx => ⟨hx, rfl, fun y hy => ?_⟩) (fun _ _ _ _ e => e)) (Seals.sub qS))
                unfold nrmJ
                by_cases e : x < i ∨ x = i
                · rw [if_pos (by omega), if_pos (by omega)]
                · rw [if_neg (by omega), if_neg (by omega)]
            · have hin : i = n := by omega
              subst hin
              refine ar rfl qI ?_
              exact again 1 (by omega) (by simp only; omega) qF (Seals.sub qS)
          ·
            refine index_fact (n := 2) qM 1 rfl (by decide) fun a1 => ?_
            refine load_one (u := s.vu) qM ?_
            refine len_own 4 rfl z2 fun _ => ?_
            refine loop_rule (X := Nat) (fun i => ([(5, ptr0 s.r 0), (55, lt), (56, .int .i64 2), (57, .int .i64 (1 : Nat)), (61, s.vu), (62, .int .i64 (n : Nat)), (63, .int .i64 (i : Nat))],
                bas s C n (nrmJ b n 0) (nrmJ u i 0) d l [], [(lt, .sl 1 2 fun i => [Dat.one s.vb, Dat.one s.vu].getD i (.one undef))]))
                (fun i => i ≤ n) (fun i => n - i) rfl ?_ ?_
            · exact again 0 (Nat.zero_le _) trivial qF (by rw [nrmJ_zero]; exact Seals.sub qS)
            rintro i hi
            refine cmp_split _ rfl (fun hlt => ?_) (fun hlt => ?_)
            · have hin : i < n := by omega
              refine index_elem 4 rfl z2 i rfl (by omega) ?_
              refine load_one_elem 4 rfl i (by omega) (u := s.su i) rfl ?_
              refine len_fj 3 i rfl hin (z4 i hin) fun _ => ?_
              refine loop_rule (X := Nat) (fun c => ([(5, ptr0 s.r 0), (11, s.su i), (55, lt), (56, .int .i64 2), (57, .int .i64 (1 : Nat)), (61, s.vu), (62, .int .i64 (n : Nat)), (63, .int .i64 (i : Nat)), (67, s.su i), (68, .int .i64 (n : Nat)), (69, .int .i64 (c : Nat))],
                  bas s C n (nrmJ b n 0) (nrmJ u i c) d l [], [(lt, .sl 1 2 fun i => [Dat.one s.vb, Dat.one s.vu].getD i (.one undef))]))
                  (fun c => c ≤ n) (fun c => n - c) rfl ?_ ?_
              · exact again 0 (Nat.zero_le _) trivial qF (Seals.sub qS)
              rintro c hcm
              refine cmp_split _ rfl (fun hlt2 => ?_) (fun hlt2 => ?_)
              · have hcC : c < n := by omega
                have f1 := hu i c hin hcC
                refine index_fj 3 i rfl hin (z4 i hin) c rfl hcC ?_
                refine load_fj 3 i c rfl hin hcC (u i c) (by unfold nrmJ; rw [if_neg (by omega)]) fun y1 => ?_
                refine call_fn (znorm_meets y1 (u i c).1 (u i c).2 f1.2.1 (by omega)) (Seals.refl _ _) qS ?_
                rintro y2 _ _ ⟨rfl, rfl⟩
                refine index_fj 3 i rfl hin (z4 i hin) c rfl hcC ?_
                refine store_fj 3 i c rfl hin hcC (cn (jv (u i c))) (nrmJ u i (c + 1)) (Reads.fact (d := zd (jv (u i c))) qM) (fun a b' ha hb' => ?_) ?_
                · unfold nrmJ
                  by_cases e : a = i ∧ b' = c
                  · rw [if_pos e, if_pos (by omega), e.1, e.2]
                  · rw [if_neg e]
                    by_cases e2 : a < i ∨ (a = i ∧ b' < c)
                    · rw [if_pos e2, if_pos (by omega)]
                    · rw [if_neg e2, if_neg (by omega)]
                refine ar rfl qI ?_
                exact again (c + 1) (by omega) (by simp only; omega) qF (Seals.sub qS)
              · have hcC : c = n := by omega
                subst hcC
                refine ar rfl qI ?_
                refine again (i + 1) (by omega) (by simp only; omega) qF (Seals.trans (Seals.fjcong (vs := s.su) (vs' := s.su) (x := nrmJ u i c) (x' := nrmJ u (i + 1) 0) (os := [_, _, _, _, _, _, _, _]) 3 rfl (fun x => x) (fun x hx => ⟨hx, rfl, fun y hy => ?_⟩) (fun _ _ _ _ e => e)) (Seals.sub qS))
                unfold nrmJ
                by_cases e : x < i ∨ x = i
                · rw [if_pos (by omega), if_pos (by omega)]
                · rw [if_neg (by omega), if_neg (by omega)]
            · have hin : i = n := by omega
              subst hin
              refine ar rfl qI ?_
              exact again 2 (by omega) (by simp only; omega) qF (Seals.sub qS)
        · have ht2 : t = 2 := by omega
          subst ht2
          refine draw_rule [0, 1, 2, 3, 4, 5, 6, 7, 8, 9, 10, 11, 12] [0, 1, 2, 3, 4, 10, 5, 6, 7, 8, 9, 11, 12] (by kernel_rfl) (by kernel_rfl) ?_
          refine field_ptr ?_
          refine field_ptr ?_
          refine ld4b 0 rfl rfl ?_
          refine field_ptr ?_
          refine field_ptr ?_
          refine ld4u 0 rfl rfl ?_
          refine fin ⟨rfl, .inr (.inr ⟨hr, hI, s.vb, s.vu, s.sb, s.su, z1, z2, z3, z4, rfl, rfl⟩)⟩ ?_
          refine Seals.trans (Seals.drop 0 _ _) (Seals.trans (Seals.drop 4 _ _) (Seals.trans (Seals.drop 4 _ _) (Seals.trans (Seals.drop 4 _ _) ?_)))
          refine Seals.trans (Seals.fjcong (vs := s.sb) (vs' := s.sb) (x := nrmJ b n 0) (x' := fun i c => cn (R.1 i c)) (os := [_, _, _, _]) 0 rfl (fun x => x) (fun x hx => ⟨hx, rfl, fun y hy => ?_⟩) (fun _ _ _ _ e => e))
            (Seals.trans (Seals.fjcong (vs := s.su) (vs' := s.su) (x := nrmJ u n 0) (x' := fun i c => cn (R.2 i c)) (os := [_, _, _, _]) 2 rfl (fun x => x) (fun x hx => ⟨hx, rfl, fun y hy => ?_⟩) (fun _ _ _ _ e => e)) (Seals.nil _ _))
          · unfold nrmJ; rw [if_pos (.inl hx)]; exact (e1 x y hx hy).symm
          · unfold nrmJ; rw [if_pos (.inl hx)]; exact (e2 x y hx hy).symm
end Go.Proofs.YtabdfhdddmbmlaaGreat
namespace Go.Proofs.YtabdfhdddmbmlaaGreat
theorem kernel_det {n : Nat} {A : Mx} {u : Nat → Int} {i : Nat} (hi : i < n) (hu : u i ≠ 0) (h : ∀ j, j < n → isum (fun i => u i * A i j) n = 0) : det n A = 0 := by
  obtain ⟨n, rfl⟩ : ∃ m, n = m + 1 := ⟨n - 1, by omega⟩
  have h1 : isum (fun j => isum (fun k => u k * A k j) (n + 1) * adj n A j i) (n + 1) = 0 := isum_zero fun k hk => by rw [h k hk]; simp
  rw [isum_congr (g' := fun j => isum (fun k => u k * (A k j * adj n A j i)) (n + 1)) fun j _ => by
    rw [← isum_mul_right]; exact isum_congr fun k _ => by grind, isum_swap,
    isum_congr (g' := fun k => u k * (if k = i then det (n + 1) A else 0)) fun k hk => by rw [isum_mul, ← mul_adj A hk hi]; rfl,
    isum_one hi fun k _ hk => by rw [if_neg hk]; simp, if_pos rfl] at h1
  rcases Int.mul_eq_zero.1 h1 with h2 | h2
  · exact absurd h2 hu
  · exact h2
theorem isum_rev (g : Nat → Int) : ∀ n, isum (fun k => g (n - 1 - k)) n = isum g n
  | 0 => rfl
  | n + 1 => by
    rw [isum_front]
    show g (n + 1 - 1 - 0) + isum (fun k => g (n + 1 - 1 - (k + 1))) n = isum g n + g n
    rw [isum_congr (g' := fun k => g (n - 1 - k)) fun k hk => by congr 1; omega, isum_rev g n]
    simp only [Nat.add_sub_cancel, Nat.sub_zero]
    omega
def sF (f : Nat → Int) (d i k : Nat) : Int := if i ≤ k ∧ k ≤ i + d then f (d + i - k) else 0
def S2 (m n : Nat) (f g : Nat → Int) : Mx := fun i k => if i < n then sF f m i k else sF g n (i - n) k
end Go.Proofs.YtabdfhdddmbmlaaGreat
