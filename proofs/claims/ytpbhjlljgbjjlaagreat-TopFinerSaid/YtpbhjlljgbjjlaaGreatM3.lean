/- Towards the statement, part 3 of 6: contracts of functions, and what they rest on. Conditions: each theorem names its own. -/
import Derived.Test.YtpbhjlljgbjjlaaGreatM2
set_option linter.unusedVariables false
set_option linter.unusedSimpArgs false
namespace Go.Proofs.YtpbhjlljgbjjlaaGreat
open Go.RowKit
def inL (l:List Nat) (i:Nat):Bool:=l.any (Nat.beq i)
def InO:List Own→List Own→Prop
 | [],_=>True
 | E::r,os=>E∈os∧InO r os
structure DoE (P:Program) (E:List Own) (f:Fr) (o:Oper) (os:List Own) (fs:List bA) (K:cE):Prop where
 out:∃ v,(∀ a:Act,KAt (eK o.op) f a→∀ G os fs w,InO E os→Holds G os fs w→(execOp a.eval o).run P w=.ok (.value v) w)∧InO E os∧K v os fs
def noB:Bool→Bool
 | true=>false
 | false=>true
def jU:Op→Bool
 | .call c=>match c.callee with
  | .value _=>true
  | _=>false
 | _=>false
theorem DoK.semD {P:Program} {f:Fr} {os:List Own} {fs:List bA} {K:cE} (o:Oper) (hc:jU o.op=true)
  (h:DoK P false f o.type os fs K o.op):∃ s,(∀ a:Act,KAt (eK o.op) f a→execOp a.eval o=s)∧Dyn P s os fs K:=by
 cases hop:o.op <;> simp only [hop,jU,Bool.false_eq_true] at hc
 rename_i c
 have hargs:∀ x,x∈c.args.toList→x∈o.op.operands.toList:=fun x hx=>by simp [hop,Op.operands,Call.operands]; exact .inr (by simpa using hx)
 cases hcl:c.callee <;> simp only [hcl,Bool.false_eq_true] at hc
 rw [hop] at h
 simp only [DoK,hcl] at h
 obtain ⟨x,h1,h⟩:=bE h
 obtain ⟨y,h2,h⟩:=eJ h
 refine ⟨_,fun a hk=>?_,h.out⟩
 rw [← hop] at hk
 unfold execOp
 simp only [hop,resolve,hcl,hk.ev (by simp [hop,Op.operands,Call.operands,hcl]) h1,fI _ _ _ (hk.evs hargs h2)]
theorem callV_dyn {o:Op} (h:jU o=true):dT o=true:=by
 cases o <;> simp only [jU,Bool.false_eq_true] at h
 rename_i c
 cases hc:c.callee <;> simp only [hc,Bool.false_eq_true] at h
 simp [dT,hc]
def andB (b:Bool) (p q:Prop):Prop :=
 match b with
 | true=>p∧q
 | false=>q
def selE (b:Bool) (p q:Prop):Prop :=
 match b with
 | true=>p
 | false=>q
noncomputable def VCE (P:Program) (L:List Oper) (E:List Own) (fl p1 sl:List Nat) (c:List Nat):Fr→List Own→List bA→jD→Prop :=
 @List.rec Nat (fun _=>Fr→List Own→List bA→jD→Prop) (fun f os fs K=>K f os fs)
  (fun i _ ih f os fs K=>match oC L i with
   | some o=>selE (inL fl i) (orF (gd L f o.guard) (DoE P E f o os fs fun v os fs=>ih (jS f o.dst v) os fs K) False)
    (orF (gd L f o.guard)
     (orV (detv f o.op) (fun v=>ih (jS f o.dst v) os fs K) (DoK P (noB (inL sl i)) f o.type os fs (fun v os fs=>andB (inL p1 i) (InO E os) (ih (jS f o.dst v) os fs K)) o.op))
     (ih (jS f o.dst undef) os fs K))
   | none=>ih f os fs K) c
theorem qW (P:Program) (L:List Oper) (E:List Own) (fl p1 sl:List Nat) (i:Nat) (c:List Nat) (f:Fr) (os:List Own) (fs:List bA) (K:jD) (o:Oper) (ho:L[i]? = some o) :
  VCE P L E fl p1 sl (i::c) f os fs K=selE (inL fl i) (orF (gd L f o.guard) (DoE P E f o os fs fun v os fs=>VCE P L E fl p1 sl c (jS f o.dst v) os fs K) False)
    (orF (gd L f o.guard)
     (orV (detv f o.op) (fun v=>VCE P L E fl p1 sl c (jS f o.dst v) os fs K) (DoK P (noB (inL sl i)) f o.type os fs (fun v os fs=>andB (inL p1 i) (InO E os) (VCE P L E fl p1 sl c (jS f o.dst v) os fs K)) o.op))
     (VCE P L E fl p1 sl c (jS f o.dst undef) os fs K)):=by
 have h:oC L i=some o:=by rw [f9,ho]
 show (match oC L i with
  | some o=>_
  | none=>_)=_
 rw [h]
 rfl
def pairE (L:List Oper) (tbl fl p1 sl:List Nat) (i:Nat) (oi:Oper) (j:Nat) (oj:Oper):Bool :=
 !Nat.beq i j && !sameD oi.dst oj.dst&&((!(hits oi.dst (cQ L oj)||hits oj.dst (cQ L oi)||dT oi.op||(dT oj.op&&inL fl i && !inL p1 j)||((sD oj.op||inL sl j) && !nO oi.op && !inL fl i)))||anc tbl i j)
def pairsE (L:List Oper) (tbl fl p1 sl:List Nat):List Nat→Bool
 | []=>true
 | i::r=>(match oC L i with
   | none=>false
   | some oi => !hits oi.dst (cQ L oi) && !(inL fl i&&dT oi.op) && !(inL sl i && !jU oi.op)&&r.all fun j=>match oC L j with
    | some oj=>pairE L tbl fl p1 sl i oi j oj
    | none=>false)&&pairsE L tbl fl p1 sl r
def ordEOK (L:List Oper) (fl p1 sl c:List Nat):Bool :=
 Nat.beq c.length L.length&&(List.range L.length).all (fun i=>c.any (Nat.beq i))&&pairsE L (iE L []) fl p1 sl c
structure mK (L:List Oper) (tbl fl p1 sl:List Nat) (c:List Nat):Prop where
 nodup:c.Nodup
 all:∀ i,i∈c↔i<L.length
 self:∀ i o,i∈c→L[i]? = some o→(∀ t,o.dst=some t→t ∉ cQ L o)∧(inL fl i=true→dT o.op=false)∧(inL sl i=true→jU o.op=true)
 pair:∀ pre i post j oi oj,c=pre++i::post→j∈post→L[i]? = some oi→L[j]? = some oj →
  (∀ t,oi.dst=some t→oj.dst≠some t)∧((∃ t,oi.dst=some t∧t∈cQ L oj)∨(∃ t,oj.dst=some t∧t∈cQ L oi)∨dT oi.op=true∨(dT oj.op=true∧inL fl i=true∧inL p1 j=false)∨((sD oj.op||inL sl j)=true∧nO oi.op=false∧inL fl i=false)→anc tbl i j=true)
theorem rV {L:List Oper} {tbl fl p1 sl:List Nat}:∀ {c:List Nat},pairsE L tbl fl p1 sl c=true →
  c.Nodup∧(∀ i,i∈c→i<L.length)∧(∀ i o,i∈c→L[i]? = some o→(∀ t,o.dst=some t→t ∉ cQ L o)∧(inL fl i=true→dT o.op=false)∧(inL sl i=true→jU o.op=true)) ∧
  ∀ pre i post j oi oj,c=pre++i::post→j∈post→L[i]? = some oi→L[j]? = some oj →
   (∀ t,oi.dst=some t→oj.dst≠some t)∧((∃ t,oi.dst=some t∧t∈cQ L oj)∨(∃ t,oj.dst=some t∧t∈cQ L oi)∨dT oi.op=true∨(dT oj.op=true∧inL fl i=true∧inL p1 j=false)∨((sD oj.op||inL sl j)=true∧nO oi.op=false∧inL fl i=false)→anc tbl i j=true)
 | [],_=>⟨List.nodup_nil,by simp,by simp,fun pre i post j oi oj h=>by simp at h⟩
 | x::r,h=>by
  simp only [pairsE,Bool.and_eq_true] at h
  obtain ⟨h1,h2⟩:=h
  obtain ⟨g1,g2,g3,g4⟩:=rV h2
  cases hx:oC L x with
  | none=>simp [hx] at h1
  | some ox =>
   simp only [hx,Bool.and_eq_true] at h1
   obtain ⟨⟨⟨h3,h3'⟩,h3''⟩,h4⟩:=h1
   have hxL:L[x]? = some ox:=by rw [← f9]; exact hx
   have hpair:∀ j,j∈r→∃ oj,oC L j=some oj∧pairE L tbl fl p1 sl x ox j oj=true:=by
    intro j hj
    have:=List.all_eq_true.1 h4 j hj
    cases hoj:oC L j with
    | none=>simp [hoj] at this
    | some oj=>simp only [hoj] at this; exact ⟨oj,rfl,this⟩
   refine ⟨List.nodup_cons.2 ⟨fun hm=>?_,g1⟩,fun i hi=>?_,fun i o hi ho=>?_,fun pre i post j oi oj hp hj hoi hoj=>?_⟩
   ·obtain ⟨oj,_,hp⟩:=hpair x hm
    simp [pairE] at hp
   ·rcases List.mem_cons.1 hi with rfl | hi
    ·exact (List.getElem?_eq_some_iff.1 hxL).1
    ·exact g2 i hi
   ·rcases List.mem_cons.1 hi with rfl | hi
    ·rw [hxL] at ho
     obtain rfl:=Option.some.inj ho
     refine ⟨fun t ht hm=>?_,fun hf=>?_,fun hf=>?_⟩
     ·rw [g7.2 ⟨t,ht,hm⟩] at h3
      cases h3
     ·rw [hf] at h3'
      cases hd:dT ox.op with
      | false=>rfl
      | true=>rw [hd] at h3'; cases h3'
     ·rw [hf] at h3''
      cases hd:jU ox.op with
      | true=>rfl
      | false=>rw [hd] at h3''; cases h3''
    ·exact g3 i o hi ho
   ·cases pre with
    | nil =>
     simp only [List.nil_append,List.cons.injEq] at hp
     obtain ⟨rfl,rfl⟩:=hp
     obtain ⟨oj',h5,h6⟩:=hpair j hj
     rw [f9,hoj] at h5
     obtain rfl:=Option.some.inj h5
     rw [hxL] at hoi
     obtain rfl:=Option.some.inj hoi
     simp only [pairE,Bool.and_eq_true,Bool.or_eq_true,Bool.not_eq_true'] at h6
     obtain ⟨⟨_,h7⟩,h8⟩:=h6
     refine ⟨fun t ht ht'=>?_,fun hc=>?_⟩
     ·rw [ht,ht'] at h7; simp [sameD] at h7
     ·rcases h8 with h8 | h8
      ·exfalso
       simp only [Bool.or_eq_false_iff] at h8
       obtain ⟨⟨⟨⟨q1,q2⟩,q3⟩,q5⟩,q4⟩:=h8
       rcases hc with hc | hc | hc | hc | hc
       ·rw [g7.2 hc] at q1; cases q1
       ·rw [g7.2 hc] at q2; cases q2
       ·rw [hc] at q3; cases q3
       ·rw [hc.1,hc.2.1,hc.2.2] at q5; cases q5
       ·rw [hc.1,hc.2.1,hc.2.2] at q4; cases q4
      ·exact h8
    | cons y pre =>
     simp only [List.cons_append,List.cons.injEq] at hp
     obtain ⟨rfl,rfl⟩:=hp
     exact g4 pre i post j oi oj rfl hj hoi hoj
theorem ordEOK_sound {L:List Oper} {fl p1 sl c:List Nat} (h:ordEOK L fl p1 sl c=true):mK L (iE L []) fl p1 sl c:=by
 simp only [ordEOK,Bool.and_eq_true] at h
 obtain ⟨⟨_,h2⟩,h3⟩:=h
 obtain ⟨g1,g2,g3,g4⟩:=rV h3
 refine ⟨g1,fun i=>⟨g2 i,fun hi=>?_⟩,g3,g4⟩
 have:=List.all_eq_true.1 h2 i (by simpa using hi)
 obtain ⟨x,hx,hb⟩:=List.any_eq_true.1 this
 have:=Nat.eq_of_beq_eq_true hb
 subst this
 exact hx
def PendE (P:Program) (L:List Oper) (tbl:List Nat) (E:List Own) (f0:Fr) (vd:List Nat) (val:Nat→Value) (k:Nat) (o:Oper):Prop :=
 ∃ fk:Fr,(∀ t v,t∈cQ L o→look fk t=some v→Src L tbl f0 vd val k t v)∧gd L fk o.guard=some true ∧
  ∀ a:Act,KAt (eK o.op) fk a→∀ G os fs w,InO E os→Holds G os fs w→(execOp a.eval o).run P w=.ok (.value (val k)) w
structure InvE (P:Program) (N:Nat) (L:List Oper) (E:List Own) (fl p1 sl:List Nat) (f0:Fr) (G:Ctx) (K:jD) (c:List Nat) (D:Nat→Prop) (vd c':List Nat) (val:Nat→Value) (vf:Fr) (os:List Own) (fs:List bA) (a:Act) (w:World):Prop where
 split:c=vd++c'
 sub:∀ i,D i→i∈vd
 clos:∀ i,D i→∀ j,gB .any L j i→D j
 defers:Marks (fun b=>G.D.1 b∧G.M b kQ) G.D.2 a.defers
 size:a.tmps.size=N
 act:∀ t v,((∃ j o,D j∧L[j]? = some o∧o.dst=some t∧val j=v)∨(look f0 t=some v∧∀ j o,D j→L[j]? = some o→o.dst≠some t))→a.tmps[t]? = some v
 virt:∀ t v,look vf t=some v→(∃ j o,j∈vd∧L[j]? = some o∧o.dst=some t∧val j=v)∨(look f0 t=some v∧∀ j o,j∈vd→L[j]? = some o→o.dst≠some t)
 pend:∀ k o,k∈vd→¬ D k→L[k]? = some o→inL fl k=false→Pend P L (iE L []) f0 vd val w k o
 pendE:∀ k o,k∈vd→¬ D k→L[k]? = some o→inL fl k=true→PendE P L (iE L []) E f0 vd val k o
 ent:∀ k,k∈vd→¬ D k→inL fl k=true→InO E os
 st:Holds G os fs w
 vc:VCE P L E fl p1 sl c' vf os fs K
section
variable {P:Program} {N:Nat} {L:List Oper} {E:List Own} {fl p1 sl:List Nat} {f0:Fr} {G:Ctx} {K:jD} {c:List Nat}
theorem srcE_next (hc:mK L (iE L []) fl p1 sl c) {vd c':List Nat} {k:Nat} {val:Nat→Value} {vf:Fr} {o:Oper} (hs:c=vd++k::c') (ho:L[k]? = some o)
  (virt:∀ t v,look vf t=some v→(∃ j o,j∈vd∧L[j]? = some o∧o.dst=some t∧val j=v)∨(look f0 t=some v∧∀ j o,j∈vd→L[j]? = some o→o.dst≠some t)) :
  ∀ t v,t∈cQ L o→look vf t=some v→Src L (iE L []) f0 vd val k t v:=by
 intro t v ht hl
 rcases virt t v hl with ⟨j,oj,h1,h2,h3,h4⟩ | ⟨h1,h2⟩
 ·left
  refine ⟨j,oj,h1,h2,h3,h4,?_⟩
  obtain ⟨pre,post,rfl⟩:=List.append_of_mem h1
  exact (hc.pair pre j (post++k::c') k oj o (by rw [hs]; simp) qP h2 ho).2 (.inl ⟨t,h3,ht⟩)
 ·right
  refine ⟨h1,fun j oj hj hd=>?_⟩
  have hjc:j∈c:=(hc.all j).2 (List.getElem?_eq_some_iff.1 hj).1
  rw [hs] at hjc
  rcases List.mem_append.1 hjc with hm | hm
  ·exact absurd hd (h2 j oj hm hj)
  ·rcases List.mem_cons.1 hm with rfl | hm
   ·rw [ho] at hj
    obtain rfl:=Option.some.inj hj
    exact absurd ht ((hc.self j o ((hc.all j).2 (List.getElem?_eq_some_iff.1 ho).1) ho).1 t hd)
   ·exact (hc.pair vd k c' j o oj hs hm ho hj).2 (.inr (.inl ⟨t,hd,ht⟩))
theorem PendE.keep {tbl:List Nat} {vd:List Nat} {val:Nat→Value} {k:Nat} {o:Oper} {u:Value} {x:Nat} (hx:x ∉ vd) (hk:k∈vd) (h:PendE P L tbl E f0 vd val k o) :
  PendE P L tbl E f0 (vd++[x]) (fT val x u) k o:=by
 have hkx:k≠x:=fun e=>hx (e ▸ hk)
 obtain ⟨fk,h1,h2,h3⟩:=h
 refine ⟨fk,fun t v ht hl=>(h1 t v ht hl).keep hx,h2,?_⟩
 simpa [fT,hkx] using h3
theorem virtE_keep {vd:List Nat} {val:Nat→Value} {vf:Fr} {x:Nat} {o:Oper} {u:Value} (hxvd:x ∉ vd) (ho:L[x]? = some o)
  (virt:∀ t v,look vf t=some v→(∃ j o,j∈vd∧L[j]? = some o∧o.dst=some t∧val j=v)∨(look f0 t=some v∧∀ j o,j∈vd→L[j]? = some o→o.dst≠some t)) :
  ∀ t v,look (jS vf o.dst u) t=some v→(∃ j o,j∈vd++[x]∧L[j]? = some o∧o.dst=some t∧fT val x u j=v)∨(look f0 t=some v∧∀ j o,j∈vd++[x]→L[j]? = some o→o.dst≠some t):=by
 intro t v hl
 have old:look vf t=some v→o.dst≠some t→(∃ j o,j∈vd++[x]∧L[j]? = some o∧o.dst=some t∧fT val x u j=v)∨(look f0 t=some v∧∀ j o,j∈vd++[x]→L[j]? = some o→o.dst≠some t):=by
  intro hl hne
  rcases virt t v hl with ⟨j,oj,h1,h2,h3,h4⟩ | ⟨h1,h2⟩
  ·refine .inl ⟨j,oj,by simp [h1],h2,h3,?_⟩
   have:j≠x:=fun e=>hxvd (e ▸ h1)
   simp [fT,this,h4]
  ·refine .inr ⟨h1,fun j oj hj hjo=>?_⟩
   rcases List.mem_append.1 hj with hj | hj
   ·exact h2 j oj hj hjo
   ·simp only [List.mem_singleton] at hj
    subst hj
    rw [ho] at hjo
    obtain rfl:=Option.some.inj hjo
    exact hne
 cases hd:o.dst with
 | none=>rw [hd] at hl; exact old hl (by rw [hd]; simp)
 | some d =>
  rw [hd] at hl
  simp only [jS,look] at hl
  cases hb:Nat.beq d t with
  | true =>
   have:=Nat.eq_of_beq_eq_true hb
   subst this
   simp only [hb,Option.some.injEq] at hl
   exact .inl ⟨x,o,by simp,ho,hd,by simp [fT,hl]⟩
  | false =>
   simp only [hb] at hl
   exact old hl (by rw [hd]; intro e; simp only [Option.some.injEq] at e; subst e; simp at hb)
theorem virtE_step (hc:mK L (iE L []) fl p1 sl c) {D:Nat→Prop} {vd c':List Nat} {k:Nat} {val:Nat→Value} {vf:Fr} {os:List Own} {fs:List bA} {a:Act} {w:World} {o:Oper}
  (h:InvE P N L E fl p1 sl f0 G K c D vd (k::c') val vf os fs a w) (ho:L[k]? = some o) (hdyn:dT o.op=false) (hp1:inL p1 k=false) :
  ∃ val' vf' fs',InvE P N L E fl p1 sl f0 G K c D (vd++[k]) c' val' vf' os fs' a w:=by
 have hnod:=hc.nodup
 rw [h.split,List.nodup_append] at hnod
 have hk:k ∉ vd:=fun hm=>hnod.2.2 k hm k qP rfl
 have src:=srcE_next hc h.split ho h.virt
 have hvc:=h.vc
 rw [qW _ _ _ _ _ _ _ _ _ _ _ _ _ ho] at hvc
 have fin:∀ (u:Value) (fs':List bA),Holds G os fs' w→VCE P L E fl p1 sl c' (jS vf o.dst u) os fs' K →
   (inL fl k=false→(gd L vf o.guard=some false∧u=undef)∨(gd L vf o.guard=some true∧∀ (a:Act) (w':World),KAt (eK o.op) vf a→(nO o.op=true∨Below w.heap.size w w')→(execOp a.eval o).run P w'=.ok (.value u) w')) →
   (inL fl k=true→InO E os∧gd L vf o.guard=some true∧∀ a:Act,KAt (eK o.op) vf a→∀ G os fs w,InO E os→Holds G os fs w→(execOp a.eval o).run P w=.ok (.value u) w) →
   ∃ val' vf' fs',InvE P N L E fl p1 sl f0 G K c D (vd++[k]) c' val' vf' os fs' a w:=by
  intro u fs' hst hv hp hpE
  refine ⟨fT val k u,jS vf o.dst u,fs',by rw [h.split]; simp,fun i hi=>by simp [h.sub i hi],h.clos,h.defers,h.size,?_,virtE_keep hk ho h.virt,?_,?_,?_,hst,hv⟩
  ·intro t v ht
   refine h.act t v ?_
   rcases ht with ⟨j,oj,h1,h2,h3,h4⟩ | ht
   ·have:j≠k:=fun e=>hk (e ▸ h.sub j h1)
    exact .inl ⟨j,oj,h1,h2,h3,by simpa [fT,this] using h4⟩
   ·exact .inr ht
  ·intro x ox hx hnD hox hfl
   rcases List.mem_append.1 hx with hx | hx
   ·exact (h.pend x ox hx hnD hox hfl).keep hk hx (.inr (Below.refl _ _))
   ·simp only [List.mem_singleton] at hx
    subst hx
    rw [ho] at hox
    obtain rfl:=Option.some.inj hox
    refine ⟨hdyn,vf,fun t v ht hl=>(src t v ht hl).keep hk,?_⟩
    rcases hp hfl with ⟨h1,h2⟩ | ⟨h1,h2⟩
    ·exact .inl ⟨h1,by simp [fT,h2]⟩
    ·exact .inr ⟨h1,fun a w' ha hb=>by simpa [fT] using h2 a w' ha hb⟩
  ·intro x ox hx hnD hox hfl
   rcases List.mem_append.1 hx with hx | hx
   ·exact (h.pendE x ox hx hnD hox hfl).keep hk hx
   ·simp only [List.mem_singleton] at hx
    subst hx
    rw [ho] at hox
    obtain rfl:=Option.some.inj hox
    obtain ⟨_,h1,h2⟩:=hpE hfl
    exact ⟨vf,fun t v ht hl=>(src t v ht hl).keep hk,h1,by simpa [fT] using h2⟩
  ·intro x hx hnD hfl
   rcases List.mem_append.1 hx with hx | hx
   ·exact h.ent x hx hnD hfl
   ·simp only [List.mem_singleton] at hx
    subst hx
    exact (hpE hfl).1
 have hsk:inL sl k=false:=by
  cases e:inL sl k with
  | false=>rfl
  | true =>
   have:=callV_dyn ((hc.self k o ((hc.all k).2 (List.getElem?_eq_some_iff.1 ho).1) ho).2.2 e)
   rw [hdyn] at this; cases this
 cases hfl:inL fl k with
 | true =>
  simp only [hfl,selE] at hvc
  cases hg:gd L vf o.guard with
  | none=>simp only [hg,orF] at hvc
  | some b =>
   cases b with
   | false=>simp only [hg,orF] at hvc
   | true =>
    simp only [hg,orF] at hvc
    obtain ⟨v,h1,h2,h3⟩:=hvc.out
    exact fin v fs h.st h3 (fun e=>by rw [hfl] at e; cases e) (fun _=>⟨h2,hg,h1⟩)
 | false =>
 have nE:∀ {p:Prop},inL fl k=true→p:=fun e=>by rw [hfl] at e; cases e
 simp only [hfl,selE] at hvc
 cases hg:gd L vf o.guard with
 | none=>simp only [hg,orF] at hvc
 | some b =>
  cases b with
  | false=>simp only [hg,orF] at hvc; exact fin undef fs h.st hvc (fun _=>.inl ⟨hg,rfl⟩) nE
  | true =>
   simp only [hg,orF] at hvc
   cases hv:detv vf o.op with
   | some v=>simp only [hv,orV] at hvc; exact fin v fs h.st hvc (fun _=>.inr ⟨hg,fun a w' ha _=>gK P ha hv w'⟩) nE
   | none =>
    simp only [hv,orV,hp1,andB,hsk,noB] at hvc
    cases hfa:isFa o.op with
    | true =>
     obtain ⟨s,hs1,hs2⟩:=fa_sem o hfa hvc
     obtain ⟨v,fs',h1,h2,h3⟩:=hs2 G w h.st
     exact fin v fs' h3 h2 (fun _=>.inr ⟨hg,fun a w' ha _=>by rw [hs1 a ha]; exact h1 w' trivial⟩) nE
    | false =>
    obtain ⟨s,hs⟩:=DoK.sem o hvc
    obtain ⟨v,fs',h1,h2,h3⟩:=hs.det hdyn G w h.st
    exact fin v fs' h3 h2 (fun _=>.inr ⟨hg,fun a w' ha hb=>by
     rcases hb with hb | hb
     ·exact (pu_dok hb hfa hvc).elim
     ·rw [hs.same a ha]; exact h1 w' hb⟩) nE
theorem dst_at {L:List Oper} {N k:Nat} {o:Oper} (hd:eO N L=true) (h:L[k]? = some o):rM N o.dst=true:=by
 induction L generalizing k with
 | nil=>simp at h
 | cons x r ih =>
  simp only [eO,Bool.and_eq_true] at hd
  cases k with
  | zero=>simp only [List.getElem?_cons_zero,Option.some.injEq] at h; subst h; exact hd.1
  | succ k=>exact ih hd.2 (by simpa using h)
theorem doE_pend (hc:mK L (iE L []) fl p1 sl c) (hdst:eO N L=true) {Q:iX} {D:Nat→Prop} {vd c':List Nat} {k:Nat} {val:Nat→Value} {vf:Fr} {os:List Own} {fs:List bA} {a:Act} {w:World} {o:Oper} {rest:List Nat}
  (h:InvE P N L E fl p1 sl f0 G K c D vd c' val vf os fs a w) (ho:L[k]? = some o) (hk:k∈vd) (hnD:¬ D k) (hready:∀ j,gB .any L j k→D j)
  (next:∀ a',InvE P N L E fl p1 sl f0 G K c (fun i=>D i∨i=k) vd c' val vf os fs a' w→dK P L.toArray (Qhat N G Q) rest a' w):dK P L.toArray (Qhat N G Q) (k::rest) a w:=by
 have hdk:=dst_at hdst ho
 have distinct:∀ j oj,D j→L[j]? = some oj→∀ t,o.dst=some t→oj.dst≠some t:=by
  intro j oj hj hjo t ht
  have hjv:=h.sub j hj
  have hne:j≠k:=fun e=>hnD (e ▸ hj)
  have hjc:j∈c:=by rw [h.split]; simp [hjv]
  have hkc:k∈c:=by rw [h.split]; simp [hk]
  obtain ⟨pre,post,hp⟩:=List.append_of_mem hjc
  rw [hp] at hkc
  rcases List.mem_append.1 hkc with hm | hm
  ·obtain ⟨pre',post',hp'⟩:=List.append_of_mem hm
   exact (hc.pair pre' k (post'++j::post) j o oj (by rw [hp,hp']; simp) qP ho hjo).1 t ht
  ·rcases List.mem_cons.1 hm with hm | hm
   ·exact absurd hm.symm hne
   ·intro hjt
    exact (hc.pair pre j post k oj o hp hm hjo ho).1 t hjt ht
 have inv':InvE P N L E fl p1 sl f0 G K c (fun i=>D i∨i=k) vd c' val vf os fs (a.put o.dst (val k)) w:=by
  refine ⟨h.split,fun i hi=>hi.elim (h.sub i) (fun e=>e ▸ hk),fun i hi j hj=>?_,?_,?_,lE hdk h.size ho distinct h.act,h.virt,fun x ox hx hnx=>h.pend x ox hx (fun hx'=>hnx (.inl hx')),fun x ox hx hnx=>h.pendE x ox hx (fun hx'=>hnx (.inl hx')),fun x hx hnx=>h.ent x hx (fun hx'=>hnx (.inl hx')),h.st,h.vc⟩
  ·rcases hi with hi | rfl
   ·exact .inl (h.clos i hi j hj)
   ·exact .inl (hready j hj)
  ·have:=h.defers; cases hd:o.dst <;> simpa [Act.put] using this
  ·cases hd:o.dst <;> simp [Act.put,h.size]
 have ho':L.toArray[k]? = some o:=by simpa using ho
 simp only [dK,ho']
 cases hfl:inL fl k with
 | true =>
  obtain ⟨fk,hsrc,hg,hrun⟩:=h.pendE k o hk hnD ho hfl
  have hkat:KAt (cQ L o) fk a:=gT h.clos hnD hready h.act hsrc
  have hkat':KAt (eK o.op) fk a:=fun t v ht=>hkat t v (List.mem_append_left _ ht)
  rw [fW hkat hg]
  simp only [if_true]
  left
  unfold Oper.wpA
  rw [hrun a hkat' G os fs w (h.ent k hk hnD hfl) h.st]
  exact next _ inv'
 | false =>
 obtain ⟨_,fk,hsrc,hcase⟩:=h.pend k o hk hnD ho hfl
 have hkat:KAt (cQ L o) fk a:=gT h.clos hnD hready h.act hsrc
 have hkat':KAt (eK o.op) fk a:=fun t v ht=>hkat t v (List.mem_append_left _ ht)
 rcases hcase with ⟨h1,h2⟩ | ⟨h1,h2⟩
 ·rw [fW hkat h1]
  simp only [Bool.false_eq_true,if_false]
  rw [← h2]
  exact next _ inv'
 ·rw [fW hkat h1]
  simp only [if_true]
  left
  unfold Oper.wpA
  rw [h2 a w hkat' (.inr (Below.refl _ _))]
  exact next _ inv'
theorem doE_dyn (hc:mK L (iE L []) fl p1 sl c) (hdst:eO N L=true) {Q:iX} {D:Nat→Prop} {vd c':List Nat} {k:Nat} {val:Nat→Value} {vf:Fr} {os:List Own} {fs:List bA} {a:Act} {w:World} {o:Oper} {rest:List Nat}
  (h:InvE P N L E fl p1 sl f0 G K c D vd (k::c') val vf os fs a w) (ho:L[k]? = some o) (hdyn:dT o.op=true) (hnD:¬ D k) (hready:∀ j,gB .any L j k→D j)
  (next:∀ val' vf' os' fs' a' w',InvE P N L E fl p1 sl f0 G K c (fun i=>D i∨i=k) (vd++[k]) c' val' vf' os' fs' a' w'→dK P L.toArray (Qhat N G Q) rest a' w'):dK P L.toArray (Qhat N G Q) (k::rest) a w:=by
 have hdk:=dst_at hdst ho
 have hnod:=hc.nodup
 rw [h.split,List.nodup_append] at hnod
 have hk:k ∉ vd:=fun hm=>hnod.2.2 k hm k qP rfl
 have src:=srcE_next hc h.split ho h.virt
 have hkat:KAt (cQ L o) vf a:=gT h.clos hnD hready h.act src
 have hkat':KAt (eK o.op) vf a:=fun t v ht=>hkat t v (List.mem_append_left _ ht)
 have distinct:∀ j oj,D j→L[j]? = some oj→∀ t,o.dst=some t→oj.dst≠some t:=by
  intro j oj hj hjo t ht hjt
  obtain ⟨pre,post,hp⟩:=List.append_of_mem (h.sub j hj)
  exact (hc.pair pre j (post++k::c') k oj o (by rw [h.split,hp]; simp) qP hjo ho).1 t hjt ht
 have hfk:inL fl k=false:=by
  cases e:inL fl k with
  | false=>rfl
  | true =>
   have:=(hc.self k o ((hc.all k).2 (List.getElem?_eq_some_iff.1 ho).1) ho).2.1 e
   rw [hdyn] at this; cases this
 have hvc:=h.vc
 rw [qW _ _ _ _ _ _ _ _ _ _ _ _ _ ho] at hvc
 simp only [hfk,selE] at hvc
 have early:∀ x,x∈vd→¬ D x→inL fl x=true→inL p1 k=true:=fun x hx hnx hfx=>by
  cases e:inL p1 k with
  | true=>rfl
  | false =>
   exfalso
   obtain ⟨pre,post,hp⟩:=List.append_of_mem hx
   have hxc:x<L.length:=(hc.all x).1 (by rw [h.split]; simp [hx])
   have:=(hc.pair pre x (post++k::c') k L[x] o (by rw [h.split,hp]; simp) qP (by simp [hxc]) ho).2 (.inr (.inr (.inr (.inl ⟨hdyn,hfx,e⟩))))
   exact hnx ((nY this).closed h.clos hready)
 have inv':∀ (u:Value) (os':List Own) (fs':List bA) (w':World),Holds G os' fs' w'→VCE P L E fl p1 sl c' (jS vf o.dst u) os' fs' K→((∀ i o,i∈vd→L[i]? = some o→D i∨nO o.op=true∨inL fl i=true)∨Below w.heap.size w w') →
   ((∃ x,x∈vd∧¬ D x∧inL fl x=true)→InO E os') →
   InvE P N L E fl p1 sl f0 G K c (fun i=>D i∨i=k) (vd++[k]) c' (fT val k u) (jS vf o.dst u) os' fs' (a.put o.dst u) w':=by
  intro u os' fs' w' hst hv hpd hE
  have hset:fT val k u k=u:=by simp [fT]
  have old:∀ x,x∈vd++[k]→¬ (D x∨x=k)→x∈vd∧¬ D x:=fun x hx hnx=>by
   refine ⟨?_,fun hd=>hnx (.inl hd)⟩
   rcases List.mem_append.1 hx with hx | hx
   ·exact hx
   ·exact absurd (.inr (by simpa using hx)) hnx
  refine ⟨by rw [h.split]; simp,fun i hi=>?_,fun i hi j hj=>?_,?_,?_,?_,virtE_keep hk ho h.virt,fun x ox hx hnx hox hfx=>?_,fun x ox hx hnx hox hfx=>?_,fun x hx hnx hfx=>?_,hst,hv⟩
  ·rcases hi with hi | rfl
   ·simp [h.sub i hi]
   ·simp
  ·rcases hi with hi | rfl
   ·exact .inl (h.clos i hi j hj)
   ·exact .inl (hready j hj)
  ·have:=h.defers; cases hd:o.dst <;> simpa [Act.put] using this
  ·cases hd:o.dst <;> simp [Act.put,h.size]
  ·have:=lE (val:=fT val k u) (f0:=f0) (D:=D) hdk h.size ho distinct (fun t v ht=>h.act t v (by
    rcases ht with ⟨j,oj,h1,h2,h3,h4⟩ | ht
    ·have:j≠k:=fun e=>hnD (e ▸ h1)
     exact .inl ⟨j,oj,h1,h2,h3,by simpa [fT,this] using h4⟩
    ·exact .inr ht))
   rw [hset] at this
   exact this
  ·obtain ⟨hxv,hnx'⟩:=old x hx hnx
   rcases hpd with hpd | hb
   ·rcases hpd x ox hxv hox with h1 | h1 | h1
    ·exact absurd h1 hnx'
    ·exact (h.pend x ox hxv hnx' hox hfx).keep hk hxv (.inl h1)
    ·rw [hfx] at h1; cases h1
   ·exact (h.pend x ox hxv hnx' hox hfx).keep hk hxv (.inr hb)
  ·obtain ⟨hxv,hnx'⟩:=old x hx hnx
   exact (h.pendE x ox hxv hnx' hox hfx).keep hk hxv
  ·obtain ⟨hxv,hnx'⟩:=old x hx hnx
   exact hE ⟨x,hxv,hnx',hfx⟩
 have still:(∃ x,x∈vd∧¬ D x∧inL fl x=true)→InO E os:=fun ⟨x,h1,h2,h3⟩=>h.ent x h1 h2 h3
 have ho':L.toArray[k]? = some o:=by simpa using ho
 simp only [dK,ho']
 cases hg:gd L vf o.guard with
 | none=>simp only [hg,orF] at hvc
 | some b =>
  rw [fW hkat hg]
  cases b with
  | false =>
   simp only [hg,orF] at hvc
   simp only [Bool.false_eq_true,if_false]
   exact next _ _ _ _ _ _ (inv' undef os fs w h.st hvc (.inr (Below.refl _ _)) still)
  | true =>
   simp only [hg,orF] at hvc
   simp only [if_true]
   left
   unfold Oper.wpA
   cases hv:detv vf o.op with
   | some v =>
    simp only [hv,orV] at hvc
    rw [gK P hkat' hv w]
    exact next _ _ _ _ _ _ (inv' v os fs w h.st hvc (.inr (Below.refl _ _)) still)
   | none =>
    simp only [hv,orV] at hvc
    have main:Comes1 P (fun v w'=>((∀ i o,i∈vd→L[i]? = some o→D i∨nO o.op=true∨inL fl i=true)∨Below w.heap.size w w')∧∃ os' fs',andB (inL p1 k) (InO E os') (VCE P L E fl p1 sl c' (jS vf o.dst v) os' fs' K)∧Holds G os' fs' w') ((execOp a.eval o).run P w):=by
     have stl:(sD o.op||inL sl k)=true→∀ i oi,i∈vd→L[i]? = some oi→D i∨nO oi.op=true∨inL fl i=true:=fun hst i oi hi hoi=>by
      cases hpu:nO oi.op with
      | true=>exact .inr (.inl rfl)
      | false =>
      cases hfi:inL fl i with
      | true=>exact .inr (.inr rfl)
      | false =>
      left
      obtain ⟨pre,post,hp⟩:=List.append_of_mem hi
      exact (nY ((hc.pair pre i (post++k::c') k oi o (by rw [h.split,hp]; simp) qP hoi ho).2 (.inr (.inr (.inr (.inr ⟨hst,hpu,hfi⟩)))))).closed h.clos hready
     cases hsk:inL sl k with
     | true =>
      simp only [hsk,noB] at hvc
      obtain ⟨s,hs1,hs2⟩:=DoK.semD o ((hc.self k o ((hc.all k).2 (List.getElem?_eq_some_iff.1 ho).1) ho).2.2 hsk) hvc
      rw [hs1 a hkat']
      exact (hs2 G w h.st).mono fun v w' h2=>⟨.inl (stl (by rw [hsk,Bool.or_true])),h2⟩
     | false =>
     simp only [hsk,noB] at hvc
     obtain ⟨s,hs⟩:=DoK.sem o hvc
     rw [hs.same a hkat']
     cases hst:sD o.op with
     | false=>exact (hs.grw hst G w h.st).mono fun v w' ⟨h1,h2⟩=>⟨.inr h1,h2⟩
     | true=>exact (hs.dyn G w h.st).mono fun v w' h2=>⟨.inl (stl (by rw [hst,Bool.true_or])),h2⟩
    have fin:∀ (v:Value) (w':World),(((∀ i o,i∈vd→L[i]? = some o→D i∨nO o.op=true∨inL fl i=true)∨Below w.heap.size w w')∧∃ os' fs',andB (inL p1 k) (InO E os') (VCE P L E fl p1 sl c' (jS vf o.dst v) os' fs' K)∧Holds G os' fs' w') →
      ∃ os' fs',InvE P N L E fl p1 sl f0 G K c (fun i=>D i∨i=k) (vd++[k]) c' (fT val k v) (jS vf o.dst v) os' fs' (a.put o.dst v) w':=by
     rintro v w' ⟨h1,os',fs',h2,h3⟩
     cases hp1:inL p1 k with
     | true =>
      rw [hp1] at h2
      exact ⟨os',fs',inv' v os' fs' w' h3 h2.2 h1 fun _=>h2.1⟩
     | false =>
      rw [hp1] at h2
      refine ⟨os',fs',inv' v os' fs' w' h3 h2 h1 fun ⟨x,g1,g2,g3⟩=>?_⟩
      have:=early x g1 g2 g3
      rw [hp1] at this; cases this
    generalize (execOp a.eval o).run P w=res at main
    match res,main with
    | .ok (.value v) w',hm =>
     obtain ⟨os',fs',hi⟩:=fin v w' hm
     exact next _ _ _ _ _ _ hi
    | .ok .skip w',hm =>
     obtain ⟨os',fs',hi⟩:=fin undef w' hm
     exact next _ _ _ _ _ _ hi
    | .ok (.enter g args) w',hcall =>
     refine Calls.mono hcall ?_
     rintro e w'' ⟨v,rfl,hm⟩
     obtain ⟨os',fs',hi⟩:=fin v w'' hm
     exact next _ _ _ _ _ _ hi
    | .ok (.round l g tmps assign body) w',hcall =>
     refine RoundIn.mono hcall ?_
     rintro e w'' ⟨v,rfl,hm⟩
     obtain ⟨os',fs',hi⟩:=fin v w'' hm
     exact next _ _ _ _ _ _ hi
theorem catchE_up (hc:mK L (iE L []) fl p1 sl c):∀ (pre:List Nat) {D:Nat→Prop} {vd c':List Nat} {val:Nat→Value} {vf:Fr} {fs:List bA} {os:List Own} {a:Act} {w:World},
  InvE P N L E fl p1 sl f0 G K c D vd (pre++c') val vf os fs a w→(∀ x,x∈pre→inL p1 x=false∧∀ o,L[x]? = some o→dT o.op=false) →
  ∃ val' vf' fs',InvE P N L E fl p1 sl f0 G K c D (vd++pre) c' val' vf' os fs' a w
 | [],D,vd,c',val,vf,fs,os,a,w,h,_=>⟨val,vf,fs,by simpa using h⟩
 | x::pre,D,vd,c',val,vf,fs,os,a,w,h,hd=>by
  have hx:x<L.length:=(hc.all x).1 (by rw [h.split]; simp)
  obtain ⟨val1,vf1,fs1,h1⟩:=virtE_step hc h (show L[x]? = some L[x] by simp [hx]) ((hd x qP).2 _ (by simp [hx])) (hd x qP).1
  obtain ⟨val2,vf2,fs2,h2⟩:=catchE_up hc pre (vd:=vd++[x]) h1 (fun y hy=>hd y (by simp [hy]))
  exact ⟨val2,vf2,fs2,by simpa using h2⟩
theorem simE (hc:mK L (iE L []) fl p1 sl c) (hp:∀ x o,inL p1 x=true→L[x]? = some o→dT o.op=true) (hdst:eO N L=true) {Q:iX} (hQ:Q .normal=K):∀ (l:List Nat) (D:Nat→Prop) {vd c':List Nat} {val:Nat→Value} {vf:Fr} {os:List Own} {fs:List bA} {a:Act} {w:World},
  InvE P N L E fl p1 sl f0 G K c D vd c' val vf os fs a w→(∀ i,i<L.length↔D i∨i∈l)→l.Nodup→(∀ i,i∈l→¬ D i) →
  (∀ pre i post,l=pre++i::post→∀ j,gB .any L j i→D j∨j∈pre)→dK P L.toArray (Qhat N G Q) l a w
 | [],D,vd,c',val,vf,os,fs,a,w,h,hall,_,_,_=>by
  have hc':c'=[]:=by
   cases c' with
   | nil=>rfl
   | cons x r =>
    exfalso
    have hx:x∈c:=by rw [h.split]; simp
    have:=h.sub x (((hall x).1 ((hc.all x).1 hx)).resolve_right qP)
    have hnod:=hc.nodup
    rw [h.split,List.nodup_append] at hnod
    exact hnod.2.2 x this x qP rfl
  subst hc'
  have hv:=h.vc
  refine ⟨G,Ext.refl G,vf,os,fs,⟨h.defers,h.size,fun t v ht=>h.act t v ?_⟩,h.st,by rw [hQ]; exact hv⟩
  have hD:∀ j,j∈vd→D j:=fun j hj=>((hall j).1 ((hc.all j).1 (by rw [h.split]; simp [hj]))).resolve_right qP
  rcases h.virt t v ht with ⟨j,o,h1,h2,h3,h4⟩ | ⟨h1,h2⟩
  ·exact .inl ⟨j,o,hD j h1,h2,h3,h4⟩
  ·exact .inr ⟨h1,fun j o hj=>h2 j o (h.sub j hj)⟩
 | i::rest,D,vd,c',val,vf,os,fs,a,w,h,hall,hnod,hdis,hbef=>by
  have hi:i<L.length:=(hall i).2 (.inr qP)
  have ho:L[i]? = some L[i]:=by simp [hi]
  have hnD:¬ D i:=hdis i qP
  have hready:∀ j,gB .any L j i→D j:=fun j hj=>(hbef [] i rest rfl j hj).resolve_right qP
  have nx:∀ {vd c':List Nat} {val:Nat→Value} {vf:Fr} {os:List Own} {fs:List bA} {a:Act} {w:World},
    InvE P N L E fl p1 sl f0 G K c (fun x=>D x∨x=i) vd c' val vf os fs a w→dK P L.toArray (Qhat N G Q) rest a w:=by
   intro vd c' val vf os fs a w h'
   refine simE hc hp hdst hQ rest (fun x=>D x∨x=i) h' (fun x=>?_) (List.nodup_cons.1 hnod).2 (fun x hx hx'=>?_) (fun pre x post hp j hj=>?_)
   ·rw [hall x,List.mem_cons]
    constructor
    ·rintro (h | h | h)
     ·exact .inl (.inl h)
     ·exact .inl (.inr h)
     ·exact .inr h
    ·rintro ((h | h) | h)
     ·exact .inl h
     ·exact .inr (.inl h)
     ·exact .inr (.inr h)
   ·rcases hx' with hx' | rfl
    ·exact hdis x (by simp [hx]) hx'
    ·exact (List.nodup_cons.1 hnod).1 hx
   ·rcases hbef (i::pre) x post (by rw [hp]; rfl) j hj with hj' | hj'
    ·exact .inl (.inl hj')
    ·rcases List.mem_cons.1 hj' with rfl | hj'
     ·exact .inl (.inr rfl)
     ·exact .inr hj'
  by_cases hiv:i∈vd
  ·exact doE_pend hc hdst h ho hiv hnD hready fun a' h'=>nx h'
  ·have hic:i∈c:=(hc.all i).2 hi
   rw [h.split] at hic
   obtain ⟨pre,post,hpp⟩:=List.append_of_mem ((List.mem_append.1 hic).resolve_left hiv)
   have hpre0:∀ x,x∈pre→∀ o,L[x]? = some o→dT o.op=false:=by
    intro x hx o hox
    cases hd:dT o.op with
    | false=>rfl
    | true =>
     exfalso
     obtain ⟨p1,p2,hp2⟩:=List.append_of_mem hx
     have:=(hc.pair (vd++p1) x (p2++i::post) i o L[i] (by rw [h.split,hpp,hp2]; simp) qP hox ho).2 (.inr (.inr (.inl hd)))
     have hDx:=(nY this).closed h.clos hready
     have hxv:=h.sub x hDx
     have hn:=hc.nodup
     rw [h.split,List.nodup_append] at hn
     exact hn.2.2 x hxv x (by rw [hpp]; simp [hx]) rfl
   have np:∀ x,x<L.length→(∀ o,L[x]? = some o→dT o.op=false)→inL p1 x=false:=fun x hx hd=>by
    cases e:inL p1 x with
    | false=>rfl
    | true =>
     have h1:=hp x L[x] e (by simp [hx])
     rw [hd L[x] (by simp [hx])] at h1; cases h1
   have hpre:∀ x,x∈pre→inL p1 x=false∧∀ o,L[x]? = some o→dT o.op=false:=fun x hx =>
    ⟨np x ((hc.all x).1 (by rw [h.split,hpp]; simp [hx])) (hpre0 x hx),hpre0 x hx⟩
   rw [hpp] at h
   obtain ⟨val1,vf1,fs1,h1⟩:=catchE_up hc pre h hpre
   cases hdyn:dT L[i].op with
   | false =>
    obtain ⟨val2,vf2,fs2,h2⟩:=virtE_step hc h1 ho hdyn (np i hi fun o hox=>by rw [ho] at hox; obtain rfl:=Option.some.inj hox; exact hdyn)
    exact doE_pend hc hdst h2 ho qP hnD hready fun a' h'=>nx h'
   | true=>exact doE_dyn hc hdst h1 ho hdyn hnD hready fun _ _ _ _ _ _ h'=>nx h'
end
def p1OK (L:List Oper) (p1:List Nat):Bool :=
 p1.all fun x=>match oC L x with
  | some o=>dT o.op
  | none=>true
theorem cX {P:Program} {N:Nat} {L:List Oper} {f:Fr} {os:List Own} {fs:List bA} {K:jD} (E:List Own) (fl p1 sl c:List Nat) (hok:ordEOK L fl p1 sl c=true) (hp1:p1OK L p1=true) (hdst:eO N L=true)
  (k:VCE P L E fl p1 sl c f os fs K):OrdK P N L f os fs K:=by
 refine ⟨fun G Q hQ l hord a w hk hw=>?_⟩
 have hc:=ordEOK_sound hok
 have hp:∀ x o,inL p1 x=true→L[x]? = some o→dT o.op=true:=fun x o h ho=>by
  obtain ⟨y,hy,hb⟩:=List.any_eq_true.1 h
  have:=Nat.eq_of_beq_eq_true hb
  subst this
  have h2:=List.all_eq_true.1 hp1 x hy
  rw [f9,ho] at h2
  exact h2
 refine simE (E:=E) (f0:=f) hc hp hdst hQ _ (fun _=>False) (vd:=[]) (c':=c) (val:=fun _=>undef) (vf:=f) (os:=os) (fs:=fs) ?_ (fun i=>by simpa using (hord.all i).symm) hord.nodup (fun _ _ h=>h) (fun pre i post hp j hj=>.inr (hord.before pre i post hp j hj))
 exact ⟨rfl,fun _ h=>h.elim,fun _ h=>h.elim,hk.defers,hk.size,fun t v ht=>hk.holds t v (by
  rcases ht with ⟨_,_,h,_⟩ | h
  ·exact h.elim
  ·exact h.1),fun t v ht=>.inr ⟨ht,fun j o hj=>by simp at hj⟩,fun k o hk=>by simp at hk,fun k o hk=>by simp at hk,fun k hk=>by simp at hk,hw,k⟩
def fZ (x:Int):Int×Bool:=if -9223372036854775808≤x∧x<9223372036854775808 then (x,true) else (0,false)
theorem wrapI64 (n:Int):IntKind.i64.wrap n=(n+9223372036854775808)%18446744073709551616 - 9223372036854775808:=by
 simp [IntKind.wrap,IntKind.bits,IntKind.signed]
 split <;> omega
theorem lims_get0 {n:Nat} (h:n≠0):(b9 n).getD 0 0=n%18446744073709551616:=by rw [gS h]; rfl
theorem lims_big {n:Nat} (h:n≠0):(1<(b9 n).length)↔18446744073709551616≤n:=by
 rw [gS h,List.length_cons]
 constructor
 ·intro h1
  refine Nat.not_lt.1 fun h2=>?_
  rw [Nat.div_eq_of_lt h2,dU] at h1
  simp at h1
 ·intro h1
  have:n/18446744073709551616≠0:=by omega
  rw [gS this]; simp
theorem zSmall_meets (v:Value) (x:Bool×List Nat) (hx:Lim x.2) (lx:x.2.length≤137438953472) :
  aY Tryz.prog 180 [v] [(v,J x)] (fun r os fs=>os=[]∧fs=[]∧r=.tuple #[.int .i64 (fZ (jv x)).1,.bool (fZ (jv x)).2]):=by
 have hnm:=fun y=>lK y x.2 hx qN
 have hjv:jv x=if x.1 then -(nv x.2:Int) else (nv x.2:Int):=rfl
 generalize hN:nv x.2=N at *
 obtain ⟨b,hb⟩:∃ b,x.1=b:=⟨_,rfl⟩
 rw [hb] at hjv
 refine mV Tryz.func180 ?_
 refine aQ (aA (d:=J x) qM) fun b1 h1=>?_
 refine aF 0 rfl h1 ?_
 refine aK (d:=U x.2) 0 rfl (aC (aG _)) (gD _) fun y1=>?_
 refine cG (hnm y1) fun y2=>?_
 refine aS (v:=y2) (n:=(b9 N).length) qM fun _=>?_
 refine aO _ rfl (fun h0=>?_) (fun h0=>?_)
 ·have hN0:N=0:=kI.1 (List.length_eq_zero_iff.1 qN)
  have:jv x=0:=by rw [hjv,hN0]; cases b <;> rfl
  rw [this]
  exact fin ⟨rfl,rfl,rfl⟩ (dS (bO _ _))
 have hN0:N≠0:=fun e=>h0 (by rw [e,dU]; rfl)
 have hbig:=lims_big hN0
 have hg0:=lims_get0 hN0
 have hll:0<(b9 N).length:=by rw [gS hN0]; simp
 refine aZ (v:=y2) qM 0 rfl hll fun a1=>?_
 refine bF (u:=.int .u64 ((b9 N).getD 0 0:Nat)) qM ?_
 rw [hg0]
 obtain ⟨w1,hw1⟩:∃ w1,w1=IntKind.i64.wrap ((N%18446744073709551616:Nat):Int):=⟨_,rfl⟩
 refine bJ ⟨_,Tryz.underlying22⟩ Tryz.underlying2 w1 hw1.symm ?_
 rw [wrapI64] at hw1
 refine aF 0 rfl h1 ?_
 refine aB 0 rfl (aJ (aG _)) ?_
 rw [hb]
 have hfin:∀ w2:Int,(b=true→w2=(-w1+9223372036854775808)%18446744073709551616 - 9223372036854775808)→(b=false→w2=w1) →
   ((fZ (jv x)).2=false→(fZ (jv x)).1=0)∧((fZ (jv x)).2=true→(fZ (jv x)).1=w2)∧((fZ (jv x)).2=false↔1<(b9 N).length∨(decide (w2<0))≠b):=fun w2 e1 e2=>by
  rw [hbig,hjv]
  unfold fZ
  cases b
  ·have e2:=e2 rfl
   simp only [Bool.false_eq_true,if_false]
   split
   ·rename_i h
    refine ⟨fun h=>by simp at h,fun _=>by simp only; omega,⟨fun h=>by simp at h,fun h=>?_⟩⟩
    rcases h with h | h
    ·omega
    ·rw [Ne,decide_eq_false_iff_not] at h; omega
   ·rename_i h
    refine ⟨fun _=>rfl,fun h=>by simp at h,⟨fun _=>?_,fun _=>rfl⟩⟩
    by_cases g:18446744073709551616≤N
    ·exact .inl g
    ·refine .inr ?_
     rw [Ne,decide_eq_false_iff_not]; omega
  ·have e1:=e1 rfl
   simp only [if_true]
   split
   ·rename_i h
    refine ⟨fun h=>by simp at h,fun _=>by simp only; omega,⟨fun h=>by simp at h,fun h=>?_⟩⟩
    rcases h with h | h
    ·omega
    ·rw [Ne,decide_eq_true_iff] at h; omega
   ·rename_i h
    refine ⟨fun _=>rfl,fun h=>by simp at h,⟨fun _=>?_,fun _=>rfl⟩⟩
    by_cases g:18446744073709551616≤N
    ·exact .inl g
    ·refine .inr ?_
     rw [Ne,decide_eq_true_iff]; omega
 cases b
 ·obtain ⟨f1,f2,f3⟩:=hfin w1 (fun h=>by simp at h) fun _=>rfl
  refine aS (v:=y2) (n:=(b9 N).length) qM fun _=>?_
  refine aO _ rfl (fun hl=>?_) (fun hl=>?_)
  ·
   have hs:(fZ (jv x)).2=false:=f3.2 (.inl qN)
   rw [f1 hs,hs]
   exact fin ⟨rfl,rfl,rfl⟩ (dS (bO _ _))
  refine aO _ rfl (fun hs1=>?_) (fun hs1=>?_)
  ·refine aF 0 rfl h1 ?_
   refine aB 0 rfl (aJ (aG _)) ?_
   rw [hb]
   refine gF (fun hne=>?_) (fun hne=>?_)
   ·
    have hs:(fZ (jv x)).2=false:=f3.2 (.inr fun e=>hne ((decide_eq_true hs1).symm.trans e))
    rw [f1 hs,hs]
    exact fin ⟨rfl,rfl,rfl⟩ (dS (bO _ _))
   ·
    have hs:(fZ (jv x)).2=true:=by
     cases e:(fZ (jv x)).2 with
     | true=>rfl
     | false=>exact absurd (f3.1 e) (fun h=>h.elim (fun h=>hl qN) fun h=>h ((decide_eq_true hs1).trans hne))
    rw [f2 hs,hs]
    exact fin ⟨rfl,rfl,rfl⟩ (dS (bO _ _))
  ·refine aF 0 rfl h1 ?_
   refine aB 0 rfl (aJ (aG _)) ?_
   rw [hb]
   refine gF (fun hne=>?_) (fun hne=>?_)
   ·
    have hs:(fZ (jv x)).2=false:=f3.2 (.inr fun e=>hne ((decide_eq_false hs1).symm.trans e))
    rw [f1 hs,hs]
    exact fin ⟨rfl,rfl,rfl⟩ (dS (bO _ _))
   ·
    have hs:(fZ (jv x)).2=true:=by
     cases e:(fZ (jv x)).2 with
     | true=>rfl
     | false=>exact absurd (f3.1 e) (fun h=>h.elim (fun h=>hl qN) fun h=>h ((decide_eq_false hs1).trans hne))
    rw [f2 hs,hs]
    exact fin ⟨rfl,rfl,rfl⟩ (dS (bO _ _))
 ·refine oP (m:=(-w1+9223372036854775808)%18446744073709551616 - 9223372036854775808) (by rw [wrapI64,Int.zero_sub]) ?_
  obtain ⟨f1,f2,f3⟩:=hfin ((-w1+9223372036854775808)%18446744073709551616 - 9223372036854775808) (fun _=>rfl) fun h=>by simp at h
  generalize (-w1+9223372036854775808)%18446744073709551616 - 9223372036854775808=w2 at *
  refine aS (v:=y2) (n:=(b9 N).length) qM fun _=>?_
  refine aO _ rfl (fun hl=>?_) (fun hl=>?_)
  ·
   have hs:(fZ (jv x)).2=false:=f3.2 (.inl qN)
   rw [f1 hs,hs]
   exact fin ⟨rfl,rfl,rfl⟩ (dS (bO _ _))
  refine aO _ rfl (fun hs1=>?_) (fun hs1=>?_)
  ·refine aF 0 rfl h1 ?_
   refine aB 0 rfl (aJ (aG _)) ?_
   rw [hb]
   refine gF (fun hne=>?_) (fun hne=>?_)
   ·
    have hs:(fZ (jv x)).2=false:=f3.2 (.inr fun e=>hne ((decide_eq_true hs1).symm.trans e))
    rw [f1 hs,hs]
    exact fin ⟨rfl,rfl,rfl⟩ (dS (bO _ _))
   ·
    have hs:(fZ (jv x)).2=true:=by
     cases e:(fZ (jv x)).2 with
     | true=>rfl
     | false=>exact absurd (f3.1 e) (fun h=>h.elim (fun h=>hl qN) fun h=>h ((decide_eq_true hs1).trans hne))
    rw [f2 hs,hs]
    exact fin ⟨rfl,rfl,rfl⟩ (dS (bO _ _))
  ·refine aF 0 rfl h1 ?_
   refine aB 0 rfl (aJ (aG _)) ?_
   rw [hb]
   refine gF (fun hne=>?_) (fun hne=>?_)
   ·
    have hs:(fZ (jv x)).2=false:=f3.2 (.inr fun e=>hne ((decide_eq_false hs1).symm.trans e))
    rw [f1 hs,hs]
    exact fin ⟨rfl,rfl,rfl⟩ (dS (bO _ _))
   ·
    have hs:(fZ (jv x)).2=true:=by
     cases e:(fZ (jv x)).2 with
     | true=>rfl
     | false=>exact absurd (f3.1 e) (fun h=>h.elim (fun h=>hl qN) fun h=>h ((decide_eq_false hs1).trans hne))
    rw [f2 hs,hs]
    exact fin ⟨rfl,rfl,rfl⟩ (dS (bO _ _))
def aN (lo hi q:Int):Dat:=.cat (zd lo) (.cat (zd hi) (.one (.int .i64 q)))
def dyD (m e:Int):Dat:=.cat (zd m) (.one (.int .i64 e))
def bS (a b:Int):Dat:=.cat (zd a) (zd b)
theorem aR (x:Int):gX Tryz.prog 32 (zd x):=(inferInstance:oL Tryz.prog 32 2)
theorem bR (lo hi q:Int):gX Tryz.prog 42 (aN lo hi q):=(inferInstance:oL Tryz.prog 42 5)
theorem cY (lo hi q:Int):gX Tryz.prog 171 (aN lo hi q):=(inferInstance:oL Tryz.prog 171 5)
theorem eD (a b:Int):gX Tryz.prog 236 (bS a b):=(inferInstance:oL Tryz.prog 236 4)
theorem cB (m e:Int):gX Tryz.prog 34 (dyD m e):=(inferInstance:oL Tryz.prog 34 3)
theorem jX (S:Nat→Prop) (w:World):RdC S w (zd 0) [.bool false,.slice none 0 0]:=by
 have e:zd 0=I false []:=by rw [zd_I]; simp [b9]
 rw [e]
 exact ⟨[.bool false],[.slice none 0 0],rfl,rd_false S w,rd_nil S w 1 _⟩
instance tzZd:iD Tryz.prog 32 (zd 0):=mQ pW fun S w=>jX S w
theorem mO (S:Nat→Prop) (w:World) (n:Int):RdC S w (.one (.int .i64 n)) [.int .i64 n]:=⟨rfl,rfl⟩
theorem ball0_rd (S:Nat→Prop) (w:World):RdC S w (aN 0 0 0) [.bool false,.slice none 0 0,.bool false,.slice none 0 0,.int .i64 0]:=⟨_,_,rfl,jX S w,⟨_,_,rfl,jX S w,mO S w 0⟩⟩
theorem pair0_rd (S:Nat→Prop) (w:World):RdC S w (bS 0 0) [.bool false,.slice none 0 0,.bool false,.slice none 0 0]:=⟨_,_,rfl,jX S w,jX S w⟩
theorem dy0_rd (S:Nat→Prop) (w:World):RdC S w (dyD 0 0) [.bool false,.slice none 0 0,.int .i64 0]:=⟨_,_,rfl,jX S w,mO S w 0⟩
theorem info_bal:(Tryz.prog.info? 42).map (fun i=>(i.zero,i.size,i.bytes))=some (some (.agg #[.bool false,.slice none 0 0,.bool false,.slice none 0 0,.int .i64 0]),5,72):=by kernel_rfl
theorem info_val:(Tryz.prog.info? 171).map (fun i=>(i.zero,i.size,i.bytes))=some (some (.agg #[.bool false,.slice none 0 0,.bool false,.slice none 0 0,.int .i64 0]),5,72):=by kernel_rfl
theorem info_pair:(Tryz.prog.info? 236).map (fun i=>(i.zero,i.size,i.bytes))=some (some (.agg #[.bool false,.slice none 0 0,.bool false,.slice none 0 0]),4,64):=by kernel_rfl
theorem info_dy:(Tryz.prog.info? 34).map (fun i=>(i.zero,i.size,i.bytes))=some (some (.agg #[.bool false,.slice none 0 0,.int .i64 0]),3,40):=by kernel_rfl
instance tzBall:iD Tryz.prog 42 (aN 0 0 0):=mQ info_bal fun S w=>ball0_rd S w
instance tzVal:iD Tryz.prog 171 (aN 0 0 0):=mQ info_val fun S w=>ball0_rd S w
instance tzPair:iD Tryz.prog 236 (bS 0 0):=mQ info_pair fun S w=>pair0_rd S w
instance tzDy:iD Tryz.prog 34 (dyD 0 0):=mQ info_dy fun S w=>dy0_rd S w
theorem aH {P:Program} {ty:TypeId} {x v:Value} {d:Dat} {size:Nat} {e:Nat→Dat} {os:List Own} {fs:List bA} {K:cE} (pos:Nat) (h:bQ os pos=some (bL v size 1 e)) (hb:g9 v) (hd:d.cells=size)
  (ht:(P.info? ty).map (·.size)=some size) (hx:Reads os fs x d) (k':K undef (setOwn os pos (bL v size 1 fun _=>d)) fs):oT P ty v x os fs K:=by
 have h1:=bY (P:=P) (ty:=ty) (x:=x) (d:=d) (K:=fun u os' fs'=>∃ os'' fs'',Seals os' fs' os'' fs''∧K u os'' fs'') pos h hb hd ht hx
 refine ⟨Dyn.sealed (h1 ⟨_,_,?_,k'⟩).out⟩
 have h2:=Seals.own_cong (os:=setOwn os pos (bL v size 1 (upd e 0 d))) (fs:=fs) pos (fun _=>d) (k8 h) rfl (fun i hi=>by
  have:i=0:=by omega
  subst this; rfl)
 rwa [set_set] at h2
theorem cmp_dec {P:Program} {op:BinOp} {t:TypeId} {x y:Operand} {k:IntKind} {a b:Int} {os:List Own} {fs:List bA} {K:cE} (r:Bool) {r':Bool} (h:cmpZ op a b=some r') (he:r'=r)
  (kk:K (.bool r) os fs):pC P op t x y (.int k a) (.int k b) os fs K :=
 ⟨dD _ (fun w=>mJ h w) (he ▸ kk)⟩
theorem bM {P:Program} {t:TypeId} {k off j:Nat} {v:Value} {os:List Own} {fs:List bA} {K:cE} [ht:iU P t k off] (hb:g9 v) (k':K (jP v (j+off)) os fs):FieldAddrK P t (jP v j) k os fs K:=by
 obtain ⟨r,rfl⟩:=hb
 refine ⟨fun G w hw=>⟨_,fs,fun w' _=>dH ?_,k',hw⟩⟩
 simp only [jP,eI,Nat.zero_add]
 exact mF ht r j w'
theorem zShrJ (v:Value) (s:Bool) (a:List Nat) (n:Int) (ha:Lim a) (la:a.length≤137438953472) :
  aY Tryz.prog 96 [v,.int .i64 n] [(v,I s a)] (fun r os fs=>os=[]∧fs=[(r,zd (iv s a/2^far n))]):=by
 have h1:=fun u=>shr_meets u a n ha qN
 obtain ⟨k,hk⟩:∃ k,2^far n=k:=⟨_,rfl⟩
 have hk0:0<k:=hk ▸ Nat.pow_pos qE
 have hkz:((2:Int)^far n)=(k:Int):=by rw [← hk]; simp
 rw [hk] at h1
 have hll:(b9 (nv a/k)).length≤a.length:=e8 (Nat.lt_of_le_of_lt (Nat.div_le_self _ _) (l9 ha))
 have h2:=fun u=>pJ u (b9 (nv a/k)) n (cK _) qN
 rw [hk,dN] at h2
 have hll2:(b9 (nv a/k*k)).length≤a.length:=e8 (Nat.lt_of_le_of_lt (Nat.div_mul_le_self _ _) (l9 ha))
 have h3:=fun u u'=>qA u u' (b9 (nv a/k*k)) a (cK _) ha
 rw [dN] at h3
 have hc:=cmpN_range (nv a/k*k) (nv a)
 have h4:=fun u u'=>vY u u' (b9 (nv a/k)) [1] (cK _) (fun x hx=>by rw [List.mem_singleton.1 hx]; decide) qN qE
 rw [dN,show nv [1]=1 from rfl] at h4
 have e0:iv false a/(k:Int)=(nv a/k:Nat):=by simp [iv]
 have e1:nv a/k*k=nv a→iv true a/(k:Int) = -((nv a/k:Nat):Int):=fun h=>by
  simp only [iv,if_true]
  refine Int.ediv_eq_of_eq_mul_left qN ?_
  have h':=congrArg (Nat.cast (R:=Int)) h
  push_cast at h' ⊢
  rw [Int.neg_mul,h']
 have e2:nv a/k*k≠nv a→iv true a/(k:Int) = -((nv a/k+1:Nat):Int):=fun h=>by
  simp only [iv,if_true]
  have h5:=Nat.div_add_mod (nv a) k
  have h6:=Nat.mod_lt (nv a) hk0
  have h7:nv a%k≠0:=fun e=>h (by rw [e,Nat.mul_comm] at h5; omega)
  generalize nv a/k=q at *
  generalize nv a%k=m at *
  have h8:(nv a:Int)=k*q+m:=by rw [← h5]; push_cast; rfl
  rw [h8,show -((k:Int)*q+m)=(k - m)+k*(-(q+1)) by grind,Int.add_mul_ediv_left _ _ qN,Int.ediv_eq_zero_of_lt qN qN]
  push_cast; omega
 rw [hkz]
 refine mV Tryz.func96 ?_
 refine aQ (aA (d:=I s a) qM) fun p hp=>?_
 refine aI (d:=I false []) fun o ho=>?_
 refine aF 1 rfl hp ?_
 refine aK 1 rfl (aC (aG _)) (gD _) fun u1=>?_
 refine cG (h1 u1) fun m1=>?_
 refine bC [0,1,2,3,4,6,7,5,8,9,10] [0,1,2,3,4,5,6,7,8,9,10] qK qK ?_
 refine aF 1 rfl hp ?_
 refine aB 1 rfl (aJ (aG _)) ?_
 cases s with
 | false =>
  refine aF 1 rfl hp ?_
  refine aB 1 rfl (aJ (aG _)) ?_
  refine cG (fD m1 false (nv a/k) (iv false a/(k:Int)) (by rw [e0]; rfl)) fun z=>?_
  refine bY (d:=zd (iv false a/(k:Int))) 0 rfl ho rfl qK (aA (v:=z) qM) ?_
  refine aE (d:=zd (iv false a/(k:Int))) 0 rfl ho rfl (eN _ _) fun r=>?_
  exact fin ⟨rfl,rfl⟩ (dS (dS (aD (fs':=[(r,zd (iv false a/(k:Int)))]) qS)))
 | true =>
  refine aF 1 rfl hp ?_
  refine aK 1 rfl (aC (aG _)) (gD _) fun u2=>?_
  refine cG (h2 m1) fun m2=>?_
  refine cH (h3 m2 u2) ?_
  refine aO _ rfl (fun hne=>?_) (fun hne=>?_)
  ·have hodd:nv a/k*k≠nv a:=fun e=>hne (hc.2.2.2 e)
   refine lit_U 1 rfl fun q1=>?_
   refine cG (h4 m1 q1) fun m3=>?_
   refine aF 1 rfl hp ?_
   refine aB 1 rfl (aJ (aG _)) ?_
   refine cG (fD m3 true (nv a/k+1) (iv true a/(k:Int)) (by rw [e2 hodd]; rfl)) fun z=>?_
   refine bY (d:=zd (iv true a/(k:Int))) 0 rfl ho rfl qK (aA (v:=z) qM) ?_
   refine aE (d:=zd (iv true a/(k:Int))) 0 rfl ho rfl (eN _ _) fun r=>?_
   exact fin ⟨rfl,rfl⟩ (dS (dS (aD (fs':=[(r,zd (iv true a/(k:Int)))]) qS)))
  ·have hev:nv a/k*k=nv a:=hc.2.2.1 qN
   refine aF 1 rfl hp ?_
   refine aB 1 rfl (aJ (aG _)) ?_
   refine cG (fD m1 true (nv a/k) (iv true a/(k:Int)) (by rw [e1 hev]; rfl)) fun z=>?_
   refine bY (d:=zd (iv true a/(k:Int))) 0 rfl ho rfl qK (aA (v:=z) qM) ?_
   refine aE (d:=zd (iv true a/(k:Int))) 0 rfl ho rfl (eN _ _) fun r=>?_
   exact fin ⟨rfl,rfl⟩ (dS (dS (aD (fs':=[(r,zd (iv true a/(k:Int)))]) qS)))
theorem zShrN (v:Value) (x n:Int) (a:Nat) (hx:sz x a) (ha:a≤137438953472) :
  aY Tryz.prog 96 [v,.int .i64 n] [(v,zd x)] (fun r os fs=>os=[]∧fs=[(r,zd (x/2^far n))]):=by
 have h:=zShrJ v (decide (x<0)) (b9 x.natAbs) n (cK _) (Nat.le_trans hx.len ha)
 rw [rJ] at h
 exact h
theorem zSmallZ (v:Value) (x:Int) (a:Nat) (hx:sz x a) (ha:a≤137438953472) :
  aY Tryz.prog 180 [v] [(v,zd x)] (fun r os fs=>os=[]∧fs=[]∧r=.tuple #[.int .i64 (fZ x).1,.bool (fZ x).2]):=by
 have h:=zSmall_meets v (cn x) (cK _) (Nat.le_trans hx.len ha)
 rw [jv_cn] at h
 exact h
def upz (a b:Int):Int := -(-a/b)
theorem sz_upz {a b:Int} {e:Nat} (h:sz a e):sz (upz a b) e:=by
 unfold upz sz
 rw [Int.natAbs_neg]
 exact m6 (by unfold sz; rwa [Int.natAbs_neg])
theorem gG {a:Int} {e:Nat} (h:sz a e):sz (-a) e:=by unfold sz; rwa [Int.natAbs_neg]
theorem zUp (v w:Value) (x y:Int) (a:Nat) (hx:sz x a) (hy:sz y a) (ha:a≤137438953472) (h0:0<y) :
  aY Tryz.prog 171 [v,w] [(v,zd x),(w,zd y)] (fun r os fs=>os=[]∧∃ q,r=.tuple #[q,.bool true]∧fs=[(q,zd (upz x y))]):=by
 refine mV Tryz.func171 ?_
 refine aQ (aA (d:=zd x) qM) fun p1 hp1=>?_
 refine aQ (aA (d:=zd y) qM) fun p2 hp2=>?_
 refine aI (d:=zd 0) fun p3 hp3=>?_
 refine fN [0,2,1,3,4,5,6,7,8,9] [0,1,2,3,4,5,7,8,6,9] qK qK qK ?_
 refine aE (d:=zd x) 2 rfl hp1 rfl (aR _) fun u1=>?_
 refine aE (d:=zd y) 1 rfl hp2 rfl (aR _) fun u2=>?_
 refine cG (sL u1 x a hx ha) fun u3=>?_
 refine cF (zDown_meets u3 u2 (-x) y a a (gG hx) hy ha ha h0) ?_
 rintro _ _ _ ⟨rfl,z1,rfl,rfl⟩
 refine aI (d:=zd 0) fun p4 hp4=>?_
 refine bY (d:=zd (-x/y)) 0 rfl hp4 rfl qK (aA (d:=zd (-x/y)) qM) ?_
 refine aE (d:=zd (-x/y)) 0 rfl hp4 rfl (aR _) fun u4=>?_
 refine cG (sL u4 (-x/y) a (m6 (gG hx)) ha) fun u5=>?_
 refine bY (d:=zd (upz x y)) 1 rfl hp3 rfl qK (aA (d:=zd (upz x y)) qM) ?_
 refine aE (d:=zd (upz x y)) 1 rfl hp3 rfl (aR _) fun r6=>?_
 exact fin ⟨rfl,r6,rfl,rfl⟩ (dS (dS (dS (dS (aD (fs':=[(r6,zd (upz x y))]) qS)))))
theorem zSame (v w:Value) (x y:Int) (a:Nat) (hx:sz x a) (hy:sz y a) (ha:a≤137438953472) :
  aY Tryz.prog 11 [v,w] [(v,zd x),(w,zd y)] (fun r os fs=>os=[]∧fs=[]∧r=.bool (decide (x=y))):=by
 refine mV Tryz.func11 ?_
 refine aQ (aA (d:=zd x) qM) fun p1 hp1=>?_
 refine aQ (aA (d:=zd y) qM) fun p2 hp2=>?_
 refine aE (d:=zd x) 1 rfl hp1 rfl (aR _) fun u1=>?_
 refine aE (d:=zd y) 0 rfl hp2 rfl (aR _) fun u2=>?_
 refine cH (mL u1 u2 x y a hx hy ha) ?_
 refine cmp_dec (decide (x=y)) rfl (by rw [decide_eq_decide,Int.sign_eq_zero_iff_zero]; omega) ?_
 exact fin ⟨rfl,rfl,rfl⟩ (dS (dS (aD (fs':=[]) qS)))
theorem tO (v:Value) (x:Int) (a:Nat) (hx:sz x a) (ha:a≤137438953472) :
  aY Tryz.prog 61 [v] [(v,zd x)] (fun r os fs=>os=[]∧fs=[]∧r=.int .i64 (bH x.natAbs:Nat)):=by
 refine mV Tryz.func61 ?_
 refine aQ (aA (d:=zd x) qM) fun p1 hp1=>?_
 refine aF 0 rfl hp1 ?_
 refine aK (d:=U (b9 x.natAbs)) 0 rfl (aC (aG _)) (show lG _ _ from inferInstance) fun u1=>?_
 refine cH (sH u1 _ (cK _) (Nat.le_trans hx.len qN)) ?_
 exact fin ⟨rfl,rfl,by rw [dN]; rfl⟩ (dS (aD (fs':=[]) qS))
theorem far_le (n:Int):far n≤8192:=by unfold far; omega
theorem sz_pow2 {k:Nat} (h:k≤8192):sz ((2:Int)^k) 129:=by
 have e:((2:Int)^k).natAbs=2^k:=by rw [Int.natAbs_pow]; rfl
 unfold sz
 rw [e,show (18446744073709551616:Nat)=2^64 from rfl,← Nat.pow_mul]
 have h2:k<64*129:=by omega
 generalize 64*129=n at h2 ⊢
 exact Nat.pow_lt_pow_right qE h2
theorem fK {x n:Int} {a:Nat} (h:sz x a):sz (x*2^far n) (a+129):=h.mul (sz_pow2 (far_le n))
theorem rT {x n:Int} {a:Nat} (h:sz x a):sz (x/2^far n) a:=m6 h
theorem pow2_pos (n:Int):(0:Int)<2^far n:=Int.pow_pos qE
abbrev P2:=Int×Int
def cC (p:P2) (t by' q:Int):P2:=(p.1*t/(by'*2^far q),upz (p.2*t) (by'*2^far q))
def kP (p:P2) (k:Int):P2:=cC p 1 k 0
def mT (p o:P2):P2:=(p.1+o.1,p.2+o.2)
def pT (p o:P2):P2:=(p.1 - o.2,p.2 - o.1)
def szP (p:P2) (a:Nat):Prop:=sz p.1 a∧sz p.2 a
theorem rTimes (v w:Value) (p:P2) (t by' q:Int) (a:Nat) (hp:szP p a) (ht:sz t a) (ha:a≤1000000000) (h0:0<by') (h1:by'<9223372036854775808) :
  aY Tryz.prog 161 [v,w,.int .i64 by',.int .i64 q] [(v,bS p.1 p.2),(w,zd t)] (fun r os fs=>os=[]∧fs=[(r,bS (cC p t by' q).1 (cC p t by' q).2)]):=by
 have hd:sz (by'*2^far q) 130:=(fK (n:=q) (dR by' qN)).mono qN
 have hd0:0<by'*2^far q:=Int.mul_pos h0 (pow2_pos q)
 refine mV Tryz.func161 ?_
 refine aQ (aA (d:=bS p.1 p.2) qM) fun p1 hp1=>?_
 refine aQ (aA (d:=zd t) qM) fun p2 hp2=>?_
 refine aI (d:=bS 0 0) fun p3 hp3=>?_
 refine cG (fB by' qN h1) fun u1=>?_
 refine cG (mZ u1 by' q 1 (dR by' qN) qN) fun u2=>?_
 refine aI (d:=zd 0) fun p4 hp4=>?_
 refine aH (d:=zd (by'*2^far q)) 0 rfl hp4 rfl qK (aA (d:=zd (by'*2^far q)) qM) ?_
 refine fN [0,1,2,4,3,5,6,7,8,9,10,11,12,13,14] [0,1,2,3,4,5,6,7,10,11,12,8,13,9,14] qK qK qK ?_
 refine aF 3 rfl hp1 ?_
 refine aK (d:=zd p.1) 3 rfl (aJ (aG _)) (aR _) fun u3=>?_
 refine aE (d:=zd t) 2 rfl hp2 rfl (aR _) fun u4=>?_
 refine aE (d:=zd (by'*2^far q)) 0 rfl hp4 rfl (aR _) fun u5=>?_
 refine cG (zMulZ u3 u4 p.1 t a a hp.1 ht qN qN) fun u6=>?_
 refine cF (sS u6 u5 (p.1*t) (by'*2^far q) (a+a) 130 (hp.1.mul ht) hd qN qN qN) ?_
 rintro _ _ _ ⟨rfl,q1,m1,rfl,rfl⟩
 refine aI (d:=zd 0) fun p5 hp5=>?_
 refine aI (d:=zd 0) fun p6 hp6=>?_
 refine aH (d:=zd (p.1*t/(by'*2^far q))) 1 rfl hp5 rfl qK (aA (d:=zd (p.1*t/(by'*2^far q))) qM) ?_
 refine aH (d:=zd (p.1*t%(by'*2^far q))) 0 rfl hp6 rfl qK (aA (d:=zd (p.1*t%(by'*2^far q))) qM) ?_
 refine fN [0,1,2,4,3,5,6,7,8,9,10,11] [0,1,2,3,4,5,6,7,9,10,8,11] qK qK qK ?_
 refine aF 5 rfl hp1 ?_
 refine aK (d:=zd p.2) 5 rfl (aC (aG _)) (aR _) fun u7=>?_
 refine aE (d:=zd t) 4 rfl hp2 rfl (aR _) fun u8=>?_
 refine aE (d:=zd (by'*2^far q)) 2 rfl hp4 rfl (aR _) fun u9=>?_
 refine cG (zMulZ u7 u8 p.2 t a a hp.2 ht qN qN) fun u10=>?_
 refine cF (zUp u10 u9 (p.2*t) (by'*2^far q) (a+a+130) ((hp.2.mul ht).mono qN) (hd.mono qN) qN hd0) ?_
 rintro _ _ _ ⟨rfl,q2,rfl,rfl⟩
 refine aI (d:=zd 0) fun p7 hp7=>?_
 refine aH (d:=zd (upz (p.2*t) (by'*2^far q))) 0 rfl hp7 rfl qK (aA (d:=zd (upz (p.2*t) (by'*2^far q))) qM) ?_
 refine aE (d:=zd (p.1*t/(by'*2^far q))) 2 rfl hp5 rfl (aR _) fun u11=>?_
 refine aE (d:=zd (upz (p.2*t) (by'*2^far q))) 0 rfl hp7 rfl (aR _) fun u12=>?_
 refine dE [zd (p.1*t/(by'*2^far q)),zd (upz (p.2*t) (by'*2^far q))] (by exact ⟨⟨aA qM,rfl⟩,⟨aA qM,rfl⟩,trivial⟩) fun u13=>?_
 refine aH (d:=bS (cC p t by' q).1 (cC p t by' q).2) 4 rfl hp3 rfl qK (aA (d:=bS (cC p t by' q).1 (cC p t by' q).2) qM) ?_
 refine aE (d:=bS (cC p t by' q).1 (cC p t by' q).2) 4 rfl hp3 rfl (eD _ _) fun r14=>?_
 exact fin ⟨rfl,rfl⟩ (dS (dS (dS (dS (dS (dS (dS (aD (fs':=[(r14,bS (cC p t by' q).1 (cC p t by' q).2)]) qS))))))))
theorem rOver (v:Value) (p:P2) (k:Int) (a:Nat) (hp:szP p a) (ha:a≤999999999) (h0:0<k) (h1:k<9223372036854775808) :
  aY Tryz.prog 162 [v,.int .i64 k] [(v,bS p.1 p.2)] (fun r os fs=>os=[]∧fs=[(r,bS (kP p k).1 (kP p k).2)]):=by
 refine mV Tryz.func162 ?_
 refine aQ (aA (d:=bS p.1 p.2) qM) fun p1 hp1=>?_
 refine aI (d:=bS 0 0) fun p2 hp2=>?_
 refine bC [0,2,1,3,4] [0,1,2,3,4] qK qK ?_
 refine aE (d:=bS p.1 p.2) 1 rfl hp1 rfl (eD _ _) fun u1=>?_
 refine cG (fB 1 qN qN) fun u2=>?_
 refine cG (rTimes u1 u2 p 1 k 0 (a+1) ⟨hp.1.mono qN,hp.2.mono qN⟩ ((dR 1 qE).mono qN) qN h0 h1) fun u3=>?_
 refine aH (d:=bS ((kP p k).1) ((kP p k).2)) 0 rfl hp2 rfl qK (aA (d:=bS ((kP p k).1) ((kP p k).2)) qM) ?_
 refine aE (d:=bS ((kP p k).1) ((kP p k).2)) 0 rfl hp2 rfl (eD _ _) fun r4=>?_
 exact fin ⟨rfl,rfl⟩ (dS (dS (aD (fs':=[(r4,bS ((kP p k).1) ((kP p k).2))]) qS)))
theorem rPlus (v w:Value) (p o:P2) (a:Nat) (hp:szP p a) (ho:szP o a) (ha:a≤1000000000) :
  aY Tryz.prog 159 [v,w] [(v,bS p.1 p.2),(w,bS o.1 o.2)] (fun r os fs=>os=[]∧fs=[(r,bS (mT p o).1 (mT p o).2)]):=by
 refine mV Tryz.func159 ?_
 refine aQ (aA (d:=bS p.1 p.2) qM) fun p1 hp1=>?_
 refine aQ (aA (d:=bS o.1 o.2) qM) fun p2 hp2=>?_
 refine aI (d:=bS 0 0) fun p3 hp3=>?_
 refine bC [0,1,2,3,5,6,7,8,4,9,10,11] [0,1,2,3,4,5,6,7,8,9,10,11] qK qK ?_
 refine aF 2 rfl hp1 ?_
 refine aK (d:=zd p.1) 2 rfl (aJ (aG _)) (aR _) fun u1=>?_
 refine aF 1 rfl hp2 ?_
 refine aK (d:=zd o.1) 1 rfl (aJ (aG _)) (aR _) fun u2=>?_
 refine aF 2 rfl hp1 ?_
 refine aK (d:=zd p.2) 2 rfl (aC (aG _)) (aR _) fun u3=>?_
 refine aF 1 rfl hp2 ?_
 refine aK (d:=zd o.2) 1 rfl (aC (aG _)) (aR _) fun u4=>?_
 refine cG (zAddZ u1 u2 p.1 o.1 a a hp.1 ho.1 qN qN) fun u5=>?_
 refine cG (zAddZ u3 u4 p.2 o.2 a a hp.2 ho.2 qN qN) fun u6=>?_
 refine dE [zd (p.1+o.1),zd (p.2+o.2)] (by exact ⟨⟨aA qM,rfl⟩,⟨aA qM,rfl⟩,trivial⟩) fun u7=>?_
 refine aH (d:=bS (mT p o).1 (mT p o).2) 0 rfl hp3 rfl qK (aA (d:=bS (mT p o).1 (mT p o).2) qM) ?_
 refine aE (d:=bS (mT p o).1 (mT p o).2) 0 rfl hp3 rfl (eD _ _) fun r8=>?_
 exact fin ⟨rfl,rfl⟩ (dS (dS (dS (aD (fs':=[(r8,bS (mT p o).1 (mT p o).2)]) qS))))
theorem rLess (v w:Value) (p o:P2) (a:Nat) (hp:szP p a) (ho:szP o a) (ha:a≤1000000000) :
  aY Tryz.prog 248 [v,w] [(v,bS p.1 p.2),(w,bS o.1 o.2)] (fun r os fs=>os=[]∧fs=[(r,bS (pT p o).1 (pT p o).2)]):=by
 refine mV Tryz.func248 ?_
 refine aQ (aA (d:=bS p.1 p.2) qM) fun p1 hp1=>?_
 refine aQ (aA (d:=bS o.1 o.2) qM) fun p2 hp2=>?_
 refine aI (d:=bS 0 0) fun p3 hp3=>?_
 refine bC [0,1,2,3,5,6,7,8,4,9,10,11] [0,1,2,3,4,5,6,7,8,9,10,11] qK qK ?_
 refine aF 2 rfl hp1 ?_
 refine aK (d:=zd p.1) 2 rfl (aJ (aG _)) (aR _) fun u1=>?_
 refine aF 1 rfl hp2 ?_
 refine aK (d:=zd o.2) 1 rfl (aC (aG _)) (aR _) fun u2=>?_
 refine aF 2 rfl hp1 ?_
 refine aK (d:=zd p.2) 2 rfl (aC (aG _)) (aR _) fun u3=>?_
 refine aF 1 rfl hp2 ?_
 refine aK (d:=zd o.1) 1 rfl (aJ (aG _)) (aR _) fun u4=>?_
 refine cG (tN u1 u2 p.1 o.2 a a hp.1 ho.2 qN qN) fun u5=>?_
 refine cG (tN u3 u4 p.2 o.1 a a hp.2 ho.1 qN qN) fun u6=>?_
 refine dE [zd (p.1 - o.2),zd (p.2 - o.1)] (by exact ⟨⟨aA qM,rfl⟩,⟨aA qM,rfl⟩,trivial⟩) fun u7=>?_
 refine aH (d:=bS (pT p o).1 (pT p o).2) 0 rfl hp3 rfl qK (aA (d:=bS (pT p o).1 (pT p o).2) qM) ?_
 refine aE (d:=bS (pT p o).1 (pT p o).2) 0 rfl hp3 rfl (eD _ _) fun r8=>?_
 exact fin ⟨rfl,rfl⟩ (dS (dS (dS (aD (fs':=[(r8,bS (pT p o).1 (pT p o).2)]) qS))))
structure FunK (P:Program) (fv:Value) (args:List Value) (cfs:List bA) (D:Dat):Prop where
 out:∀ (d:Bool) (os:List Own) (fs:List bA) (K:cE),Sub cfs fs→(∀ u,K u os ((u,D)::fs))→CallK P d fv args os fs K
theorem FunK.of {P:Program} {g:FuncId} {args caps:List Value} {cfs:List bA} {D:Dat} (h:aY P g (args++caps) cfs (fun r os fs=>os=[]∧fs=[(r,D)])):FunK P (.func (.func g) #[] caps.toArray) args cfs D :=
 ⟨fun d os fs K hs k=>qC (first:=[]) (aT _ _) (by simpa using h) hs fun v os' fs' h=>by obtain ⟨h1,h2⟩:=h; subst h1 h2; exact k v⟩
theorem funk {P:Program} {fv:Value} {args:List Value} {cfs:List bA} {D:Dat} {d:Bool} {os:List Own} {fs:List bA} {K:cE} (h:FunK P fv args cfs D) (hs:Sub cfs fs) (k:∀ u,K u os ((u,D)::fs)):CallK P d fv args os fs K:=h.out d os fs K hs k
def itN (next:Nat→P2→P2) (first:P2):Nat→P2
 | 0=>first
 | k+1=>next (k+1) (itN next first k)
def smN (next term:Nat→P2→P2) (first:P2):Nat→P2
 | 0=>(0,0)
 | k+1=>mT (smN next term first k) (term k (itN next first k))
def mS (next term:Nat→P2→P2) (first:P2) (n:Nat):P2:=((smN next term first n).1,(smN next term first n).2+(term n (itN next first n)).2*2^far 1)
theorem rRising (v nv tv:Value) (n:Nat) (next term:Nat→P2→P2) (first:P2) (Fs:List bA) (a:Nat) (hn:n≤1000000) (ha:a≤1000000000)
  (hit:∀ k,k≤n→szP (itN next first k) a) (htm:∀ k,k≤n→szP (term k (itN next first k)) a) (hsm:∀ k,k≤n→szP (smN next term first k) a)
  (hnext:∀ k u,k<n→FunK Tryz.prog nv [.int .i64 (k+1:Nat),u] ((u,bS (itN next first k).1 (itN next first k).2)::Fs) (bS (itN next first (k+1)).1 (itN next first (k+1)).2))
  (hterm:∀ k u,k≤n→FunK Tryz.prog tv [.int .i64 (k:Nat),u] ((u,bS (itN next first k).1 (itN next first k).2)::Fs) (bS (term k (itN next first k)).1 (term k (itN next first k)).2)) :
  aY Tryz.prog 143 [.int .i64 (n:Nat),v,nv,tv] ((v,bS first.1 first.2)::Fs) (fun r os fs=>os=[]∧∃ x y,r=.tuple #[x,y,.int .i64 0]∧fs=[(x,zd (mS next term first n).1),(y,zd (mS next term first n).2)]):=by
 refine mV Tryz.func143 ?_
 refine aQ (aA (d:=bS first.1 first.2) qM) fun p1 hp1=>?_
 refine aI (d:=zd 0) fun p2 hp2=>?_
 refine aI (d:=zd 0) fun p3 hp3=>?_
 refine aI (d:=bS 0 0) fun p4 hp4=>?_
 refine bD (X:=Nat) (fun x=>([(0,.int .i64 (n:Nat)),(2,nv),(3,tv),(5,p1),(8,p2),(9,p3),(10,.int .i64 0),(11,p4),(13,.int .i64 (n:Nat)),(14,.int .i64 (x:Nat))],[bL p4 4 1 (fun _=>bS (smN next term first x).1 (smN next term first x).2),bL p3 2 1 (fun _=>zd 0),bL p2 2 1 (fun _=>zd 0),bL p1 4 1 (fun _=>bS (itN next first x).1 (itN next first x).2)],Fs)) (fun x=>x≤n) (fun x=>n - x) rfl ?_ ?_
 ·exact bB 0 (Nat.zero_le _) trivial qF (aD (fs':=Fs) (by intro F hF; repeat (first | exact hF | apply List.Mem.tail)))
 ·rintro x hx
  replace hx:x≤n:=hx
  refine aO (((x:Nat):Int)<((n:Nat):Int)) rfl (fun hlt=>?_) (fun hlt=>?_)
  ·refine bC [0,1,2,3,4,5,6] [0,1,2,3,4,5,6] qK qK ?_
   refine aE (d:=bS (smN next term first x).1 (smN next term first x).2) 0 rfl hp4 rfl (eD _ _) fun u1=>?_
   refine aE (d:=bS (itN next first x).1 (itN next first x).2) 3 rfl hp1 rfl (eD _ _) fun u2=>?_
   refine funk (hterm x u2 qN) (aX qM qD) fun u3=>?_
   refine cG (rPlus u1 u3 (smN next term first x) (term x (itN next first x)) a (hsm x qN) (htm x qN) ha) fun u4=>?_
   refine aH (d:=bS (smN next term first (x+1)).1 (smN next term first (x+1)).2) 0 rfl hp4 rfl qK (aA (d:=bS (smN next term first (x+1)).1 (smN next term first (x+1)).2) qM) ?_
   refine ar rfl qI ?_
   rw [show ((x:Nat):Int)+1=((x+1:Nat):Int) by push_cast; rfl]
   refine aE (d:=bS (itN next first x).1 (itN next first x).2) 3 rfl hp1 rfl (eD _ _) fun u5=>?_
   refine funk (hnext x u5 qN) (aX qM qD) fun u6=>?_
   refine aH (d:=bS (itN next first (x+1)).1 (itN next first (x+1)).2) 3 rfl hp1 rfl qK (aA (d:=bS (itN next first (x+1)).1 (itN next first (x+1)).2) qM) ?_
   refine ar rfl qI ?_
   exact bB (x+1) qO qO qF (aD (fs':=Fs) (by intro F hF; repeat (first | exact hF | apply List.Mem.tail)))
  ·obtain rfl:n=x:=by omega
   refine bC [0,1,3,4,5,6,7,2,8,9,10,11,12,13,14] [0,1,2,3,4,5,6,7,8,9,10,11,12,13,14] qK qK ?_
   refine aF 0 rfl hp4 ?_
   refine aK (d:=zd ((smN next term first n).1)) 0 rfl (aJ (aG _)) (aR _) fun u1=>?_
   refine aF 0 rfl hp4 ?_
   refine aK (d:=zd ((smN next term first n).2)) 0 rfl (aC (aG _)) (aR _) fun u2=>?_
   refine aE (d:=bS (itN next first n).1 (itN next first n).2) 3 rfl hp1 rfl (eD _ _) fun u3=>?_
   refine cG (zNormZ u1 _ a (hsm n (Nat.le_refl _)).1 qN) fun u4=>?_
   refine funk (hterm n u3 (Nat.le_refl _)) (aX qM qD) fun u5=>?_
   refine rK (d:=bS (term n (itN next first n)).1 (term n (itN next first n)).2) (d':=zd ((term n (itN next first n)).2)) qM (aC (aG _)) fun u6=>?_
   refine cG (mZ u6 _ 1 a (htm n (Nat.le_refl _)).2 qN) fun u7=>?_
   refine cG (zAddZ u2 u7 _ _ (a+129) (a+129) ((hsm n (Nat.le_refl _)).2.mono qN) (fK (htm n (Nat.le_refl _)).2) qN qN) fun u8=>?_
   refine aH (d:=zd ((smN next term first n).1)) 2 rfl hp2 rfl qK (aA (d:=zd ((smN next term first n).1)) qM) ?_
   refine aH (d:=zd ((mS next term first n).2)) 1 rfl hp3 rfl qK (aA (d:=zd ((mS next term first n).2)) qM) ?_
   refine aE (d:=zd ((smN next term first n).1)) 2 rfl hp2 rfl (aR _) fun r9=>?_
   refine aE (d:=zd ((mS next term first n).2)) 1 rfl hp3 rfl (aR _) fun r10=>?_
   exact fin ⟨rfl,r9,r10,rfl,rfl⟩ (dS (dS (dS (dS (aD (fs':=[(r9,zd ((smN next term first n).1)),(r10,zd ((mS next term first n).2))]) qS)))))
theorem vX {P:Program} {t:TypeId} {x y:Operand} {os:List Own} {fs:List bA} {K:cE} (a:Nat) {z m:Int} (k p:Nat) (hz:z=(a:Int)) (hp:p=2^k) (hm:m=((p - 1:Nat):Int)) (ha:a<9223372036854775808) (hk:k≤62)
  (h1:K (.int .i64 ((a%p:Nat):Int)) os fs):pC P .and t x y (.int .i64 z) (.int .i64 m) os fs K:=by
 subst hz hm hp
 have hp:2^k≤2^62:=Nat.pow_le_pow_right qE hk
 have hlt:2^k - 1<18446744073709551616:=by omega
 refine ⟨dD _ (fun w=>?_) h1⟩
 have hb:(BitVec.ofInt 64 (a:Int) &&& BitVec.ofInt 64 ((2^k - 1:Nat):Int)).toNat=a%2^k:=by
  rw [BitVec.toNat_and]
  have e1:(BitVec.ofInt 64 (a:Int)).toNat=a:=by rw [BitVec.toNat_ofInt]; omega
  have e2:(BitVec.ofInt 64 ((2^k - 1:Nat):Int)).toNat=2^k - 1:=by
   generalize 2^k - 1=q at hlt
   rw [BitVec.toNat_ofInt]; omega
  rw [e1,e2,Nat.and_two_pow_sub_one_eq_mod]
 have hw:IntKind.i64.wrap ((a%2^k:Nat):Int)=((a%2^k:Nat):Int):=bT (by
  have:a%2^k≤a:=Nat.mod_le _ _
  exact ⟨by omega,by omega⟩)
 have hd:∀ X Y:BitVec 64,(X &&& Y).toNat=a%2^k→IntKind.i64.wrap ((X &&& Y).toNat:Int)=((a%2^k:Nat):Int):=fun X Y h=>by rw [h,hw]
 simp only [eqGuard,binOp,Op.intBits,Sem.run_bind,Sem.run_pure,Result.andThen_ok,IntKind.bits,ne_eq,not_true,if_false]
 exact congrArg (fun n=>Result.ok (Value.int .i64 n) w) (hd _ _ hb)
theorem rOne (q:Int):aY Tryz.prog 214 [.int .i64 q] [] (fun r os fs=>os=[]∧fs=[(r,bS (1*2^far q) (1*2^far q))]):=by
 refine mV Tryz.func214 ?_
 refine aI (d:=bS 0 0) fun p1 hp1=>?_
 refine cG (fB 1 qN qN) fun u1=>?_
 refine cG (mZ u1 1 q 1 (dR 1 qE) qN) fun u2=>?_
 refine cG (fB 1 qN qN) fun u3=>?_
 refine cG (mZ u3 1 q 1 (dR 1 qE) qN) fun u4=>?_
 refine dE [zd (1*2^far q),zd (1*2^far q)] (by exact ⟨⟨aA qM,rfl⟩,⟨aA qM,rfl⟩,trivial⟩) fun u5=>?_
 refine aH (d:=bS (1*2^far q) (1*2^far q)) 0 rfl hp1 rfl qK (aA (d:=bS (1*2^far q) (1*2^far q)) qM) ?_
 refine aE (d:=bS (1*2^far q) (1*2^far q)) 0 rfl hp1 rfl (eD _ _) fun r6=>?_
 exact fin ⟨rfl,rfl⟩ (dS (aD (fs':=[(r6,bS (1*2^far q) (1*2^far q))]) qS))
theorem rWhole (v k:Value) (p:P2):aY Tryz.prog 216 [k,v] [(v,bS p.1 p.2)] (fun r os fs=>os=[]∧fs=[(r,bS p.1 p.2)]):=by
 refine mV Tryz.func216 ?_
 refine aQ (aA (d:=bS p.1 p.2) qM) fun p1 hp1=>?_
 refine aI (d:=bS 0 0) fun p2 hp2=>?_
 refine aE (d:=bS p.1 p.2) 1 rfl hp1 rfl (eD _ _) fun u1=>?_
 refine aH (d:=bS p.1 p.2) 0 rfl hp2 rfl qK (aA (d:=bS p.1 p.2) qM) ?_
 refine aE (d:=bS p.1 p.2) 0 rfl hp2 rfl (eD _ _) fun r2=>?_
 exact fin ⟨rfl,rfl⟩ (dS (dS (aD (fs':=[(r2,bS p.1 p.2)]) qS)))
theorem rOdd (v:Value) (k:Nat) (p:P2) (a:Nat) (hp:szP p a) (ha:a≤999999999) (hk:k≤1000000):aY Tryz.prog 145 [.int .i64 (k:Nat),v] [(v,bS p.1 p.2)] (fun r os fs=>os=[]∧fs=[(r,bS (kP p (2*k+1)).1 (kP p (2*k+1)).2)]):=by
 refine mV Tryz.func145 ?_
 refine aQ (aA (d:=bS p.1 p.2) qM) fun p1 hp1=>?_
 refine aI (d:=bS 0 0) fun p2 hp2=>?_
 refine aE (d:=bS p.1 p.2) 1 rfl hp1 rfl (eD _ _) fun u1=>?_
 refine ar rfl qI ?_
 refine ar rfl qI ?_
 refine cG (rOver u1 p (2*k+1) a hp ha qN qN) fun u2=>?_
 refine aH (d:=bS (kP p (2*k+1)).1 (kP p (2*k+1)).2) 0 rfl hp2 rfl qK (aA (d:=bS (kP p (2*k+1)).1 (kP p (2*k+1)).2) qM) ?_
 refine aE (d:=bS (kP p (2*k+1)).1 (kP p (2*k+1)).2) 0 rfl hp2 rfl (eD _ _) fun r3=>?_
 exact fin ⟨rfl,rfl⟩ (dS (dS (aD (fs':=[(r3,bS (kP p (2*k+1)).1 (kP p (2*k+1)).2)]) qS)))
theorem rPow1 (v p1' p2' k:Value) (p:P2) (s q:Int) (a:Nat) (hp:szP p a) (hs:sz s a) (ha:a≤1000000000) (hq:0≤q∧q≤4000) :
  aY Tryz.prog 160 [k,v,p1',p2'] [(v,bS p.1 p.2),(p1',.ptr (zd s)),(p2',.ptr (.one (.int .i64 q)))] (fun r os fs=>os=[]∧fs=[(r,bS (cC p s 1 (2*q)).1 (cC p s 1 (2*q)).2)]):=by
 refine mV Tryz.func160 ?_
 refine aQ (aA (d:=bS p.1 p.2) qM) fun p1 hp1=>?_
 refine aI (d:=bS 0 0) fun p2 hp2=>?_
 refine aE (d:=bS p.1 p.2) 1 rfl hp1 rfl (eD _ _) fun u1=>?_
 refine cS (d:=zd s) qM (aR _) fun u2=>?_
 refine bF qM ?_
 refine ar rfl qI ?_
 refine cG (rTimes u1 u2 p s 1 (2*q) a hp hs ha qN qN) fun u3=>?_
 refine aH (d:=bS (cC p s 1 (2*q)).1 (cC p s 1 (2*q)).2) 0 rfl hp2 rfl qK (aA (d:=bS (cC p s 1 (2*q)).1 (cC p s 1 (2*q)).2) qM) ?_
 refine aE (d:=bS (cC p s 1 (2*q)).1 (cC p s 1 (2*q)).2) 0 rfl hp2 rfl (eD _ _) fun r4=>?_
 exact fin ⟨rfl,rfl⟩ (dS (dS (aD (fs':=[(r4,bS (cC p s 1 (2*q)).1 (cC p s 1 (2*q)).2)]) qS)))
theorem rSin1 (v p1' p2':Value) (k:Nat) (p:P2) (s q:Int) (a:Nat) (hp:szP p a) (hs:sz s a) (ha:a≤1000000000) (hq:0≤q∧q≤4000) (hk:1≤k∧k≤1000000) :
  aY Tryz.prog 246 [.int .i64 (k:Nat),v,p1',p2'] [(v,bS p.1 p.2),(p1',.ptr (zd s)),(p2',.ptr (.one (.int .i64 q)))] (fun r os fs=>os=[]∧fs=[(r,bS (cC p s (2*k*(2*k+1)) (2*q)).1 (cC p s (2*k*(2*k+1)) (2*q)).2)]):=by
 have h1:2*(k:Int)*(2*(k:Int)+1)≤2000000*2000001:=Int.mul_le_mul qN qN qN qN
 have h2:0<2*(k:Int)*(2*(k:Int)+1):=Int.mul_pos qN qN
 have hkk:((k:Nat):Int)=k:=rfl
 refine mV Tryz.func246 ?_
 refine aQ (aA (d:=bS p.1 p.2) qM) fun p1 hp1=>?_
 refine aI (d:=bS 0 0) fun p2 hp2=>?_
 refine aE (d:=bS p.1 p.2) 1 rfl hp1 rfl (eD _ _) fun u1=>?_
 refine cS (d:=zd s) qM (aR _) fun u2=>?_
 refine ar rfl qI ?_
 refine ar rfl qI ?_
 refine ar rfl qI ?_
 refine ar rfl ⟨by omega,by omega⟩ ?_
 refine bF qM ?_
 refine ar rfl qI ?_
 refine cG (rTimes u1 u2 p s (2*k*(2*k+1)) (2*q) a hp hs ha qN qN) fun u3=>?_
 refine aH (d:=bS (cC p s (2*k*(2*k+1)) (2*q)).1 (cC p s (2*k*(2*k+1)) (2*q)).2) 0 rfl hp2 rfl qK (aA (d:=bS (cC p s (2*k*(2*k+1)) (2*q)).1 (cC p s (2*k*(2*k+1)) (2*q)).2) qM) ?_
 refine aE (d:=bS (cC p s (2*k*(2*k+1)) (2*q)).1 (cC p s (2*k*(2*k+1)) (2*q)).2) 0 rfl hp2 rfl (eD _ _) fun r4=>?_
 exact fin ⟨rfl,rfl⟩ (dS (dS (aD (fs':=[(r4,bS (cC p s (2*k*(2*k+1)) (2*q)).1 (cC p s (2*k*(2*k+1)) (2*q)).2)]) qS)))
def smT (next term:Nat→P2→P2) (first:P2):Nat→P2
 | 0=>(0,0)
 | k+1=>if k%2=1 then pT (smT next term first k) (term k (itN next first k)) else mT (smT next term first k) (term k (itN next first k))
def lW (next term:Nat→P2→P2) (first:P2) (n:Nat):P2:=((smT next term first (2*n)).1,(smT next term first (2*n)).2+(term (2*n) (itN next first (2*n))).2)
theorem oY {next term:Nat→P2→P2} {first:P2} {k:Nat} (h:k%2=1):smT next term first (k+1)=pT (smT next term first k) (term k (itN next first k)):=by rw [smT,if_pos h]
theorem lZ {next term:Nat→P2→P2} {first:P2} {k:Nat} (h:¬ k%2=1):smT next term first (k+1)=mT (smT next term first k) (term k (itN next first k)):=by rw [smT,if_neg h]
theorem rTurning (v nv tv:Value) (n:Nat) (next term:Nat→P2→P2) (first:P2) (Fs:List bA) (a:Nat) (hn:n≤1000000) (ha:a≤1000000000)
  (htm:∀ k,k≤2*n→szP (term k (itN next first k)) a) (hsm:∀ k,k≤2*n→szP (smT next term first k) a)
  (hnext:∀ k u,k<2*n→FunK Tryz.prog nv [.int .i64 (k+1:Nat),u] ((u,bS (itN next first k).1 (itN next first k).2)::Fs) (bS (itN next first (k+1)).1 (itN next first (k+1)).2))
  (hterm:∀ k u,k≤2*n→FunK Tryz.prog tv [.int .i64 (k:Nat),u] ((u,bS (itN next first k).1 (itN next first k).2)::Fs) (bS (term k (itN next first k)).1 (term k (itN next first k)).2)) :
  aY Tryz.prog 245 [.int .i64 (n:Nat),v,nv,tv] ((v,bS first.1 first.2)::Fs) (fun r os fs=>os=[]∧∃ x y,r=.tuple #[x,y,.int .i64 0]∧fs=[(x,zd (lW next term first n).1),(y,zd (lW next term first n).2)]):=by
 refine mV Tryz.func245 ?_
 refine aQ (aA (d:=bS first.1 first.2) qM) fun p1 hp1=>?_
 refine aI (d:=zd 0) fun p2 hp2=>?_
 refine aI (d:=zd 0) fun p3 hp3=>?_
 refine aI (d:=bS 0 0) fun p4 hp4=>?_
 refine ar rfl qI ?_
 refine bD (X:=Nat) (fun x=>([(0,.int .i64 (n:Nat)),(2,nv),(3,tv),(5,p1),(8,p2),(9,p3),(10,.int .i64 0),(11,p4),(15,.int .i64 (2*(n:Nat))),(16,.int .i64 (x:Nat))],[bL p4 4 1 (fun _=>bS (smT next term first x).1 (smT next term first x).2),bL p3 2 1 (fun _=>zd 0),bL p2 2 1 (fun _=>zd 0),bL p1 4 1 (fun _=>bS (itN next first x).1 (itN next first x).2)],Fs)) (fun x=>x≤2*n) (fun x=>2*n - x) rfl ?_ ?_
 ·exact bB 0 (Nat.zero_le _) trivial qF (aD (fs':=Fs) (by intro F hF; repeat (first | exact hF | apply List.Mem.tail)))
 ·rintro x hx
  replace hx:x≤2*n:=hx
  refine aO (((x:Nat):Int)<2*((n:Nat):Int)) rfl (fun hlt=>?_) (fun hlt=>?_)
  ·refine vX x 1 2 rfl rfl rfl qN qN ?_
   refine aO (((x%2:Nat):Int)=1) rfl (fun hc=>?_) (fun hc=>?_)
   ·replace hc:x%2=1:=by omega
    refine bC [0,1,2,3,4,5,6,7] [0,1,2,3,4,5,6,7] qK qK ?_
    refine aE (d:=bS (smT next term first x).1 (smT next term first x).2) 0 rfl hp4 rfl (eD _ _) fun u1=>?_
    refine aE (d:=bS (itN next first x).1 (itN next first x).2) 3 rfl hp1 rfl (eD _ _) fun u2=>?_
    refine funk (hterm x u2 qN) (aX qM qD) fun u3=>?_
    refine cG (rLess u1 u3 (smT next term first x) (term x (itN next first x)) a (hsm x qN) (htm x qN) ha) fun u4=>?_
    rw [← oY hc]
    refine aH (d:=bS (smT next term first (x+1)).1 (smT next term first (x+1)).2) 0 rfl hp4 rfl qK (aA (d:=bS (smT next term first (x+1)).1 (smT next term first (x+1)).2) qM) ?_
    refine ar rfl qI ?_
    rw [show ((x:Nat):Int)+1=((x+1:Nat):Int) by push_cast; rfl]
    refine aE (d:=bS (itN next first x).1 (itN next first x).2) 3 rfl hp1 rfl (eD _ _) fun u5=>?_
    refine funk (hnext x u5 qN) (aX qM qD) fun u6=>?_
    refine aH (d:=bS (itN next first (x+1)).1 (itN next first (x+1)).2) 3 rfl hp1 rfl qK (aA (d:=bS (itN next first (x+1)).1 (itN next first (x+1)).2) qM) ?_
    refine ar rfl qI ?_
    exact bB (x+1) qO qO qF (aD (fs':=Fs) (by intro F hF; repeat (first | exact hF | apply List.Mem.tail)))
   ·replace hc:¬ x%2=1:=by omega
    refine bC [0,1,2,3,4,5,6,7] [0,1,2,3,4,5,6,7] qK qK ?_
    refine aE (d:=bS (smT next term first x).1 (smT next term first x).2) 0 rfl hp4 rfl (eD _ _) fun u1=>?_
    refine aE (d:=bS (itN next first x).1 (itN next first x).2) 3 rfl hp1 rfl (eD _ _) fun u2=>?_
    refine funk (hterm x u2 qN) (aX qM qD) fun u3=>?_
    refine cG (rPlus u1 u3 (smT next term first x) (term x (itN next first x)) a (hsm x qN) (htm x qN) ha) fun u4=>?_
    rw [← lZ hc]
    refine aH (d:=bS (smT next term first (x+1)).1 (smT next term first (x+1)).2) 0 rfl hp4 rfl qK (aA (d:=bS (smT next term first (x+1)).1 (smT next term first (x+1)).2) qM) ?_
    refine ar rfl qI ?_
    rw [show ((x:Nat):Int)+1=((x+1:Nat):Int) by push_cast; rfl]
    refine aE (d:=bS (itN next first x).1 (itN next first x).2) 3 rfl hp1 rfl (eD _ _) fun u5=>?_
    refine funk (hnext x u5 qN) (aX qM qD) fun u6=>?_
    refine aH (d:=bS (itN next first (x+1)).1 (itN next first (x+1)).2) 3 rfl hp1 rfl qK (aA (d:=bS (itN next first (x+1)).1 (itN next first (x+1)).2) qM) ?_
    refine ar rfl qI ?_
    exact bB (x+1) qO qO qF (aD (fs':=Fs) (by intro F hF; repeat (first | exact hF | apply List.Mem.tail)))
  ·obtain rfl:x=2*n:=by omega
   refine bC [0,1,3,4,5,6,7,8,2,9,10,11,12,13,14] [0,1,2,3,4,5,6,7,8,9,10,11,12,13,14] qK qK ?_
   refine aF 0 rfl hp4 ?_
   refine aK (d:=zd ((smT next term first (2*n)).1)) 0 rfl (aJ (aG _)) (aR _) fun u1=>?_
   refine aF 0 rfl hp4 ?_
   refine aK (d:=zd ((smT next term first (2*n)).2)) 0 rfl (aC (aG _)) (aR _) fun u2=>?_
   refine ar rfl qI ?_
   rw [show 2*((n:Nat):Int)=((2*n:Nat):Int) by push_cast; rfl]
   refine aE (d:=bS (itN next first (2*n)).1 (itN next first (2*n)).2) 3 rfl hp1 rfl (eD _ _) fun u3=>?_
   refine cG (zNormZ u1 _ a (hsm (2*n) (Nat.le_refl _)).1 qN) fun u4=>?_
   refine funk (hterm (2*n) u3 (Nat.le_refl _)) (aX qM qD) fun u5=>?_
   refine rK (d:=bS (term (2*n) (itN next first (2*n))).1 (term (2*n) (itN next first (2*n))).2) (d':=zd ((term (2*n) (itN next first (2*n))).2)) qM (aC (aG _)) fun u6=>?_
   refine cG (zAddZ u2 u6 _ _ a a (hsm (2*n) (Nat.le_refl _)).2 (htm (2*n) (Nat.le_refl _)).2 qN qN) fun u7=>?_
   refine aH (d:=zd ((smT next term first (2*n)).1)) 2 rfl hp2 rfl qK (aA (d:=zd ((smT next term first (2*n)).1)) qM) ?_
   refine aH (d:=zd ((lW next term first n).2)) 1 rfl hp3 rfl qK (aA (d:=zd ((lW next term first n).2)) qM) ?_
   refine aE (d:=zd ((smT next term first (2*n)).1)) 2 rfl hp2 rfl (aR _) fun r8=>?_
   refine aE (d:=zd ((lW next term first n).2)) 1 rfl hp3 rfl (aR _) fun r9=>?_
   exact fin ⟨rfl,r8,r9,rfl,rfl⟩ (dS (dS (dS (dS (aD (fs':=[(r8,zd ((smT next term first (2*n)).1)),(r9,zd ((lW next term first n).2))]) qS)))))
theorem sgn_nn {x:Int} (h:0≤x):0≤x.sign:=by
 rcases Int.lt_trichotomy x 0 with h1 | h1 | h1
 ·omega
 ·rw [h1]; decide
 ·rw [iH h1]; decide
theorem sgn_np {x:Int} (h:x≤0):x.sign≤0:=by
 rcases Int.lt_trichotomy x 0 with h1 | h1 | h1
 ·rw [iI h1]; decide
 ·rw [h1]; decide
 ·omega
theorem eG {p:P2} {t:Int} {e a:Nat} (hp:szP p e) (ht:sz t a) (b q:Int):szP (cC p t b q) (e+a):=⟨m6 (hp.1.mul ht),sz_upz (hp.2.mul ht)⟩
theorem kD {p:P2} {e:Nat} (hp:szP p e) (k:Int):szP (kP p k) (e+1):=eG hp (dR 1 qE) k 0
theorem szP.mono {p:P2} {a b:Nat} (h:szP p a) (hab:a≤b):szP p b:=⟨h.1.mono hab,h.2.mono hab⟩
theorem FunK.sub {P:Program} {fv:Value} {args:List Value} {cfs cfs':List bA} {D:Dat} (h:FunK P fv args cfs' D) (hs:Sub cfs' cfs):FunK P fv args cfs D :=
 ⟨fun d os fs K hc k=>h.out d os fs K (fun F hF=>hc F (hs F hF)) k⟩
theorem szAdd {x y:Int} {k:Nat} (hx:sz x k) (hy:sz y k):sz (x+y) (k+1):=by
 have:=mN hx hy.neg
 rwa [show x - -y=x+y by omega] at this
theorem szP_plus {p o:P2} {e:Nat} (hp:szP p e) (ho:szP o e):szP (mT p o) (e+1):=⟨szAdd hp.1 ho.1,szAdd hp.2 ho.2⟩
theorem szP_less {p o:P2} {e:Nat} (hp:szP p e) (ho:szP o e):szP (pT p o) (e+1):=⟨mN hp.1 ho.2,mN hp.2 ho.1⟩
theorem oS {next:Nat→P2→P2} {first:P2} {e a:Nat} (h0:szP first e) (hs:∀ k p e,szP p e→szP (next k p) (e+a)):∀ k,szP (itN next first k) (e+k*a)
 | 0=>by simpa [itN] using h0
 | k+1=>by
  have:=hs (k+1) _ _ (oS h0 hs k)
  rw [itN]
  exact this.mono (by rw [Nat.succ_mul]; omega)
theorem smN_sz {next term:Nat→P2→P2} {first:P2} {e a:Nat} (h0:szP first e) (hs:∀ k p e,szP p e→szP (next k p) (e+a)) (ht:∀ k p e,szP p e→szP (term k p) (e+1)):∀ k,szP (smN next term first k) (e+k*a+k+1)
 | 0=>⟨iG _,iG _⟩
 | k+1=>by
  have h1:=smN_sz h0 hs ht k
  have h2:=ht k _ _ (oS h0 hs k)
  rw [smN]
  exact (szP_plus (h1.mono (Nat.le_refl _)) (h2.mono qN)).mono (by rw [Nat.succ_mul]; omega)
theorem smT_sz {next term:Nat→P2→P2} {first:P2} {e a:Nat} (h0:szP first e) (hs:∀ k p e,szP p e→szP (next k p) (e+a)) (ht:∀ k p e,szP p e→szP (term k p) (e+1)):∀ k,szP (smT next term first k) (e+k*a+k+1)
 | 0=>⟨iG _,iG _⟩
 | k+1=>by
  have h1:=smT_sz h0 hs ht k
  have h2:=ht k _ _ (oS h0 hs k)
  rw [smT]
  split
  ·exact (szP_less (h1.mono (Nat.le_refl _)) (h2.mono qN)).mono (by rw [Nat.succ_mul]; omega)
  ·exact (szP_plus (h1.mono (Nat.le_refl _)) (h2.mono qN)).mono (by rw [Nat.succ_mul]; omega)
def oneP (q:Int):P2:=(1*2^far q,1*2^far q)
def sO (t q:Int) (k:Nat) (p:P2):P2:=cC p t k q
def dP (t q:Int) (_:Nat) (p:P2):P2:=cC p (t*t) 1 (2*q)
def rE (t q:Int) (k:Nat) (p:P2):P2:=cC p (t*t) (2*k*(2*k+1)) (2*q)
def gQ (t q:Int) (k:Nat) (p:P2):P2:=cC p (t*t) ((2*k - 1)*2*k) (2*q)
def fC (_:Nat) (p:P2):P2:=p
def fR (k:Nat) (p:P2):P2:=kP p (2*k+1)
def rL (t q:Int) (n:Nat):P2:=mS (sO t q) fC (oneP q) n
def dZ (t q:Int) (n:Nat):P2:=mS (dP t q) fR (t,t) n
def fF (t q:Int) (n:Nat):P2:=lW (dP t q) fR (t,t) n
def oZ (t q:Int) (n:Nat):P2:=lW (rE t q) fC (t,t) n
def lS (t q:Int) (n:Nat):P2:=lW (gQ t q) fC (oneP q) n
theorem uJ (q:Int):szP (oneP q) 130:=⟨(fK (dR 1 qE)).mono qN,(fK (dR 1 qE)).mono qN⟩
theorem rMay (v:Value) (t q:Int) (n:Nat) (m:Int) (a:Nat) (ht:sz t a) (ha:a≤1000000000) (hq:0≤q∧q≤1200) (hn:1≤n∧n≤400) (h0:0≤t) (hm:0≤m∧m<10) (hb:t*2^far 1≤m*2^far q) :
  aY Tryz.prog 142 [v,.int .i64 q,.int .i64 (n:Nat),.int .i64 m] [(v,zd t)] (fun r os fs=>os=[]∧fs=[]∧r=.bool true):=by
 refine mV Tryz.func142 ?_
 refine aQ (aA (d:=zd t) qM) fun p1 hp1=>?_
 refine bG rfl qN ?_
 refine bG rfl qN ?_
 refine bG rfl qN ?_
 refine bG rfl qN ?_
 refine aE (d:=zd t) 0 rfl hp1 rfl (aR _) fun u1=>?_
 refine cH (mY u1 t a ht qN) ?_
 refine bG rfl (sgn_nn h0) ?_
 refine aE (d:=zd t) 0 rfl hp1 rfl (aR _) fun u2=>?_
 refine cG (mZ u2 t 1 a ht qN) fun u3=>?_
 refine cG (fB m qN qN) fun u4=>?_
 refine cG (mZ u4 m q 1 (dR m qN) qN) fun u5=>?_
 refine cH (mL u3 u5 _ _ (a+130) ((fK ht).mono qN) ((fK (dR m qN)).mono qN) qN) ?_
 refine bG rfl (sgn_np qN) ?_
 exact fin ⟨rfl,rfl,rfl⟩ (dS (aD (fs':=[]) qS))
theorem rPowers (v:Value) (t q:Int) (a:Nat) (ht:sz t a) (ha:a≤1000000000) :
  aY Tryz.prog 144 [v,.int .i64 q] [(v,zd t)] (fun r os fs=>os=[]∧∃ x y,r=.func (.func 160) #[] #[x,y]∧fs=[(x,.ptr (zd (t*t))),(y,.ptr (.one (.int .i64 q)))]):=by
 refine mV Tryz.func144 ?_
 refine aQ (aA (d:=zd t) qM) fun p1 hp1=>?_
 refine oK (dC rfl) fun p2=>?_
 refine aE (d:=zd t) 0 rfl hp1 rfl (aR _) fun u1=>?_
 refine aE (d:=zd t) 0 rfl hp1 rfl (aR _) fun u2=>?_
 refine cG (zMulZ u1 u2 t t a a ht ht qN qN) fun u3=>?_
 refine aI (d:=zd 0) fun p3 hp3=>?_
 refine aH (d:=zd (t*t)) 0 rfl hp3 rfl qK (aA (d:=zd (t*t)) qM) ?_
 exact fin ⟨rfl,p3,p2,rfl,rfl⟩ (aM (Seals.box 0 rfl hp3 rfl) (dS (aD (fs':=[(p3,.ptr (zd (t*t))),(p2,.ptr (.one (.int .i64 q)))]) qS)))
theorem rExp1 (v p1' p2':Value) (k:Nat) (p:P2) (t q:Int) (a:Nat) (hp:szP p a) (hs:sz t a) (ha:a≤1000000000) (hk:1≤k∧k≤1000000) :
  aY Tryz.prog 215 [.int .i64 (k:Nat),v,p1',p2'] [(v,bS p.1 p.2),(p1',.ptr (zd t)),(p2',.ptr (.one (.int .i64 q)))] (fun r os fs=>os=[]∧fs=[(r,bS (cC p t k q).1 (cC p t k q).2)]):=by
 refine mV Tryz.func215 ?_
 refine aQ (aA (d:=bS p.1 p.2) qM) fun p1 hp1=>?_
 refine aI (d:=bS 0 0) fun p2 hp2=>?_
 refine aE (d:=bS p.1 p.2) 1 rfl hp1 rfl (eD _ _) fun u1=>?_
 refine cS (d:=zd t) qM (aR _) fun u2=>?_
 refine bF qM ?_
 refine cG (rTimes u1 u2 p t k q a hp hs ha qN qN) fun u3=>?_
 refine aH (d:=bS (cC p t k q).1 (cC p t k q).2) 0 rfl hp2 rfl qK (aA (d:=bS (cC p t k q).1 (cC p t k q).2) qM) ?_
 refine aE (d:=bS (cC p t k q).1 (cC p t k q).2) 0 rfl hp2 rfl (eD _ _) fun r4=>?_
 exact fin ⟨rfl,rfl⟩ (dS (dS (aD (fs':=[(r4,bS (cC p t k q).1 (cC p t k q).2)]) qS)))
theorem rCos1 (v p1' p2':Value) (k:Nat) (p:P2) (s q:Int) (a:Nat) (hp:szP p a) (hs:sz s a) (ha:a≤1000000000) (hq:0≤q∧q≤4000) (hk:1≤k∧k≤1000000) :
  aY Tryz.prog 247 [.int .i64 (k:Nat),v,p1',p2'] [(v,bS p.1 p.2),(p1',.ptr (zd s)),(p2',.ptr (.one (.int .i64 q)))] (fun r os fs=>os=[]∧fs=[(r,bS (cC p s ((2*k - 1)*2*k) (2*q)).1 (cC p s ((2*k - 1)*2*k) (2*q)).2)]):=by
 have h1:(2*(k:Int) - 1)*2*(k:Int)≤4000000*1000000:=Int.mul_le_mul qN qN qN qN
 have h2:0<(2*(k:Int) - 1)*2*(k:Int):=Int.mul_pos qN qN
 refine mV Tryz.func247 ?_
 refine aQ (aA (d:=bS p.1 p.2) qM) fun p1 hp1=>?_
 refine aI (d:=bS 0 0) fun p2 hp2=>?_
 refine aE (d:=bS p.1 p.2) 1 rfl hp1 rfl (eD _ _) fun u1=>?_
 refine cS (d:=zd s) qM (aR _) fun u2=>?_
 refine ar rfl qI ?_
 refine ar rfl qI ?_
 refine ar rfl qI ?_
 refine ar rfl ⟨by omega,by omega⟩ ?_
 refine bF qM ?_
 refine ar rfl qI ?_
 refine cG (rTimes u1 u2 p s ((2*k - 1)*2*k) (2*q) a hp hs ha qN qN) fun u3=>?_
 refine aH (d:=bS (cC p s ((2*k - 1)*2*k) (2*q)).1 (cC p s ((2*k - 1)*2*k) (2*q)).2) 0 rfl hp2 rfl qK (aA (d:=bS (cC p s ((2*k - 1)*2*k) (2*q)).1 (cC p s ((2*k - 1)*2*k) (2*q)).2) qM) ?_
 refine aE (d:=bS (cC p s ((2*k - 1)*2*k) (2*q)).1 (cC p s ((2*k - 1)*2*k) (2*q)).2) 0 rfl hp2 rfl (eD _ _) fun r4=>?_
 exact fin ⟨rfl,rfl⟩ (dS (dS (aD (fs':=[(r4,bS (cC p s ((2*k - 1)*2*k) (2*q)).1 (cC p s ((2*k - 1)*2*k) (2*q)).2)]) qS)))
theorem rExp (v:Value) (t q:Int) (n:Nat) (a:Nat) (ht:sz t a) (ha:a≤100000) (hq:0≤q∧q≤1200) (hn:1≤n∧n≤400) (h0:0≤t) (hb:t*2^far 1≤2*2^far q) :
  aY Tryz.prog 211 [v,.int .i64 q,.int .i64 (n:Nat)] [(v,zd t)] (fun r os fs=>os=[]∧∃ x y,r=.tuple #[x,y,.int .i64 0]∧fs=[(x,zd (rL t q n).1),(y,zd (rL t q n).2)]):=by
 have hit:∀ k,k≤400→szP (itN (sO t q) (oneP q) k) 50000000:=fun k hk=>(oS (uJ q) (fun k p e hp=>eG hp ht _ _) k).mono (by have:k*a≤400*100000:=Nat.mul_le_mul hk ha; omega)
 have hsm:∀ k,k≤400→szP (smN (sO t q) fC (oneP q) k) 50000000:=fun k hk=>(smN_sz (uJ q) (fun k p e hp=>eG hp ht _ _) (fun k p e hp=>hp.mono qN) k).mono (by have:k*a≤400*100000:=Nat.mul_le_mul hk ha; omega)
 refine mV Tryz.func211 ?_
 refine oK (aA (d:=zd t) qM) fun p1=>?_
 refine oK (dC rfl) fun p2=>?_
 refine aI (d:=zd 0) fun p3 hp3=>?_
 refine aI (d:=zd 0) fun p4 hp4=>?_
 refine cS (d:=zd t) qM (aR _) fun u1=>?_
 refine bF qM ?_
 refine cH (rMay u1 t q n 2 a ht qN hq hn h0 qE hb) ?_
 refine bF qM ?_
 refine cG (rOne q) fun u2=>?_
 refine cF (rRising u2 (.func (.func 215) #[] #[p1,p2]) (.func (.func 216) #[] #[]) n (sO t q) fC (oneP q) [(p1,.ptr (zd t)),(p2,.ptr (.one (.int .i64 q)))] 1000000000 qN (Nat.le_refl _) (fun k hk=>(hit k qN).mono qN) (fun k hk=>(hit k qN).mono qN) (fun k hk=>(hsm k qN).mono qN) (fun k u hk=>FunK.of (caps:=[p1,p2]) (rExp1 u p1 p2 (k+1) _ t q 1000000000 ((hit k qN).mono qN) (ht.mono qN) (Nat.le_refl _) qN)) (fun k u hk=>(FunK.of (caps:=[]) (rWhole u _ _)).sub (aX (List.Mem.head _) (bP _)))) ?_
 rintro _ _ _ ⟨rfl,x1,y1,rfl,rfl⟩
 refine aH (d:=zd ((rL t q n).1)) 1 rfl hp3 rfl qK (aA (d:=zd ((rL t q n).1)) qM) ?_
 refine aH (d:=zd ((rL t q n).2)) 0 rfl hp4 rfl qK (aA (d:=zd ((rL t q n).2)) qM) ?_
 refine aE (d:=zd ((rL t q n).1)) 1 rfl hp3 rfl (aR _) fun r3=>?_
 refine aE (d:=zd ((rL t q n).2)) 0 rfl hp4 rfl (aR _) fun r4=>?_
 exact fin ⟨rfl,r3,r4,rfl,rfl⟩ (dS (dS (aD (fs':=[(r3,zd ((rL t q n).1)),(r4,zd ((rL t q n).2))]) qS)))
theorem rAtanh (v:Value) (t q:Int) (n:Nat) (a:Nat) (ht:sz t a) (ha:a≤100000) (hq:0≤q∧q≤1200) (hn:1≤n∧n≤400) (h0:0≤t) (hb:t*2^far 1≤1*2^far q) :
  aY Tryz.prog 124 [v,.int .i64 q,.int .i64 (n:Nat)] [(v,zd t)] (fun r os fs=>os=[]∧∃ x y,r=.tuple #[x,y,.int .i64 0]∧fs=[(x,zd (dZ t q n).1),(y,zd (dZ t q n).2)]):=by
 have hit:∀ k,k≤400→szP (itN (dP t q) (t,t) k) 200000000:=fun k hk=>(oS (e:=a) ⟨ht,ht⟩ (fun k p e hp=>eG hp (ht.mul ht) _ _) k).mono (by have:k*(a+a)≤400*200000:=Nat.mul_le_mul hk qN; omega)
 have hsm:∀ k,k≤400→szP (smN (dP t q) fR (t,t) k) 200000000:=fun k hk=>(smN_sz (e:=a) ⟨ht,ht⟩ (fun k p e hp=>eG hp (ht.mul ht) _ _) (fun k p e hp=>kD hp _) k).mono (by have:k*(a+a)≤400*200000:=Nat.mul_le_mul hk qN; omega)
 refine mV Tryz.func124 ?_
 refine aQ (aA (d:=zd t) qM) fun p1 hp1=>?_
 refine aI (d:=zd 0) fun p2 hp2=>?_
 refine aI (d:=zd 0) fun p3 hp3=>?_
 refine aE (d:=zd t) 2 rfl hp1 rfl (aR _) fun u1=>?_
 refine cH (rMay u1 t q n 1 a ht qN hq hn h0 qE hb) ?_
 refine bC [0,1,2,3,4,5,6,7,8,9,10,11,12,13] [0,1,2,3,4,5,6,7,8,9,10,11,12,13] qK qK ?_
 refine aE (d:=zd t) 2 rfl hp1 rfl (aR _) fun u2=>?_
 refine aE (d:=zd t) 2 rfl hp1 rfl (aR _) fun u3=>?_
 refine dE [zd t,zd t] (by exact ⟨⟨aA qM,rfl⟩,⟨aA qM,rfl⟩,trivial⟩) fun u4=>?_
 refine aE (d:=zd t) 2 rfl hp1 rfl (aR _) fun u5=>?_
 refine cF (rPowers u5 t q a ht qN) ?_
 rintro _ _ _ ⟨rfl,z1,z2,rfl,rfl⟩
 refine cF (rRising u4 (.func (.func 160) #[] #[z1,z2]) (.func (.func 145) #[] #[]) n (dP t q) fR (t,t) [(z1,.ptr (zd (t*t))),(z2,.ptr (.one (.int .i64 q)))] 1000000000 qN (Nat.le_refl _) (fun k hk=>(hit k qN).mono qN) (fun k hk=>(kD (hit k qN) _).mono qN) (fun k hk=>(hsm k qN).mono qN) (fun k u hk=>FunK.of (caps:=[z1,z2]) (rPow1 u z1 z2 _ _ (t*t) q 1000000000 ((hit k qN).mono qN) ((ht.mul ht).mono qN) (Nat.le_refl _) qN)) (fun k u hk=>(FunK.of (caps:=[]) (rOdd u k _ 999999999 ((hit k qN).mono qN) (Nat.le_refl _) qN)).sub (aX (List.Mem.head _) (bP _)))) ?_
 rintro _ _ _ ⟨rfl,x1,y1,rfl,rfl⟩
 refine aH (d:=zd ((dZ t q n).1)) 1 rfl hp2 rfl qK (aA (d:=zd ((dZ t q n).1)) qM) ?_
 refine aH (d:=zd ((dZ t q n).2)) 0 rfl hp3 rfl qK (aA (d:=zd ((dZ t q n).2)) qM) ?_
 refine aE (d:=zd ((dZ t q n).1)) 1 rfl hp2 rfl (aR _) fun r6=>?_
 refine aE (d:=zd ((dZ t q n).2)) 0 rfl hp3 rfl (aR _) fun r7=>?_
 exact fin ⟨rfl,r6,r7,rfl,rfl⟩ (dS (dS (dS (aD (fs':=[(r6,zd ((dZ t q n).1)),(r7,zd ((dZ t q n).2))]) qS))))
theorem rAtan (v:Value) (t q:Int) (n:Nat) (a:Nat) (ht:sz t a) (ha:a≤100000) (hq:0≤q∧q≤1200) (hn:1≤n∧n≤400) (h0:0≤t) (hb:t*2^far 1≤1*2^far q) :
  aY Tryz.prog 244 [v,.int .i64 q,.int .i64 (n:Nat)] [(v,zd t)] (fun r os fs=>os=[]∧∃ x y,r=.tuple #[x,y,.int .i64 0]∧fs=[(x,zd (fF t q n).1),(y,zd (fF t q n).2)]):=by
 have hit:∀ k,k≤800→szP (itN (dP t q) (t,t) k) 200000000:=fun k hk=>(oS (e:=a) ⟨ht,ht⟩ (fun k p e hp=>eG hp (ht.mul ht) _ _) k).mono (by have:k*(a+a)≤800*200000:=Nat.mul_le_mul hk qN; omega)
 have hsm:∀ k,k≤800→szP (smT (dP t q) fR (t,t) k) 200000000:=fun k hk=>(smT_sz (e:=a) ⟨ht,ht⟩ (fun k p e hp=>eG hp (ht.mul ht) _ _) (fun k p e hp=>kD hp _) k).mono (by have:k*(a+a)≤800*200000:=Nat.mul_le_mul hk qN; omega)
 refine mV Tryz.func244 ?_
 refine aQ (aA (d:=zd t) qM) fun p1 hp1=>?_
 refine aI (d:=zd 0) fun p2 hp2=>?_
 refine aI (d:=zd 0) fun p3 hp3=>?_
 refine aE (d:=zd t) 2 rfl hp1 rfl (aR _) fun u1=>?_
 refine cH (rMay u1 t q n 1 a ht qN hq hn h0 qE hb) ?_
 refine bC [0,1,2,3,4,5,6,7,8,9,10,11,12,13] [0,1,2,3,4,5,6,7,8,9,10,11,12,13] qK qK ?_
 refine aE (d:=zd t) 2 rfl hp1 rfl (aR _) fun u2=>?_
 refine aE (d:=zd t) 2 rfl hp1 rfl (aR _) fun u3=>?_
 refine dE [zd t,zd t] (by exact ⟨⟨aA qM,rfl⟩,⟨aA qM,rfl⟩,trivial⟩) fun u4=>?_
 refine aE (d:=zd t) 2 rfl hp1 rfl (aR _) fun u5=>?_
 refine cF (rPowers u5 t q a ht qN) ?_
 rintro _ _ _ ⟨rfl,z1,z2,rfl,rfl⟩
 refine cF (rTurning u4 (.func (.func 160) #[] #[z1,z2]) (.func (.func 145) #[] #[]) n (dP t q) fR (t,t) [(z1,.ptr (zd (t*t))),(z2,.ptr (.one (.int .i64 q)))] 1000000000 qN (Nat.le_refl _) (fun k hk=>(kD (hit k qN) _).mono qN) (fun k hk=>(hsm k qN).mono qN) (fun k u hk=>FunK.of (caps:=[z1,z2]) (rPow1 u z1 z2 _ _ (t*t) q 1000000000 ((hit k qN).mono qN) ((ht.mul ht).mono qN) (Nat.le_refl _) qN)) (fun k u hk=>(FunK.of (caps:=[]) (rOdd u k _ 999999999 ((hit k qN).mono qN) (Nat.le_refl _) qN)).sub (aX (List.Mem.head _) (bP _)))) ?_
 rintro _ _ _ ⟨rfl,x1,y1,rfl,rfl⟩
 refine aH (d:=zd ((fF t q n).1)) 1 rfl hp2 rfl qK (aA (d:=zd ((fF t q n).1)) qM) ?_
 refine aH (d:=zd ((fF t q n).2)) 0 rfl hp3 rfl qK (aA (d:=zd ((fF t q n).2)) qM) ?_
 refine aE (d:=zd ((fF t q n).1)) 1 rfl hp2 rfl (aR _) fun r6=>?_
 refine aE (d:=zd ((fF t q n).2)) 0 rfl hp3 rfl (aR _) fun r7=>?_
 exact fin ⟨rfl,r6,r7,rfl,rfl⟩ (dS (dS (dS (aD (fs':=[(r6,zd ((fF t q n).1)),(r7,zd ((fF t q n).2))]) qS))))
theorem rSin (v:Value) (t q:Int) (n:Nat) (a:Nat) (ht:sz t a) (ha:a≤100000) (hq:0≤q∧q≤1200) (hn:1≤n∧n≤400) (h0:0≤t) (hb:t*2^far 1≤4*2^far q) :
  aY Tryz.prog 242 [v,.int .i64 q,.int .i64 (n:Nat)] [(v,zd t)] (fun r os fs=>os=[]∧∃ x y,r=.tuple #[x,y,.int .i64 0]∧fs=[(x,zd (oZ t q n).1),(y,zd (oZ t q n).2)]):=by
 have hit:∀ k,k≤800→szP (itN (rE t q) (t,t) k) 200000000:=fun k hk=>(oS (e:=a) ⟨ht,ht⟩ (fun k p e hp=>eG hp (ht.mul ht) _ _) k).mono (by have:k*(a+a)≤800*200000:=Nat.mul_le_mul hk qN; omega)
 have hsm:∀ k,k≤800→szP (smT (rE t q) fC (t,t) k) 200000000:=fun k hk=>(smT_sz (e:=a) ⟨ht,ht⟩ (fun k p e hp=>eG hp (ht.mul ht) _ _) (fun k p e hp=>hp.mono qN) k).mono (by have:k*(a+a)≤800*200000:=Nat.mul_le_mul hk qN; omega)
 refine mV Tryz.func242 ?_
 refine aQ (aA (d:=zd t) qM) fun p1 hp1=>?_
 refine oK (dC rfl) fun p2=>?_
 refine aI (d:=zd 0) fun p3 hp3=>?_
 refine aI (d:=zd 0) fun p4 hp4=>?_
 refine aE (d:=zd t) 2 rfl hp1 rfl (aR _) fun u1=>?_
 refine bF qM ?_
 refine cH (rMay u1 t q n 4 a ht qN hq hn h0 qE hb) ?_
 refine aE (d:=zd t) 2 rfl hp1 rfl (aR _) fun u2=>?_
 refine aE (d:=zd t) 2 rfl hp1 rfl (aR _) fun u3=>?_
 refine cG (zMulZ u2 u3 t t a a ht ht qN qN) fun u4=>?_
 refine aI (d:=zd 0) fun p5 hp5=>?_
 refine aH (d:=zd (t*t)) 0 rfl hp5 rfl qK (aA (d:=zd (t*t)) qM) ?_
 refine aE (d:=zd t) 3 rfl hp1 rfl (aR _) fun u5=>?_
 refine aE (d:=zd t) 3 rfl hp1 rfl (aR _) fun u6=>?_
 refine dE [zd t,zd t] (by exact ⟨⟨aA qM,rfl⟩,⟨aA qM,rfl⟩,trivial⟩) fun u7=>?_
 refine bN (rTurning u7 (.func (.func 246) #[] #[p5,p2]) (.func (.func 216) #[] #[]) n (rE t q) fC (t,t) [(p5,.ptr (zd (t*t))),(p2,.ptr (.one (.int .i64 q)))] 1000000000 qN (Nat.le_refl _) (fun k hk=>(hit k qN).mono qN) (fun k hk=>(hsm k qN).mono qN) (fun k u hk=>FunK.of (caps:=[p5,p2]) (rSin1 u p5 p2 (k+1) _ (t*t) q 1000000000 ((hit k qN).mono qN) ((ht.mul ht).mono qN) (Nat.le_refl _) qN qN)) (fun k u hk=>(FunK.of (caps:=[]) (rWhole u _ _)).sub (aX (List.Mem.head _) (bP _)))) (Seals.box 0 rfl hp5 rfl) qS ?_
 rintro _ _ _ ⟨rfl,x1,y1,rfl,rfl⟩
 refine aH (d:=zd ((oZ t q n).1)) 1 rfl hp3 rfl qK (aA (d:=zd ((oZ t q n).1)) qM) ?_
 refine aH (d:=zd ((oZ t q n).2)) 0 rfl hp4 rfl qK (aA (d:=zd ((oZ t q n).2)) qM) ?_
 refine aE (d:=zd ((oZ t q n).1)) 1 rfl hp3 rfl (aR _) fun r8=>?_
 refine aE (d:=zd ((oZ t q n).2)) 0 rfl hp4 rfl (aR _) fun r9=>?_
 exact fin ⟨rfl,r8,r9,rfl,rfl⟩ (dS (dS (dS (aD (fs':=[(r8,zd ((oZ t q n).1)),(r9,zd ((oZ t q n).2))]) qS))))
theorem rCos (v:Value) (t q:Int) (n:Nat) (a:Nat) (ht:sz t a) (ha:a≤100000) (hq:0≤q∧q≤1200) (hn:1≤n∧n≤400) (h0:0≤t) (hb:t*2^far 1≤4*2^far q) :
  aY Tryz.prog 243 [v,.int .i64 q,.int .i64 (n:Nat)] [(v,zd t)] (fun r os fs=>os=[]∧∃ x y,r=.tuple #[x,y,.int .i64 0]∧fs=[(x,zd (lS t q n).1),(y,zd (lS t q n).2)]):=by
 have hit:∀ k,k≤800→szP (itN (gQ t q) (oneP q) k) 200000000:=fun k hk=>(oS (uJ q) (fun k p e hp=>eG hp (ht.mul ht) _ _) k).mono (by have:k*(a+a)≤800*200000:=Nat.mul_le_mul hk qN; omega)
 have hsm:∀ k,k≤800→szP (smT (gQ t q) fC (oneP q) k) 200000000:=fun k hk=>(smT_sz (uJ q) (fun k p e hp=>eG hp (ht.mul ht) _ _) (fun k p e hp=>hp.mono qN) k).mono (by have:k*(a+a)≤800*200000:=Nat.mul_le_mul hk qN; omega)
 refine mV Tryz.func243 ?_
 refine aQ (aA (d:=zd t) qM) fun p1 hp1=>?_
 refine oK (dC rfl) fun p2=>?_
 refine aI (d:=zd 0) fun p3 hp3=>?_
 refine aI (d:=zd 0) fun p4 hp4=>?_
 refine aE (d:=zd t) 2 rfl hp1 rfl (aR _) fun u1=>?_
 refine bF qM ?_
 refine cH (rMay u1 t q n 4 a ht qN hq hn h0 qE hb) ?_
 refine aE (d:=zd t) 2 rfl hp1 rfl (aR _) fun u2=>?_
 refine aE (d:=zd t) 2 rfl hp1 rfl (aR _) fun u3=>?_
 refine cG (zMulZ u2 u3 t t a a ht ht qN qN) fun u4=>?_
 refine aI (d:=zd 0) fun p5 hp5=>?_
 refine aH (d:=zd (t*t)) 0 rfl hp5 rfl qK (aA (d:=zd (t*t)) qM) ?_
 refine bF qM ?_
 refine cG (rOne q) fun u5=>?_
 refine bN (rTurning u5 (.func (.func 247) #[] #[p5,p2]) (.func (.func 216) #[] #[]) n (gQ t q) fC (oneP q) [(p5,.ptr (zd (t*t))),(p2,.ptr (.one (.int .i64 q)))] 1000000000 qN (Nat.le_refl _) (fun k hk=>(hit k qN).mono qN) (fun k hk=>(hsm k qN).mono qN) (fun k u hk=>FunK.of (caps:=[p5,p2]) (rCos1 u p5 p2 (k+1) _ (t*t) q 1000000000 ((hit k qN).mono qN) ((ht.mul ht).mono qN) (Nat.le_refl _) qN qN)) (fun k u hk=>(FunK.of (caps:=[]) (rWhole u _ _)).sub (aX (List.Mem.head _) (bP _)))) (Seals.box 0 rfl hp5 rfl) qS ?_
 rintro _ _ _ ⟨rfl,x1,y1,rfl,rfl⟩
 refine aH (d:=zd ((lS t q n).1)) 1 rfl hp3 rfl qK (aA (d:=zd ((lS t q n).1)) qM) ?_
 refine aH (d:=zd ((lS t q n).2)) 0 rfl hp4 rfl qK (aA (d:=zd ((lS t q n).2)) qM) ?_
 refine aE (d:=zd ((lS t q n).1)) 1 rfl hp3 rfl (aR _) fun r6=>?_
 refine aE (d:=zd ((lS t q n).2)) 0 rfl hp4 rfl (aR _) fun r7=>?_
 exact fin ⟨rfl,r6,r7,rfl,rfl⟩ (dS (dS (dS (aD (fs':=[(r6,zd ((lS t q n).1)),(r7,zd ((lS t q n).2))]) qS))))
theorem Rep.rk {k off:Nat} {a b n b':Dat} (h:Rep off b n b') (hk:k=a.cells+off:=by rfl):Rep k (.cat a b) n (.cat a b'):=hk ▸ Rep.right h
structure Bal where
 lo:Int
 hi:Int
 q:Int
structure Bal.ok (b:Bal) (a:Nat):Prop where
 le:b.lo≤b.hi
 q0:0≤b.q
 q1:b.q≤2048
 slo:sz b.lo a
 shi:sz b.hi a
def fA (x n:Int):Int:=x*2^far (-n)/2^far n
def upV (x n:Int):Int := -(fA (-x) n)
theorem downV_np {x n:Int} (h:n≤0):fA x n=x*2^far (-n):=by
 unfold fA
 rw [show far n=0 by unfold far; omega]
 simp
theorem mH {x n:Int} (h:0≤n):fA x n=x/2^far n:=by
 unfold fA
 rw [show far (-n)=0 by unfold far; omega]
 simp
theorem sV {x:Int} {a:Nat} (n:Int) (h:sz x a):sz (fA x n) (a+130):=m6 ((fK h).mono qN)
theorem sz_upV {x:Int} {a:Nat} (n:Int) (h:sz x a):sz (upV x n) (a+130):=gG (sV n (gG h))
theorem downV_upV {x y:Int} (n:Int) (h:x≤y):fA x n≤upV y n:=by
 have h1:fA x n*2^far n≤x*2^far (-n):=Int.ediv_mul_le _ (Int.ne_of_gt (Int.pow_pos qE))
 have h2:fA (-y) n*2^far n ≤ -y*2^far (-n):=Int.ediv_mul_le _ (Int.ne_of_gt (Int.pow_pos qE))
 have h3:x*2^far (-n)≤y*2^far (-n):=Int.mul_le_mul_of_nonneg_right h (Int.le_of_lt (Int.pow_pos qE))
 have h4:(fA x n+fA (-y) n)*2^far n≤0:=by rw [Int.add_mul]; rw [Int.neg_mul] at h2; omega
 have h5:fA x n+fA (-y) n≤0:=Int.le_of_mul_le_mul_right (by rw [Int.zero_mul]; exact h4) (Int.pow_pos (by decide:(0:Int)<2):(0:Int)<2^far n)
 unfold upV
 omega
def c9 (b:Bal) (q:Int):Bal:=⟨fA b.lo (b.q - q),upV b.hi (b.q - q),q⟩
def kO (b c:Bal):Bal:=⟨b.lo+c.lo,b.hi+c.hi,b.q⟩
def iV (b c:Bal):Bal:=⟨b.lo + -c.hi,b.hi + -c.lo,b.q⟩
def b8 (b:Bal) (k:Int):Bal:=if k<0 then ⟨b.hi*k,b.lo*k,b.q⟩ else ⟨b.lo*k,b.hi*k,b.q⟩
def shiftB (b:Bal) (k:Int):Bal:=⟨fA b.lo (-k),upV b.hi (-k),b.q⟩
theorem bMay (q:Int) (h0:0≤q) (h1:q≤2048):aY Tryz.prog 125 [.int .i64 q] [] (fun r os fs=>os=[]∧fs=[]∧r=.bool true):=by
 refine mV Tryz.func125 ?_
 refine bG rfl qN ?_
 refine bG rfl qN ?_
 exact fin ⟨rfl,rfl,rfl⟩ (aD (fs':=[]) qS)
theorem vT (v:Value) (b:Bal) (a:Nat) (hb:b.ok a) (ha:a≤1000000000):aY Tryz.prog 93 [v] [(v,aN b.lo b.hi b.q)] (fun r os fs=>os=[]∧fs=[]∧r=.bool true):=by
 refine mV Tryz.func93 ?_
 refine aQ (aA (d:=aN b.lo b.hi b.q) qM) fun p1 hp1=>?_
 refine aF 0 rfl hp1 ?_
 refine aB (u:=.int .i64 b.q) 0 rfl (aC (aC (aG _))) ?_
 refine cH (bMay b.q hb.q0 hb.q1) ?_
 refine aF 0 rfl hp1 ?_
 refine aK (d:=zd b.lo) 0 rfl (aJ (aG _)) (aR _) fun u1=>?_
 refine aF 0 rfl hp1 ?_
 refine aK (d:=zd b.hi) 0 rfl (aC (aJ (aG _))) (aR _) fun u2=>?_
 refine cH (mL u1 u2 _ _ a hb.slo hb.shi qN) ?_
 refine bG rfl (sgn_np (by have:=hb.le; omega)) ?_
 exact fin ⟨rfl,rfl,rfl⟩ (dS (aD (fs':=[]) qS))
theorem bDown (v:Value) (x n:Int) (a:Nat) (hx:sz x a) (ha:a≤1000000000) (hn : -100000≤n∧n≤100000):aY Tryz.prog 126 [v,.int .i64 n] [(v,zd x)] (fun r os fs=>os=[]∧fs=[(r,zd (fA x n))]):=by
 refine mV Tryz.func126 ?_
 refine aQ (aA (d:=zd x) qM) fun p1 hp1=>?_
 refine aI (d:=zd 0) fun p2 hp2=>?_
 refine aO (n≤0) rfl (fun hc=>?_) (fun hc=>?_)
 ·have hz:=fun u=>mZ u x (-n) a hx qN
  rw [← downV_np hc] at hz
  refine aE (d:=zd x) 1 rfl hp1 rfl (aR _) fun u1=>?_
  refine oP (m := -n) (by rw [Int.zero_sub]; exact bT ⟨by omega,by omega⟩) ?_
  refine cG (hz u1) fun u2=>?_
  refine aH (d:=zd (fA x n)) 0 rfl hp2 rfl qK (aA (d:=zd (fA x n)) qM) ?_
  refine aE (d:=zd (fA x n)) 0 rfl hp2 rfl (aR _) fun r3=>?_
  exact fin ⟨rfl,rfl⟩ (dS (dS (aD (fs':=[(r3,zd (fA x n))]) qS)))
 ·have hz:=fun u=>zShrN u x n a hx qN
  rw [← mH (Int.le_of_lt (Int.not_le.mp hc))] at hz
  refine aE (d:=zd x) 1 rfl hp1 rfl (aR _) fun u1=>?_
  refine cG (hz u1) fun u2=>?_
  refine aH (d:=zd (fA x n)) 0 rfl hp2 rfl qK (aA (d:=zd (fA x n)) qM) ?_
  refine aE (d:=zd (fA x n)) 0 rfl hp2 rfl (aR _) fun r3=>?_
  exact fin ⟨rfl,rfl⟩ (dS (dS (aD (fs':=[(r3,zd (fA x n))]) qS)))
theorem bUp (v:Value) (x n:Int) (a:Nat) (hx:sz x a) (ha:a≤100000000) (hn : -100000≤n∧n≤100000):aY Tryz.prog 127 [v,.int .i64 n] [(v,zd x)] (fun r os fs=>os=[]∧fs=[(r,zd (upV x n))]):=by
 refine mV Tryz.func127 ?_
 refine aQ (aA (d:=zd x) qM) fun p1 hp1=>?_
 refine aI (d:=zd 0) fun p2 hp2=>?_
 refine aE (d:=zd x) 1 rfl hp1 rfl (aR _) fun u1=>?_
 refine cG (sL u1 x a hx qN) fun u2=>?_
 refine cG (bDown u2 (-x) n a (gG hx) qN hn) fun u3=>?_
 refine cG (sL u3 (fA (-x) n) (a+130) (sV n (gG hx)) qN) fun u4=>?_
 refine aH (d:=zd (upV x n)) 0 rfl hp2 rfl qK (aA (d:=zd (upV x n)) qM) ?_
 refine aE (d:=zd (upV x n)) 0 rfl hp2 rfl (aR _) fun r5=>?_
 exact fin ⟨rfl,rfl⟩ (dS (dS (aD (fs':=[(r5,zd (upV x n))]) qS)))
theorem bPair (v w:Value) (b c:Bal) (a:Nat) (hb:b.ok a) (hc:c.ok a) (ha:a≤1000000000) (hq:b.q=c.q):aY Tryz.prog 221 [v,w] [(v,aN b.lo b.hi b.q),(w,aN c.lo c.hi c.q)] (fun r os fs=>os=[]∧fs=[]∧r=.bool true):=by
 refine mV Tryz.func221 ?_
 refine aQ (aA (d:=aN b.lo b.hi b.q) qM) fun p1 hp1=>?_
 refine aQ (aA (d:=aN c.lo c.hi c.q) qM) fun p2 hp2=>?_
 refine aE (d:=aN b.lo b.hi b.q) 1 rfl hp1 rfl (bR _ _ _) fun u1=>?_
 refine cH (vT u1 b a hb qN) ?_
 refine aE (d:=aN c.lo c.hi c.q) 0 rfl hp2 rfl (bR _ _ _) fun u2=>?_
 refine cH (vT u2 c a hc qN) ?_
 refine aF 1 rfl hp1 ?_
 refine aB (u:=.int .i64 b.q) 1 rfl (aC (aC (aG _))) ?_
 refine aF 0 rfl hp2 ?_
 refine aB (u:=.int .i64 c.q) 0 rfl (aC (aC (aG _))) ?_
 refine bG rfl qN ?_
 exact fin ⟨rfl,rfl,rfl⟩ (dS (dS (aD (fs':=[]) qS)))
theorem bRecast (v:Value) (b:Bal) (q:Int)  (a:Nat) (hb:b.ok a) (ha:a≤100000000) (hq:0≤q∧q≤2048) :
  aY Tryz.prog 92 [v,.int .i64 q] [(v,aN b.lo b.hi b.q)] (fun r os fs=>os=[]∧∃ x,r=.tuple #[x,.int .i64 0]∧fs=[(x,aN (c9 b q).lo (c9 b q).hi (c9 b q).q)]):=by
 have q0:=hb.q0
 have q1:=hb.q1
 refine mV Tryz.func92 ?_
 refine aQ (aA (d:=aN b.lo b.hi b.q) qM) fun p1 hp1=>?_
 refine aI (d:=aN 0 0 0) fun p2 hp2=>?_
 refine aE (d:=aN b.lo b.hi b.q) 1 rfl hp1 rfl (bR _ _ _) fun u1=>?_
 refine cH (vT u1 b a hb qN) ?_
 refine cH (bMay q hq.1 hq.2) ?_
 refine bC [0,1,2,3,4,5,7,8,9,10,11,12,14,6,13,15,16,17] [0,1,2,3,4,5,6,7,8,9,10,11,12,13,14,15,16,17] qK qK ?_
 refine aF 1 rfl hp1 ?_
 refine aK (d:=zd b.lo) 1 rfl (aJ (aG _)) (aR _) fun u2=>?_
 refine aF 1 rfl hp1 ?_
 refine aB (u:=.int .i64 b.q) 1 rfl (aC (aC (aG _))) ?_
 refine ar rfl qI ?_
 refine aF 1 rfl hp1 ?_
 refine aK (d:=zd b.hi) 1 rfl (aC (aJ (aG _))) (aR _) fun u3=>?_
 refine aF 1 rfl hp1 ?_
 refine aB (u:=.int .i64 b.q) 1 rfl (aC (aC (aG _))) ?_
 refine ar rfl qI ?_
 refine cG (bDown u2 b.lo (b.q - q) a hb.slo qN qN) fun u4=>?_
 refine cG (bUp u3 b.hi (b.q - q) a hb.shi qN qN) fun u5=>?_
 refine dE [zd (fA b.lo (b.q - q)),zd (upV b.hi (b.q - q)),.one (.int .i64 q)] (by exact ⟨⟨aA qM,rfl⟩,⟨aA qM,rfl⟩,⟨dC rfl,rfl⟩,trivial⟩) fun u6=>?_
 refine aH (d:=aN (fA b.lo (b.q - q)) (upV b.hi (b.q - q)) q) 0 rfl hp2 rfl qK (aA (d:=aN (fA b.lo (b.q - q)) (upV b.hi (b.q - q)) q) qM) ?_
 refine aE (d:=aN (fA b.lo (b.q - q)) (upV b.hi (b.q - q)) q) 0 rfl hp2 rfl (bR _ _ _) fun r7=>?_
 exact fin ⟨rfl,r7,rfl,rfl⟩ (dS (dS (aD (fs':=[(r7,aN (fA b.lo (b.q - q)) (upV b.hi (b.q - q)) q)]) qS)))
theorem bAdd (v w:Value) (b c:Bal)  (a:Nat) (hb:b.ok a) (hc:c.ok a) (ha:a≤100000000) (hq:b.q=c.q) :
  aY Tryz.prog 219 [v,w] [(v,aN b.lo b.hi b.q),(w,aN c.lo c.hi c.q)] (fun r os fs=>os=[]∧∃ x,r=.tuple #[x,.int .i64 0]∧fs=[(x,aN (kO b c).lo (kO b c).hi (kO b c).q)]):=by
 refine mV Tryz.func219 ?_
 refine aQ (aA (d:=aN b.lo b.hi b.q) qM) fun p1 hp1=>?_
 refine aQ (aA (d:=aN c.lo c.hi c.q) qM) fun p2 hp2=>?_
 refine aI (d:=aN 0 0 0) fun p3 hp3=>?_
 refine aE (d:=aN b.lo b.hi b.q) 2 rfl hp1 rfl (bR _ _ _) fun u1=>?_
 refine aE (d:=aN c.lo c.hi c.q) 1 rfl hp2 rfl (bR _ _ _) fun u2=>?_
 refine cH (bPair u1 u2 b c a hb hc qN hq) ?_
 refine bC [0,1,2,3,5,6,7,8,10,11,4,9,12,13,14] [0,1,2,3,4,5,6,7,8,9,10,11,12,13,14] qK qK ?_
 refine aF 2 rfl hp1 ?_
 refine aK (d:=zd b.lo) 2 rfl (aJ (aG _)) (aR _) fun u3=>?_
 refine aF 1 rfl hp2 ?_
 refine aK (d:=zd c.lo) 1 rfl (aJ (aG _)) (aR _) fun u4=>?_
 refine aF 2 rfl hp1 ?_
 refine aK (d:=zd b.hi) 2 rfl (aC (aJ (aG _))) (aR _) fun u5=>?_
 refine aF 1 rfl hp2 ?_
 refine aK (d:=zd c.hi) 1 rfl (aC (aJ (aG _))) (aR _) fun u6=>?_
 refine aF 2 rfl hp1 ?_
 refine aB (u:=.int .i64 b.q) 2 rfl (aC (aC (aG _))) ?_
 refine cG (zAddZ u3 u4 b.lo c.lo a a hb.slo hc.slo qN qN) fun u7=>?_
 refine cG (zAddZ u5 u6 b.hi c.hi a a hb.shi hc.shi qN qN) fun u8=>?_
 refine dE [zd (b.lo+c.lo),zd (b.hi+c.hi),.one (.int .i64 b.q)] (by exact ⟨⟨aA qM,rfl⟩,⟨aA qM,rfl⟩,⟨dC rfl,rfl⟩,trivial⟩) fun u9=>?_
 refine aH (d:=aN (b.lo+c.lo) (b.hi+c.hi) b.q) 0 rfl hp3 rfl qK (aA (d:=aN (b.lo+c.lo) (b.hi+c.hi) b.q) qM) ?_
 refine aE (d:=aN (b.lo+c.lo) (b.hi+c.hi) b.q) 0 rfl hp3 rfl (bR _ _ _) fun r10=>?_
 exact fin ⟨rfl,r10,rfl,rfl⟩ (dS (dS (dS (aD (fs':=[(r10,aN (b.lo+c.lo) (b.hi+c.hi) b.q)]) qS))))
theorem bSub (v w:Value) (b c:Bal)  (a:Nat) (hb:b.ok a) (hc:c.ok a) (ha:a≤100000000) (hq:b.q=c.q) :
  aY Tryz.prog 213 [v,w] [(v,aN b.lo b.hi b.q),(w,aN c.lo c.hi c.q)] (fun r os fs=>os=[]∧∃ x,r=.tuple #[x,.int .i64 0]∧fs=[(x,aN (iV b c).lo (iV b c).hi (iV b c).q)]):=by
 refine mV Tryz.func213 ?_
 refine aQ (aA (d:=aN b.lo b.hi b.q) qM) fun p1 hp1=>?_
 refine aQ (aA (d:=aN c.lo c.hi c.q) qM) fun p2 hp2=>?_
 refine aI (d:=aN 0 0 0) fun p3 hp3=>?_
 refine bC [0,1,3,4,2,6,5,7,8,9] [0,1,2,3,4,5,6,7,8,9] qK qK ?_
 refine aF 1 rfl hp2 ?_
 refine aK (d:=zd c.hi) 1 rfl (aC (aJ (aG _))) (aR _) fun u1=>?_
 refine aF 1 rfl hp2 ?_
 refine aK (d:=zd c.lo) 1 rfl (aJ (aG _)) (aR _) fun u2=>?_
 refine cG (sL u1 c.hi a hc.shi qN) fun u3=>?_
 refine aF 1 rfl hp2 ?_
 refine cG (sL u2 c.lo a hc.slo qN) fun u4=>?_
 refine cP (d:=zd (-c.hi)) 1 rfl hp2 (Rep.left (cD rfl)) (aA (d:=zd (-c.hi)) qM) ?_
 refine aF 1 rfl hp2 ?_
 refine cP (d:=zd (-c.lo)) 1 rfl hp2 (Rep.rk (Rep.left (cD rfl))) (aA (d:=zd (-c.lo)) qM) ?_
 refine aE (d:=aN b.lo b.hi b.q) 2 rfl hp1 rfl (bR _ _ _) fun u5=>?_
 refine aE (d:=(.cat (zd (-c.hi)) (.cat (zd (-c.lo)) (.one (.int .i64 c.q))))) 1 rfl hp2 rfl (bR _ _ _) fun u6=>?_
 refine cF (bAdd u5 u6 b ⟨-c.hi, -c.lo,c.q⟩ a hb ⟨by have:=hc.le; show -c.hi ≤ -c.lo; omega,hc.q0,hc.q1,gG hc.shi,gG hc.slo⟩ ha hq) ?_
 rintro _ _ _ ⟨rfl,x1,rfl,rfl⟩
 refine aH (d:=aN (b.lo + -c.hi) (b.hi + -c.lo) b.q) 0 rfl hp3 rfl qK (aA (d:=aN (b.lo + -c.hi) (b.hi + -c.lo) b.q) qM) ?_
 refine aE (d:=aN (b.lo + -c.hi) (b.hi + -c.lo) b.q) 0 rfl hp3 rfl (bR _ _ _) fun r7=>?_
 exact fin ⟨rfl,r7,rfl,rfl⟩ (dS (dS (dS (aD (fs':=[(r7,aN (b.lo + -c.hi) (b.hi + -c.lo) b.q)]) qS))))
theorem bTimes (v w:Value) (b:Bal) (k:Int)  (a:Nat) (hb:b.ok a) (ha:a≤100000000) (hk:sz k a) :
  aY Tryz.prog 141 [v,w] [(v,aN b.lo b.hi b.q),(w,zd k)] (fun r os fs=>os=[]∧∃ x,r=.tuple #[x,.int .i64 0]∧fs=[(x,aN (b8 b k).lo (b8 b k).hi (b8 b k).q)]):=by
 refine mV Tryz.func141 ?_
 refine aQ (aA (d:=aN b.lo b.hi b.q) qM) fun p1 hp1=>?_
 refine aQ (aA (d:=zd k) qM) fun p2 hp2=>?_
 refine aI (d:=aN 0 0 0) fun p3 hp3=>?_
 refine aE (d:=aN b.lo b.hi b.q) 2 rfl hp1 rfl (bR _ _ _) fun u1=>?_
 refine cH (vT u1 b a hb qN) ?_
 refine fN [0,1,2,4,5,6,3,7,8,9,10,11] [0,1,2,3,4,5,6,7,8,9,10,11] qK qK qK ?_
 refine aF 2 rfl hp1 ?_
 refine aK (d:=zd b.lo) 2 rfl (aJ (aG _)) (aR _) fun u2=>?_
 refine aE (d:=zd k) 1 rfl hp2 rfl (aR _) fun u3=>?_
 refine aF 2 rfl hp1 ?_
 refine aK (d:=zd b.hi) 2 rfl (aC (aJ (aG _))) (aR _) fun u4=>?_
 refine aE (d:=zd k) 1 rfl hp2 rfl (aR _) fun u5=>?_
 refine cG (zMulZ u2 u3 b.lo k a a hb.slo hk qN qN) fun u6=>?_
 refine cG (zMulZ u4 u5 b.hi k a a hb.shi hk qN qN) fun u7=>?_
 refine aI (d:=zd 0) fun p4 hp4=>?_
 refine aI (d:=zd 0) fun p5 hp5=>?_
 refine aH (d:=zd (b.lo*k)) 1 rfl hp4 rfl qK (aA (d:=zd (b.lo*k)) qM) ?_
 refine aH (d:=zd (b.hi*k)) 0 rfl hp5 rfl qK (aA (d:=zd (b.hi*k)) qM) ?_
 refine aE (d:=zd k) 3 rfl hp2 rfl (aR _) fun u8=>?_
 refine cH (mY u8 k a hk qN) ?_
 refine aO (k.sign<0) rfl (fun hc=>?_) (fun hc=>?_)
 ·have hk0:k<0:=Int.sign_neg_iff.mp hc
  rw [show b8 b k=⟨b.hi*k,b.lo*k,b.q⟩ from if_pos hk0]
  refine aE (d:=zd (b.hi*k)) 0 rfl hp5 rfl (aR _) fun u9=>?_
  refine aE (d:=zd (b.lo*k)) 1 rfl hp4 rfl (aR _) fun u10=>?_
  refine aH (d:=zd (b.hi*k)) 1 rfl hp4 rfl qK (aA (d:=zd (b.hi*k)) qM) ?_
  refine aH (d:=zd (b.lo*k)) 0 rfl hp5 rfl qK (aA (d:=zd (b.lo*k)) qM) ?_
  refine aE (d:=zd (b.hi*k)) 1 rfl hp4 rfl (aR _) fun u11=>?_
  refine aE (d:=zd (b.lo*k)) 0 rfl hp5 rfl (aR _) fun u12=>?_
  refine aF 4 rfl hp1 ?_
  refine aB (u:=.int .i64 b.q) 4 rfl (aC (aC (aG _))) ?_
  refine dE [zd (b.hi*k),zd (b.lo*k),.one (.int .i64 b.q)] (by exact ⟨⟨aA qM,rfl⟩,⟨aA qM,rfl⟩,⟨dC rfl,rfl⟩,trivial⟩) fun u13=>?_
  refine aH (d:=aN (b.hi*k) (b.lo*k) b.q) 2 rfl hp3 rfl qK (aA (d:=aN (b.hi*k) (b.lo*k) b.q) qM) ?_
  refine aE (d:=aN (b.hi*k) (b.lo*k) b.q) 2 rfl hp3 rfl (bR _ _ _) fun r14=>?_
  exact fin ⟨rfl,r14,rfl,rfl⟩ (dS (dS (dS (dS (dS (aD (fs':=[(r14,aN (b.hi*k) (b.lo*k) b.q)]) qS))))))
 ·have hk0:¬k<0:=fun h=>hc (Int.sign_neg_iff.mpr h)
  rw [show b8 b k=⟨b.lo*k,b.hi*k,b.q⟩ from if_neg hk0]
  refine aE (d:=zd (b.lo*k)) 1 rfl hp4 rfl (aR _) fun u9=>?_
  refine aE (d:=zd (b.hi*k)) 0 rfl hp5 rfl (aR _) fun u10=>?_
  refine aF 4 rfl hp1 ?_
  refine aB (u:=.int .i64 b.q) 4 rfl (aC (aC (aG _))) ?_
  refine dE [zd (b.lo*k),zd (b.hi*k),.one (.int .i64 b.q)] (by exact ⟨⟨aA qM,rfl⟩,⟨aA qM,rfl⟩,⟨dC rfl,rfl⟩,trivial⟩) fun u11=>?_
  refine aH (d:=aN (b.lo*k) (b.hi*k) b.q) 2 rfl hp3 rfl qK (aA (d:=aN (b.lo*k) (b.hi*k) b.q) qM) ?_
  refine aE (d:=aN (b.lo*k) (b.hi*k) b.q) 2 rfl hp3 rfl (bR _ _ _) fun r12=>?_
  exact fin ⟨rfl,r12,rfl,rfl⟩ (dS (dS (dS (dS (dS (aD (fs':=[(r12,aN (b.lo*k) (b.hi*k) b.q)]) qS))))))
theorem bShift (v:Value) (b:Bal) (k:Int)  (a:Nat) (hb:b.ok a) (ha:a≤100000000) (hk : -4000≤k∧k≤4000) :
  aY Tryz.prog 164 [v,.int .i64 k] [(v,aN b.lo b.hi b.q)] (fun r os fs=>os=[]∧∃ x,r=.tuple #[x,.int .i64 0]∧fs=[(x,aN (shiftB b k).lo (shiftB b k).hi (shiftB b k).q)]):=by
 refine mV Tryz.func164 ?_
 refine aQ (aA (d:=aN b.lo b.hi b.q) qM) fun p1 hp1=>?_
 refine aI (d:=aN 0 0 0) fun p2 hp2=>?_
 refine aE (d:=aN b.lo b.hi b.q) 1 rfl hp1 rfl (bR _ _ _) fun u1=>?_
 refine cH (vT u1 b a hb qN) ?_
 refine aL rfl qN ?_
 refine aL rfl qN ?_
 refine bC [0,1,2,3,5,6,7,8,10,11,4,9,12,13,14] [0,1,2,3,4,5,6,7,8,9,10,11,12,13,14] qK qK ?_
 refine aF 1 rfl hp1 ?_
 refine aK (d:=zd b.lo) 1 rfl (aJ (aG _)) (aR _) fun u2=>?_
 refine oP (m := -k) (by rw [Int.zero_sub]; exact bT ⟨by omega,by omega⟩) ?_
 refine aF 1 rfl hp1 ?_
 refine aK (d:=zd b.hi) 1 rfl (aC (aJ (aG _))) (aR _) fun u3=>?_
 refine oP (m := -k) (by rw [Int.zero_sub]; exact bT ⟨by omega,by omega⟩) ?_
 refine aF 1 rfl hp1 ?_
 refine aB (u:=.int .i64 b.q) 1 rfl (aC (aC (aG _))) ?_
 refine cG (bDown u2 b.lo (-k) a hb.slo qN qN) fun u4=>?_
 refine cG (bUp u3 b.hi (-k) a hb.shi qN qN) fun u5=>?_
 refine dE [zd (fA b.lo (-k)),zd (upV b.hi (-k)),.one (.int .i64 b.q)] (by exact ⟨⟨aA qM,rfl⟩,⟨aA qM,rfl⟩,⟨dC rfl,rfl⟩,trivial⟩) fun u6=>?_
 refine aH (d:=aN (fA b.lo (-k)) (upV b.hi (-k)) b.q) 0 rfl hp2 rfl qK (aA (d:=aN (fA b.lo (-k)) (upV b.hi (-k)) b.q) qM) ?_
 refine aE (d:=aN (fA b.lo (-k)) (upV b.hi (-k)) b.q) 0 rfl hp2 rfl (bR _ _ _) fun r7=>?_
 exact fin ⟨rfl,r7,rfl,rfl⟩ (dS (dS (aD (fs':=[(r7,aN (fA b.lo (-k)) (upV b.hi (-k)) b.q)]) qS)))
theorem buildZ0 {os:List Own} {fs:List bA} {K:cE} (k:∀ v,K v os ((v,zd 0)::fs)):oV Tryz.prog 32 [] os fs K:=build0 (da:=.one (.bool (decide ((0:Int)<0)))) (db:=U (b9 (0:Int).natAbs)) (fun S w=>jX S w) k
structure DyOk (m e:Int) (a:Nat):Prop where
 sm:sz m a
 e0 : -1900≤e
 e1:e≤1900
 nz:m=0→e=0
theorem bl_zero {n:Nat} (h:bH n=0):n=0:=by
 unfold bH at h
 split at h
 ·assumption
 ·omega
theorem bl_lt {x:Int} {a:Nat} (h:sz x a) (ha:a≤1000000000):bH x.natAbs≤64*1000000000:=by
 unfold bH
 split
 ·omega
 ·rename_i h0
  have h1:x.natAbs<2^(64*a):=by rw [Nat.pow_mul]; exact h
  have:=(Nat.log2_lt h0).mpr h1
  omega
def fQ (n:Int):Int:=max (-4000) (min n 4000)
def oE (e e':Int):Int:=min e e'
def jI (m e e':Int):Int:=m*2^far (e - oE e e')
def jY (m e q:Int):Int:=fA m (-(e+fQ q))
def rO (m e q:Int):Int:=upV m (-(e+fQ q))
def logV (m e:Int):Int×Bool:=if m=0 then (0,false) else (e+(bH m.natAbs:Nat) - 1,true)
theorem dNear (n:Int):aY Tryz.prog 220 [.int .i64 n] [] (fun r os fs=>os=[]∧fs=[]∧r=.int .i64 (fQ n)):=by
 refine mV Tryz.func220 ?_
 refine gJ ?_
 refine nK ?_
 exact fin ⟨rfl,rfl,rfl⟩ (aD (fs':=[]) qS)
theorem dUp (v:Value) (x n:Int) (a:Nat) (hx:sz x a) (ha:a≤1000000000) (hn:0≤n∧n≤4000):aY Tryz.prog 101 [v,.int .i64 n] [(v,zd x)] (fun r os fs=>os=[]∧fs=[(r,zd (x*2^far n))]):=by
 refine mV Tryz.func101 ?_
 refine aQ (aA (d:=zd x) qM) fun p1 hp1=>?_
 refine aI (d:=zd 0) fun p2 hp2=>?_
 refine bD (X:=Nat) (fun _=>([(1,.int .i64 n),(2,p1),(4,p2)],[bL p2 2 1 (fun _=>zd 0),bL p1 2 1 (fun _=>zd x)],[(v,zd x)])) (fun z=>z=0) (fun _=>0) rfl ?_ ?_
 ·exact bB 0 rfl trivial qF (aD qS)
 ·rintro z hz
  refine aL rfl qN ?_
  refine aE (d:=zd x) 1 rfl hp1 rfl (aR _) fun u1=>?_
  refine cG (mZ u1 x n a hx qN) fun u2=>?_
  refine aH (d:=zd (x*2^far n)) 0 rfl hp2 rfl qK (aA (d:=zd (x*2^far n)) qM) ?_
  refine aE (d:=zd (x*2^far n)) 0 rfl hp2 rfl (aR _) fun r3=>?_
  exact fin ⟨rfl,rfl⟩ (dS (dS (aD (fs':=[(r3,zd (x*2^far n))]) qS)))
theorem dDown (v:Value) (x n:Int) (a:Nat) (hx:sz x a) (ha:a≤1000000000) (hn:0≤n∧n≤4000):aY Tryz.prog 103 [v,.int .i64 n] [(v,zd x)] (fun r os fs=>os=[]∧fs=[(r,zd (x/2^far n))]):=by
 refine mV Tryz.func103 ?_
 refine aQ (aA (d:=zd x) qM) fun p1 hp1=>?_
 refine aI (d:=zd 0) fun p2 hp2=>?_
 refine bD (X:=Nat) (fun _=>([(1,.int .i64 n),(2,p1),(4,p2)],[bL p2 2 1 (fun _=>zd 0),bL p1 2 1 (fun _=>zd x)],[(v,zd x)])) (fun z=>z=0) (fun _=>0) rfl ?_ ?_
 ·exact bB 0 rfl trivial qF (aD qS)
 ·rintro z hz
  refine aL rfl qN ?_
  refine aE (d:=zd x) 1 rfl hp1 rfl (aR _) fun u1=>?_
  refine cG (zShrN u1 x n a hx qN) fun u2=>?_
  refine aH (d:=zd (x/2^far n)) 0 rfl hp2 rfl qK (aA (d:=zd (x/2^far n)) qM) ?_
  refine aE (d:=zd (x/2^far n)) 0 rfl hp2 rfl (aR _) fun r3=>?_
  exact fin ⟨rfl,rfl⟩ (dS (dS (aD (fs':=[(r3,zd (x/2^far n))]) qS)))
theorem mI (v:Value) (m e:Int) (a:Nat) (h:DyOk m e a) (ha:a≤1000000000):aY Tryz.prog 67 [v] [(v,dyD m e)] (fun r os fs=>os=[]∧∃ x,r=.tuple #[x,.int .i64 e]∧fs=[(x,zd m)]):=by
 have e0:=h.e0
 have e1:=h.e1
 refine mV Tryz.func67 ?_
 refine aQ (aA (d:=dyD m e) qM) fun p1 hp1=>?_
 refine aI (d:=zd 0) fun p2 hp2=>?_
 refine aF 1 rfl hp1 ?_
 refine aB (u:=.int .i64 e) 1 rfl (aC (aG _)) ?_
 refine aL rfl qN ?_
 refine aF 1 rfl hp1 ?_
 refine aB (u:=.int .i64 e) 1 rfl (aC (aG _)) ?_
 refine aL rfl qN ?_
 refine aF 1 rfl hp1 ?_
 refine aK (d:=zd m) 1 rfl (aJ (aG _)) (aR _) fun u1=>?_
 refine cH (mY u1 m a h.sm qN) ?_
 refine aO (m.sign=0) rfl (fun hc=>?_) (fun hc=>?_)
 ·have hm0:m=0:=Int.sign_eq_zero_iff_zero.mp hc
  have he0:=h.nz hm0
  subst hm0 he0
  refine buildZ0 fun u2=>?_
  refine aH (d:=zd 0) 0 rfl hp2 rfl qK (aA (d:=zd 0) qM) ?_
  refine aE (d:=zd 0) 0 rfl hp2 rfl (aR _) fun r3=>?_
  exact fin ⟨rfl,r3,rfl,rfl⟩ (dS (dS (aD (fs':=[(r3,zd 0)]) qS)))
 ·refine eT [0,1,4,2,3,5] qK ?_
  refine cL 3 4 qK qK qK ?_ ?_
  ·refine ord_go [0,1,2,3,4,5] qK qK ?_
   refine aF 1 rfl hp1 ?_
   refine aK (d:=zd m) 1 rfl (aJ (aG _)) (aR _) fun u2=>?_
   refine aF 1 rfl hp1 ?_
   refine aB (u:=.int .i64 e) 1 rfl (aC (aG _)) ?_
   refine aH (d:=zd m) 0 rfl hp2 rfl qK (aA (d:=zd m) qM) ?_
   refine aE (d:=zd m) 0 rfl hp2 rfl (aR _) fun r3=>?_
   exact fin ⟨rfl,r3,rfl,rfl⟩ (dS (dS (aD (fs':=[(r3,zd m)]) qS)))
  ·refine ord_go [0,1,2,4,3,5] qK qK ?_
   refine aF 1 rfl hp1 ?_
   refine aK (d:=zd m) 1 rfl (aJ (aG _)) (aR _) fun u2=>?_
   refine aF 1 rfl hp1 ?_
   refine aH (d:=zd m) 0 rfl hp2 rfl qK (aA (d:=zd m) qM) ?_
   refine aB (u:=.int .i64 e) 1 rfl (aC (aG _)) ?_
   refine aE (d:=zd m) 0 rfl hp2 rfl (aR _) fun r3=>?_
   exact fin ⟨rfl,r3,rfl,rfl⟩ (dS (dS (aD (fs':=[(r3,zd m)]) qS)))
theorem dSign (v:Value) (m e:Int) (a:Nat) (h:DyOk m e a) (ha:a≤1000000000):aY Tryz.prog 122 [v] [(v,dyD m e)] (fun r os fs=>os=[]∧fs=[]∧r=.int .i64 m.sign):=by
 refine mV Tryz.func122 ?_
 refine aQ (aA (d:=dyD m e) qM) fun p1 hp1=>?_
 refine aE (d:=dyD m e) 0 rfl hp1 rfl (cB _ _) fun u1=>?_
 refine cF (mI u1 m e a h qN) ?_
 rintro _ _ _ ⟨rfl,xm,rfl,rfl⟩
 refine aI (d:=zd 0) fun p2 hp2=>?_
 refine aH (d:=zd m) 0 rfl hp2 rfl qK (aA (d:=zd m) qM) ?_
 refine aE (d:=zd m) 0 rfl hp2 rfl (aR _) fun u2=>?_
 refine cH (mY u2 m a h.sm qN) ?_
 exact fin ⟨rfl,rfl,rfl⟩ (dS (dS (aD (fs':=[]) qS)))
theorem dLog (v:Value) (m e:Int) (a:Nat) (h:DyOk m e a) (ha:a≤1000000000):aY Tryz.prog 121 [v] [(v,dyD m e)] (fun r os fs=>os=[]∧fs=[]∧r=.tuple #[.int .i64 (logV m e).1,.bool (logV m e).2]):=by
 have e0:=h.e0
 have e1:=h.e1
 have hbl:=bl_lt h.sm ha
 refine mV Tryz.func121 ?_
 refine aQ (aA (d:=dyD m e) qM) fun p1 hp1=>?_
 refine aE (d:=dyD m e) 0 rfl hp1 rfl (cB _ _) fun u1=>?_
 refine cF (mI u1 m e a h qN) ?_
 rintro _ _ _ ⟨rfl,xm,rfl,rfl⟩
 refine aI (d:=zd 0) fun p2 hp2=>?_
 refine aH (d:=zd m) 0 rfl hp2 rfl qK (aA (d:=zd m) qM) ?_
 refine aE (d:=zd m) 0 rfl hp2 rfl (aR _) fun u2=>?_
 refine cH (tO u2 m a h.sm qN) ?_
 refine aO (((bH m.natAbs:Nat):Int)=0) rfl (fun hc=>?_) (fun hc=>?_)
 ·have hm0:m=0:=Int.natAbs_eq_zero.mp (bl_zero qN)
  rw [show logV m e=(0,false) from if_pos hm0]
  exact fin ⟨rfl,rfl,rfl⟩ (dS (dS (aD (fs':=[]) qS)))
 ·have hm0:m≠0:=fun h0=>hc (by rw [h0]; rfl)
  rw [show logV m e=(e+(bH m.natAbs:Nat) - 1,true) from if_neg hm0]
  refine ar rfl qI ?_
  refine ar rfl qI ?_
  exact fin ⟨rfl,rfl,rfl⟩ (dS (dS (aD (fs':=[]) qS)))
theorem dFloor (v:Value) (m e:Int) (a:Nat) (h:DyOk m e a) (q:Int) (ha:a≤1000000000) (hq : -2048≤q∧q≤2048):aY Tryz.prog 217 [v,.int .i64 q] [(v,dyD m e)] (fun r os fs=>os=[]∧fs=[(r,zd (jY m e q))]):=by
 have e0:=h.e0
 have e1:=h.e1
 have hnq:fQ q=q:=by unfold fQ; omega
 refine mV Tryz.func217 ?_
 refine aQ (aA (d:=dyD m e) qM) fun p1 hp1=>?_
 refine aI (d:=zd 0) fun p2 hp2=>?_
 refine aE (d:=dyD m e) 1 rfl hp1 rfl (cB _ _) fun u1=>?_
 refine cF (mI u1 m e a h qN) ?_
 rintro _ _ _ ⟨rfl,xm,rfl,rfl⟩
 refine aI (d:=zd 0) fun p3 hp3=>?_
 refine aH (d:=zd m) 0 rfl hp3 rfl qK (aA (d:=zd m) qM) ?_
 refine cH (dNear q) ?_
 refine ar rfl qI ?_
 refine aO (0≤e+fQ q) rfl (fun hc=>?_) (fun hc=>?_)
 ·rw [show jY m e q=m*2^far (e+fQ q) by unfold jY; rw [downV_np qN,Int.neg_neg]]
  refine aE (d:=zd m) 0 rfl hp3 rfl (aR _) fun u2=>?_
  refine cG (dUp u2 m (e+fQ q) a h.sm qN ⟨hc,by omega⟩) fun u3=>?_
  refine aH (d:=zd (m*2^far (e+fQ q))) 1 rfl hp2 rfl qK (aA (d:=zd (m*2^far (e+fQ q))) qM) ?_
  refine aE (d:=zd (m*2^far (e+fQ q))) 1 rfl hp2 rfl (aR _) fun r4=>?_
  exact fin ⟨rfl,rfl⟩ (dS (dS (dS (aD (fs':=[(r4,zd (m*2^far (e+fQ q)))]) qS))))
 ·rw [show jY m e q=m/2^far (-(e+fQ q)) by unfold jY; rw [mH qN]]
  refine aE (d:=zd m) 0 rfl hp3 rfl (aR _) fun u2=>?_
  refine oP (m := -(e+fQ q)) (by rw [Int.zero_sub]; exact bT ⟨by omega,by omega⟩) ?_
  refine cG (dDown u2 m (-(e+fQ q)) a h.sm qN ⟨by omega,by omega⟩) fun u3=>?_
  refine aH (d:=zd (m/2^far (-(e+fQ q)))) 1 rfl hp2 rfl qK (aA (d:=zd (m/2^far (-(e+fQ q)))) qM) ?_
  refine aE (d:=zd (m/2^far (-(e+fQ q)))) 1 rfl hp2 rfl (aR _) fun r4=>?_
  exact fin ⟨rfl,rfl⟩ (dS (dS (dS (aD (fs':=[(r4,zd (m/2^far (-(e+fQ q))))]) qS))))
theorem dCeil (v:Value) (m e:Int) (a:Nat) (h:DyOk m e a) (q:Int) (ha:a≤1000000000) (hq : -2048≤q∧q≤2048):aY Tryz.prog 218 [v,.int .i64 q] [(v,dyD m e)] (fun r os fs=>os=[]∧fs=[(r,zd (rO m e q))]):=by
 have e0:=h.e0
 have e1:=h.e1
 have hnq:fQ q=q:=by unfold fQ; omega
 refine mV Tryz.func218 ?_
 refine aQ (aA (d:=dyD m e) qM) fun p1 hp1=>?_
 refine aI (d:=zd 0) fun p2 hp2=>?_
 refine aE (d:=dyD m e) 1 rfl hp1 rfl (cB _ _) fun u1=>?_
 refine cF (mI u1 m e a h qN) ?_
 rintro _ _ _ ⟨rfl,xm,rfl,rfl⟩
 refine aI (d:=zd 0) fun p3 hp3=>?_
 refine aH (d:=zd m) 0 rfl hp3 rfl qK (aA (d:=zd m) qM) ?_
 refine cH (dNear q) ?_
 refine ar rfl qI ?_
 refine aO (0≤e+fQ q) rfl (fun hc=>?_) (fun hc=>?_)
 ·rw [show rO m e q=m*2^far (e+fQ q) by unfold rO upV; rw [downV_np qN,Int.neg_neg,Int.neg_mul,Int.neg_neg]]
  refine aE (d:=zd m) 0 rfl hp3 rfl (aR _) fun u2=>?_
  refine cG (dUp u2 m (e+fQ q) a h.sm qN ⟨hc,by omega⟩) fun u3=>?_
  refine aH (d:=zd (m*2^far (e+fQ q))) 1 rfl hp2 rfl qK (aA (d:=zd (m*2^far (e+fQ q))) qM) ?_
  refine aE (d:=zd (m*2^far (e+fQ q))) 1 rfl hp2 rfl (aR _) fun r4=>?_
  exact fin ⟨rfl,rfl⟩ (dS (dS (dS (aD (fs':=[(r4,zd (m*2^far (e+fQ q)))]) qS))))
 ·rw [show rO m e q = -(-m/2^far (-(e+fQ q))) by unfold rO upV; rw [mH qN]]
  refine aE (d:=zd m) 0 rfl hp3 rfl (aR _) fun u2=>?_
  refine cG (sL u2 m a h.sm qN) fun u3=>?_
  refine oP (m := -(e+fQ q)) (by rw [Int.zero_sub]; exact bT ⟨by omega,by omega⟩) ?_
  refine cG (dDown u3 (-m) (-(e+fQ q)) a (gG h.sm) qN ⟨by omega,by omega⟩) fun u4=>?_
  refine cG (sL u4 (-m/2^far (-(e+fQ q))) a (m6 (gG h.sm)) qN) fun u5=>?_
  refine aH (d:=zd (-(-m/2^far (-(e+fQ q))))) 1 rfl hp2 rfl qK (aA (d:=zd (-(-m/2^far (-(e+fQ q))))) qM) ?_
  refine aE (d:=zd (-(-m/2^far (-(e+fQ q))))) 1 rfl hp2 rfl (aR _) fun r6=>?_
  exact fin ⟨rfl,rfl⟩ (dS (dS (dS (aD (fs':=[(r6,zd (-(-m/2^far (-(e+fQ q)))))]) qS))))
theorem dLevel (v w:Value) (m e n f:Int) (a:Nat) (h:DyOk m e a) (g:DyOk n f a) (ha:a≤1000000000):aY Tryz.prog 64 [v,w] [(v,dyD m e),(w,dyD n f)] (fun r os fs=>os=[]∧∃ x y,r=.tuple #[x,y,.int .i64 (oE e f)]∧fs=[(x,zd (jI m e f)),(y,zd (jI n f e))]):=by
 have e0:=h.e0
 have e1:=h.e1
 have f0:=g.e0
 have f1:=g.e1
 have hl:oE e f≤e∧oE e f≤f ∧ -1900≤oE e f:=by unfold oE; omega
 have hl2:oE f e=oE e f:=by unfold oE; omega
 rw [show jI n f e=n*2^far (f - oE e f) by unfold jI; rw [hl2]]
 refine mV Tryz.func64 ?_
 refine aQ (aA (d:=dyD m e) qM) fun p1 hp1=>?_
 refine aQ (aA (d:=dyD n f) qM) fun p2 hp2=>?_
 refine aI (d:=zd 0) fun p3 hp3=>?_
 refine aI (d:=zd 0) fun p4 hp4=>?_
 refine aE (d:=dyD m e) 3 rfl hp1 rfl (cB _ _) fun u1=>?_
 refine cF (mI u1 m e a h qN) ?_
 rintro _ _ _ ⟨rfl,xm,rfl,rfl⟩
 refine aI (d:=zd 0) fun p5 hp5=>?_
 refine aH (d:=zd m) 0 rfl hp5 rfl qK (aA (d:=zd m) qM) ?_
 refine aE (d:=dyD n f) 3 rfl hp2 rfl (cB _ _) fun u2=>?_
 refine cF (mI u2 n f a g qN) ?_
 rintro _ _ _ ⟨rfl,xn,rfl,rfl⟩
 refine aI (d:=zd 0) fun p6 hp6=>?_
 refine aH (d:=zd n) 0 rfl hp6 rfl qK (aA (d:=zd n) qM) ?_
 refine gJ ?_
 refine bC [0,1,2,3,5,6,7,8,10,4,9,11,12,13] [0,1,2,3,4,5,6,7,8,9,11,12,10,13] qK qK ?_
 refine aE (d:=zd m) 1 rfl hp5 rfl (aR _) fun u3=>?_
 refine ar rfl qI ?_
 refine aE (d:=zd n) 0 rfl hp6 rfl (aR _) fun u4=>?_
 refine ar rfl qI ?_
 refine cG (dUp u3 m (e - oE e f) a h.sm qN ⟨by omega,by omega⟩) fun u5=>?_
 refine cG (dUp u4 n (f - oE e f) a g.sm qN ⟨by omega,by omega⟩) fun u6=>?_
 refine aH (d:=zd (jI m e f)) 3 rfl hp3 rfl qK (aA (d:=zd (jI m e f)) qM) ?_
 refine aH (d:=zd (n*2^far (f - oE e f))) 2 rfl hp4 rfl qK (aA (d:=zd (n*2^far (f - oE e f))) qM) ?_
 refine aE (d:=zd (jI m e f)) 3 rfl hp3 rfl (aR _) fun r7=>?_
 refine aE (d:=zd (n*2^far (f - oE e f))) 2 rfl hp4 rfl (aR _) fun r8=>?_
 exact fin ⟨rfl,r7,r8,rfl,rfl⟩ (dS (dS (dS (dS (dS (dS (aD (fs':=[(r7,zd (jI m e f)),(r8,zd (n*2^far (f - oE e f)))]) qS)))))))
theorem dCmp (v w:Value) (m e n f:Int) (a:Nat) (h:DyOk m e a) (g:DyOk n f a) (ha:a≤100000000):aY Tryz.prog 33 [v,w] [(v,dyD m e),(w,dyD n f)] (fun r os fs=>os=[]∧fs=[]∧r=.int .i64 (jI m e f - jI n f e).sign):=by
 refine mV Tryz.func33 ?_
 refine aQ (aA (d:=dyD m e) qM) fun p1 hp1=>?_
 refine aQ (aA (d:=dyD n f) qM) fun p2 hp2=>?_
 refine aE (d:=dyD m e) 1 rfl hp1 rfl (cB _ _) fun u1=>?_
 refine aE (d:=dyD n f) 0 rfl hp2 rfl (cB _ _) fun u2=>?_
 refine cF (dLevel u1 u2 m e n f a h g qN) ?_
 rintro _ _ _ ⟨rfl,x1,y1,rfl,rfl⟩
 refine aI (d:=zd 0) fun p3 hp3=>?_
 refine aI (d:=zd 0) fun p4 hp4=>?_
 refine aH (d:=zd (jI m e f)) 1 rfl hp3 rfl qK (aA (d:=zd (jI m e f)) qM) ?_
 refine aH (d:=zd (jI n f e)) 0 rfl hp4 rfl qK (aA (d:=zd (jI n f e)) qM) ?_
 refine aE (d:=zd (jI m e f)) 1 rfl hp3 rfl (aR _) fun u3=>?_
 refine aE (d:=zd (jI n f e)) 0 rfl hp4 rfl (aR _) fun u4=>?_
 refine cH (mL u3 u4 _ _ (a+130) ((fK h.sm).mono qN) ((fK g.sm).mono qN) qN) ?_
 exact fin ⟨rfl,rfl,rfl⟩ (dS (dS (dS (dS (aD (fs':=[]) qS)))))
def ofT (c q:Int):Int:=1*2^far q/c
def ofV (S:Int→Int→Nat→P2) (c d q:Int) (n:Nat):Bal:=b8 ⟨(S (ofT c q) q n).1,(S (ofT c q+1) q n).2,q⟩ d
def bZ (m e q:Int):Bal:=⟨jY m e q,rO m e q,q⟩
theorem cOf (g:FuncId) (S:Int→Int→Nat→P2) (c d q:Int) (n:Nat) (a:Nat) (hc:1≤c∧c≤1000) (hd:1≤d∧d≤1000) (hq:0≤q∧q≤1200) (ha:a≤50000000) (ha2:2≤a)
  (hS:∀ v t,t=ofT c q∨t=ofT c q+1→aY Tryz.prog g [v,.int .i64 q,.int .i64 (n:Nat)] [(v,zd t)] (fun r os fs=>os=[]∧∃ x y,r=.tuple #[x,y,.int .i64 0]∧fs=[(x,zd (S t q n).1),(y,zd (S t q n).2)]))
  (hok:Bal.ok ⟨(S (ofT c q) q n).1,(S (ofT c q+1) q n).2,q⟩ a) :
  aY Tryz.prog 123 [.func (.func g) #[] #[],.int .i64 c,.int .i64 d,.int .i64 q,.int .i64 (n:Nat)] [] (fun r os fs=>os=[]∧fs=[(r,aN (ofV S c d q n).lo (ofV S c d q n).hi (ofV S c d q n).q)]):=by
 refine mV Tryz.func123 ?_
 refine aI (d:=aN 0 0 0) fun p1 hp1=>?_
 refine cG (fB 1 qN qN) fun u1=>?_
 refine cG (mZ u1 1 q 1 (dR 1 qE) qN) fun u2=>?_
 refine cG (fB c qN qN) fun u3=>?_
 refine cF (sS u2 u3 (1*2^far q) c 130 1 ((fK (dR 1 qE)).mono qN) (dR c qN) qN qN qN) ?_
 rintro _ _ _ ⟨rfl,z1,z2,rfl,rfl⟩
 refine aI (d:=zd 0) fun p2 hp2=>?_
 refine aI (d:=zd 0) fun p3 hp3=>?_
 refine aH (d:=zd (ofT c q)) 1 rfl hp2 rfl qK (aA (d:=zd (ofT c q)) qM) ?_
 refine aH (d:=zd (1*2^far q%c)) 0 rfl hp3 rfl qK (aA (d:=zd (1*2^far q%c)) qM) ?_
 refine aE (d:=zd (ofT c q)) 1 rfl hp2 rfl (aR _) fun u4=>?_
 refine cF (hS u4 _ (Or.inl rfl)) ?_
 rintro _ _ _ ⟨rfl,x1,y1,rfl,rfl⟩
 refine aI (d:=zd 0) fun p4 hp4=>?_
 refine aI (d:=zd 0) fun p5 hp5=>?_
 refine aH (d:=zd ((S (ofT c q) q n).1)) 1 rfl hp4 rfl qK (aA (d:=zd ((S (ofT c q) q n).1)) qM) ?_
 refine aH (d:=zd ((S (ofT c q) q n).2)) 0 rfl hp5 rfl qK (aA (d:=zd ((S (ofT c q) q n).2)) qM) ?_
 refine fN [0,1,4,5,2,3,6,7,8,9,10,11,12,13,14,15] [0,1,2,3,4,5,6,7,8,11,12,13,9,14,10,15] qK qK qK ?_
 refine aE (d:=zd (ofT c q)) 3 rfl hp2 rfl (aR _) fun u5=>?_
 refine cG (fB 1 qN qN) fun u6=>?_
 refine cG (zAddZ u5 u6 (ofT c q) 1 130 1 (m6 ((fK (dR 1 qE)).mono qN)) (dR 1 qE) qN qN) fun u7=>?_
 refine cF (hS u7 _ (Or.inr rfl)) ?_
 rintro _ _ _ ⟨rfl,x2,y2,rfl,rfl⟩
 refine aI (d:=zd 0) fun p6 hp6=>?_
 refine aI (d:=zd 0) fun p7 hp7=>?_
 refine aH (d:=zd ((S (ofT c q+1) q n).1)) 1 rfl hp6 rfl qK (aA (d:=zd ((S (ofT c q+1) q n).1)) qM) ?_
 refine aH (d:=zd ((S (ofT c q+1) q n).2)) 0 rfl hp7 rfl qK (aA (d:=zd ((S (ofT c q+1) q n).2)) qM) ?_
 refine fN [0,1,2,3,4,5,6,7,8,9,10,11,12] [0,1,2,3,4,5,6,7,8,10,11,9,12] qK qK qK ?_
 refine aE (d:=zd ((S (ofT c q) q n).1)) 3 rfl hp4 rfl (aR _) fun u8=>?_
 refine aE (d:=zd ((S (ofT c q+1) q n).2)) 0 rfl hp7 rfl (aR _) fun u9=>?_
 refine dE [zd ((S (ofT c q) q n).1),zd ((S (ofT c q+1) q n).2),.one (.int .i64 q)] (by exact ⟨⟨aA qM,rfl⟩,⟨aA qM,rfl⟩,⟨dC rfl,rfl⟩,trivial⟩) fun u10=>?_
 refine cG (fB d qN qN) fun u11=>?_
 refine cF (bTimes u10 u11 ⟨(S (ofT c q) q n).1,(S (ofT c q+1) q n).2,q⟩ d a hok qN ((dR d qN).mono qN)) ?_
 rintro _ _ _ ⟨rfl,x3,rfl,rfl⟩
 refine aI (d:=aN 0 0 0) fun p8 hp8=>?_
 refine aH (d:=aN (ofV S c d q n).lo (ofV S c d q n).hi (ofV S c d q n).q) 0 rfl hp8 rfl qK (aA (d:=aN (ofV S c d q n).lo (ofV S c d q n).hi (ofV S c d q n).q) qM) ?_
 refine aE (d:=aN (ofV S c d q n).lo (ofV S c d q n).hi (ofV S c d q n).q) 0 rfl hp8 rfl (bR _ _ _) fun u12=>?_
 refine aH (d:=aN (ofV S c d q n).lo (ofV S c d q n).hi (ofV S c d q n).q) 7 rfl hp1 rfl qK (aA (d:=aN (ofV S c d q n).lo (ofV S c d q n).hi (ofV S c d q n).q) qM) ?_
 refine aE (d:=aN (ofV S c d q n).lo (ofV S c d q n).hi (ofV S c d q n).q) 7 rfl hp1 rfl (bR _ _ _) fun r13=>?_
 exact fin ⟨rfl,rfl⟩ (dS (dS (dS (dS (dS (dS (dS (dS (aD (fs':=[(r13,aN (ofV S c d q n).lo (ofV S c d q n).hi (ofV S c d q n).q)]) qS)))))))))
theorem bPoint (v:Value) (m e:Int) (a:Nat) (h:DyOk m e a) (q:Int) (ha:a≤1000000000) (hq:0≤q∧q≤2048):aY Tryz.prog 212 [v,.int .i64 q] [(v,dyD m e)] (fun r os fs=>os=[]∧∃ x,r=.tuple #[x,.int .i64 0]∧fs=[(x,aN (bZ m e q).lo (bZ m e q).hi (bZ m e q).q)]):=by
 refine mV Tryz.func212 ?_
 refine aQ (aA (d:=dyD m e) qM) fun p1 hp1=>?_
 refine aI (d:=aN 0 0 0) fun p2 hp2=>?_
 refine cH (bMay q hq.1 hq.2) ?_
 refine bC [0,1,3,4,6,2,5,7,8,9] [0,1,2,3,4,5,6,7,8,9] qK qK ?_
 refine aE (d:=dyD m e) 1 rfl hp1 rfl (cB _ _) fun u1=>?_
 refine aE (d:=dyD m e) 1 rfl hp1 rfl (cB _ _) fun u2=>?_
 refine cG (dFloor u1 m e a h q ha qN) fun u3=>?_
 refine cG (dCeil u2 m e a h q ha qN) fun u4=>?_
 refine dE [zd (jY m e q),zd (rO m e q),.one (.int .i64 q)] (by exact ⟨⟨aA qM,rfl⟩,⟨aA qM,rfl⟩,⟨dC rfl,rfl⟩,trivial⟩) fun u5=>?_
 refine aH (d:=aN (jY m e q) (rO m e q) q) 0 rfl hp2 rfl qK (aA (d:=aN (jY m e q) (rO m e q) q) qM) ?_
 refine aE (d:=aN (jY m e q) (rO m e q) q) 0 rfl hp2 rfl (bR _ _ _) fun r6=>?_
 exact fin ⟨rfl,r6,rfl,rfl⟩ (dS (dS (aD (fs':=[(r6,aN (jY m e q) (rO m e q) q)]) qS)))
def iZ (f:Nat→Int):Nat→Int
 | 0=>f 0
 | k+1=>if f (k+1)<iZ f k then f (k+1) else iZ f k
def jA (f:Nat→Int):Nat→Int
 | 0=>f 0
 | k+1=>if jA f k<f (k+1) then f (k+1) else jA f k
theorem minF_sz {f:Nat→Int} {n a:Nat} (h:∀ i,i<n→sz (f i) a):∀ k,k<n→sz (iZ f k) a
 | 0,hk=>h 0 hk
 | k+1,hk=>by rw [iZ]; split; exact h _ hk; exact minF_sz h k qN
theorem maxF_sz {f:Nat→Int} {n a:Nat} (h:∀ i,i<n→sz (f i) a):∀ k,k<n→sz (jA f k) a
 | 0,hk=>h 0 hk
 | k+1,hk=>by rw [jA]; split; exact h _ hk; exact maxF_sz h k qN
theorem mMin (v:Value) (n:Nat) (el:Nat→Dat) (f:Nat→Int) (a:Nat) (hel:∀ i,i<n→el i=zd (f i)) (hs:∀ i,i<n→sz (f i) a) (hn:1≤n∧n≤1000) (ha:a≤1000000000) :
  aY Tryz.prog 227 [v,.func (.func 28) #[] #[]] [(v,.sl 2 n el)] (fun r os fs=>os=[]∧fs=[(r,zd (iZ f (n - 1)))]):=by
 refine mV Tryz.func227 ?_
 refine aI (d:=zd 0) fun p1 hp1=>?_
 refine aS (n:=n) qM fun _=>?_
 refine aL rfl qN ?_
 refine aZ qM (0) rfl qN fun u1=>?_
 rw [hel 0 qN]
 refine cS (d:=zd (f 0)) qM (aR _) fun u2=>?_
 refine aI (d:=zd 0) fun p2 hp2=>?_
 refine aH (d:=zd (f 0)) 0 rfl hp2 rfl qK (aA (d:=zd (f 0)) qM) ?_
 refine bD (X:=Nat) (fun x=>([(0,v),(1,.func (.func 28) #[] #[]),(4,p1),(5,p2),(6,.int .i64 ((x+1:Nat):Int))],[bL p2 2 1 (fun _=>zd (iZ f x)),bL p1 2 1 (fun _=>zd 0)],[(v,.sl 2 n el)])) (fun x=>x+1≤n) (fun x=>n - x) rfl ?_ ?_
 ·exact bB 0 qN trivial qF (aD qS)
 ·rintro x hx
  replace hx:x+1≤n:=hx
  refine aS (n:=n) qM fun _=>?_
  refine aO (((x+1:Nat):Int)<((n:Nat):Int)) rfl (fun hlt=>?_) (fun hlt=>?_)
  ·refine bC [0,1,2,3,4,5,6,7] [0,1,2,3,4,5,6,7] qK qK ?_
   refine aZ qM (x+1) rfl qN fun u3=>?_
   rw [hel (x+1) qN]
   refine cS (d:=zd (f (x+1))) qM (aR _) fun u4=>?_
   refine aE (d:=zd (iZ f x)) 0 rfl hp2 rfl (aR _) fun u5=>?_
   refine cH (mL u4 u5 (f (x+1)) (iZ f x) a (hs _ qN) (minF_sz hs x qN) qN) ?_
   refine aO ((f (x+1) - iZ f x).sign<0) rfl (fun hd=>?_) (fun hd=>?_)
   ·have he:f (x+1)=iZ f (x+1):=(if_pos (by have:=Int.sign_neg_iff.mp hd; omega)).symm
    refine aZ qM (x+1) rfl qN fun u6=>?_
    rw [hel (x+1) qN,he]
    refine cS (d:=zd (iZ f (x+1))) qM (aR _) fun u7=>?_
    refine aH (d:=zd (iZ f (x+1))) 0 rfl hp2 rfl qK (aA (d:=zd (iZ f (x+1))) qM) ?_
    refine ar rfl qI ?_
    exact bB (x+1) qO qO qF (aD qS)
   ·have he:iZ f x=iZ f (x+1):=(if_neg (fun h=>hd (Int.sign_neg_iff.mpr qN))).symm
    rw [he]
    refine ar rfl qI ?_
    exact bB (x+1) qO qO qF (aD qS)
  ·obtain rfl:n=x+1:=by omega
   refine aE (d:=zd (iZ f x)) 0 rfl hp2 rfl (aR _) fun u3=>?_
   refine aH (d:=zd (iZ f x)) 1 rfl hp1 rfl qK (aA (d:=zd (iZ f x)) qM) ?_
   refine aE (d:=zd (iZ f x)) 1 rfl hp1 rfl (aR _) fun r4=>?_
   exact fin ⟨rfl,rfl⟩ (dS (dS (aD (fs':=[(r4,zd (iZ f x))]) qS)))
theorem mMax (v:Value) (n:Nat) (el:Nat→Dat) (f:Nat→Int) (a:Nat) (hel:∀ i,i<n→el i=zd (f i)) (hs:∀ i,i<n→sz (f i) a) (hn:1≤n∧n≤1000) (ha:a≤1000000000) :
  aY Tryz.prog 228 [v,.func (.func 28) #[] #[]] [(v,.sl 2 n el)] (fun r os fs=>os=[]∧fs=[(r,zd (jA f (n - 1)))]):=by
 refine mV Tryz.func228 ?_
 refine aI (d:=zd 0) fun p1 hp1=>?_
 refine aS (n:=n) qM fun _=>?_
 refine aL rfl qN ?_
 refine aZ qM (0) rfl qN fun u1=>?_
 rw [hel 0 qN]
 refine cS (d:=zd (f 0)) qM (aR _) fun u2=>?_
 refine aI (d:=zd 0) fun p2 hp2=>?_
 refine aH (d:=zd (f 0)) 0 rfl hp2 rfl qK (aA (d:=zd (f 0)) qM) ?_
 refine bD (X:=Nat) (fun x=>([(0,v),(1,.func (.func 28) #[] #[]),(4,p1),(5,p2),(6,.int .i64 ((x+1:Nat):Int))],[bL p2 2 1 (fun _=>zd (jA f x)),bL p1 2 1 (fun _=>zd 0)],[(v,.sl 2 n el)])) (fun x=>x+1≤n) (fun x=>n - x) rfl ?_ ?_
 ·exact bB 0 qN trivial qF (aD qS)
 ·rintro x hx
  replace hx:x+1≤n:=hx
  refine aS (n:=n) qM fun _=>?_
  refine aO (((x+1:Nat):Int)<((n:Nat):Int)) rfl (fun hlt=>?_) (fun hlt=>?_)
  ·refine bC [0,1,2,3,4,5,6,7] [0,1,2,3,4,5,6,7] qK qK ?_
   refine aZ qM (x+1) rfl qN fun u3=>?_
   rw [hel (x+1) qN]
   refine cS (d:=zd (f (x+1))) qM (aR _) fun u4=>?_
   refine aE (d:=zd (jA f x)) 0 rfl hp2 rfl (aR _) fun u5=>?_
   refine cH (mL u4 u5 (f (x+1)) (jA f x) a (hs _ qN) (maxF_sz hs x qN) qN) ?_
   refine aO (0<(f (x+1) - jA f x).sign) rfl (fun hd=>?_) (fun hd=>?_)
   ·have he:f (x+1)=jA f (x+1):=(if_pos (by have:=Int.sign_pos_iff.mp hd; omega)).symm
    refine aZ qM (x+1) rfl qN fun u6=>?_
    rw [hel (x+1) qN,he]
    refine cS (d:=zd (jA f (x+1))) qM (aR _) fun u7=>?_
    refine aH (d:=zd (jA f (x+1))) 0 rfl hp2 rfl qK (aA (d:=zd (jA f (x+1))) qM) ?_
    refine ar rfl qI ?_
    exact bB (x+1) qO qO qF (aD qS)
   ·have he:jA f x=jA f (x+1):=(if_neg (fun h=>hd (Int.sign_pos_iff.mpr qN))).symm
    rw [he]
    refine ar rfl qI ?_
    exact bB (x+1) qO qO qF (aD qS)
  ·obtain rfl:n=x+1:=by omega
   refine aE (d:=zd (jA f x)) 0 rfl hp2 rfl (aR _) fun u3=>?_
   refine aH (d:=zd (jA f x)) 1 rfl hp1 rfl qK (aA (d:=zd (jA f x)) qM) ?_
   refine aE (d:=zd (jA f x)) 1 rfl hp1 rfl (aR _) fun r4=>?_
   exact fin ⟨rfl,rfl⟩ (dS (dS (aD (fs':=[(r4,zd (jA f x))]) qS)))
theorem four {P:Nat→Prop} (h0:P 0) (h1:P 1) (h2:P 2) (h3:P 3):∀ i,i<4→P i
 | 0,_=>h0
 | 1,_=>h1
 | 2,_=>h2
 | 3,_=>h3
def cor (g:Int→Int→Int) (b c:Bal):Nat→Int:=fun i=>[g b.lo c.lo,g b.lo c.hi,g b.hi c.lo,g b.hi c.hi].getD i 0
def oM (b c:Bal):Bal:=⟨fA (iZ (cor (· * ·) b c) 3) b.q,upV (jA (cor (· * ·) b c) 3) b.q,b.q⟩
def dvL (q x y:Int):Int := -(upz (-(x*2^far q)) y)
def dvU (q x y:Int):Int:=upz (x*2^far q) y
def iT (b c:Bal):Bal:=⟨iZ (cor (dvL b.q) b c) 3,jA (cor (dvU b.q) b c) 3,b.q⟩
theorem zSign1 (v:Value) (x:Int) (e:Nat) (hx:sz x e) (he:e≤137438953472) (h0:0<x) :
  aY Tryz.prog 52 [v] [(v,zd x)] (fun r os fs=>os=[]∧fs=[]∧r=.int .i64 1):=by
 have h:=mY v x e hx he
 rw [Int.sign_eq_one_of_pos h0] at h
 exact h
theorem bCorners (v w fv:Value) (b c:Bal) (g:Int→Int→Int) (Fs:List bA) (a:Nat) (ha:a≤1000000000)
  (hf:∀ u z x y,x=b.lo∨x=b.hi→y=c.lo∨y=c.hi→FunK Tryz.prog fv [u,z] ((u,zd x)::(z,zd y)::Fs) (zd (g x y)))
  (hs:∀ i,i<4→sz (cor g b c i) a) :
  aY Tryz.prog 226 [v,w,fv] ((v,aN b.lo b.hi b.q)::(w,aN c.lo c.hi c.q)::Fs) (fun r os fs=>os=[]∧∃ x y,r=.tuple #[x,y]∧fs=[(x,zd (iZ (cor g b c) 3)),(y,zd (jA (cor g b c) 3))]):=by
 refine mV Tryz.func226 ?_
 refine aQ (aA (d:=aN b.lo b.hi b.q) qM) fun p1 hp1=>?_
 refine aQ (aA (d:=aN c.lo c.hi c.q) qM) fun p2 hp2=>?_
 refine aI (d:=zd 0) fun p3 hp3=>?_
 refine aI (d:=zd 0) fun p4 hp4=>?_
 refine bC [0,1,2,3,4,6,7,8,9,10,12,13,14,15,16,18,19,20,21,22,5,11,17,23,24,25] [0,1,2,3,4,5,6,7,8,9,10,11,12,13,14,15,16,17,18,19,20,21,22,23,24,25] qK qK ?_
 refine aF 3 rfl hp1 ?_
 refine aK (d:=zd b.lo) 3 rfl (aJ (aG _)) (aR _) fun u1=>?_
 refine aF 2 rfl hp2 ?_
 refine aK (d:=zd c.lo) 2 rfl (aJ (aG _)) (aR _) fun u2=>?_
 refine aF 3 rfl hp1 ?_
 refine aK (d:=zd b.lo) 3 rfl (aJ (aG _)) (aR _) fun u3=>?_
 refine aF 2 rfl hp2 ?_
 refine aK (d:=zd c.hi) 2 rfl (aC (aJ (aG _))) (aR _) fun u4=>?_
 refine aF 3 rfl hp1 ?_
 refine aK (d:=zd b.hi) 3 rfl (aC (aJ (aG _))) (aR _) fun u5=>?_
 refine aF 2 rfl hp2 ?_
 refine aK (d:=zd c.lo) 2 rfl (aJ (aG _)) (aR _) fun u6=>?_
 refine aF 3 rfl hp1 ?_
 refine aK (d:=zd b.hi) 3 rfl (aC (aJ (aG _))) (aR _) fun u7=>?_
 refine aF 2 rfl hp2 ?_
 refine aK (d:=zd c.hi) 2 rfl (aC (aJ (aG _))) (aR _) fun u8=>?_
 refine funk (hf u1 u2 _ _ (Or.inl rfl) (Or.inl rfl)) (aX qM (aX qM qD)) fun u9=>?_
 refine funk (hf u3 u4 _ _ (Or.inl rfl) (Or.inr rfl)) (aX qM (aX qM qD)) fun u10=>?_
 refine funk (hf u5 u6 _ _ (Or.inr rfl) (Or.inl rfl)) (aX qM (aX qM qD)) fun u11=>?_
 refine funk (hf u7 u8 _ _ (Or.inr rfl) (Or.inr rfl)) (aX qM (aX qM qD)) fun u12=>?_
 refine iQ (size:=2) [u9,u10,u11,u12] [zd (g b.lo c.lo),zd (g b.lo c.hi),zd (g b.hi c.lo),zd (g b.hi c.hi)] rfl rfl qE qE ⟨aA (d:=zd (g b.lo c.lo)) qM,rfl,aA (d:=zd (g b.lo c.hi)) qM,rfl,aA (d:=zd (g b.hi c.lo)) qM,rfl,aA (d:=zd (g b.hi c.hi)) qM,rfl,trivial⟩ fun s13=>?_
 refine cG (mMin s13 4 _ (cor g b c) a (four rfl rfl rfl rfl) hs qN ha) fun u14=>?_
 refine cG (mMax s13 4 _ (cor g b c) a (four rfl rfl rfl rfl) hs qN ha) fun u15=>?_
 refine aH (d:=zd (iZ (cor g b c) 3)) 1 rfl hp3 rfl qK (aA (d:=zd (iZ (cor g b c) 3)) qM) ?_
 refine aH (d:=zd (jA (cor g b c) 3)) 0 rfl hp4 rfl qK (aA (d:=zd (jA (cor g b c) 3)) qM) ?_
 refine aE (d:=zd (iZ (cor g b c) 3)) 1 rfl hp3 rfl (aR _) fun r16=>?_
 refine aE (d:=zd (jA (cor g b c) 3)) 0 rfl hp4 rfl (aR _) fun r17=>?_
 exact fin ⟨rfl,r16,r17,rfl,rfl⟩ (dS (dS (dS (dS (aD (fs':=[(r16,zd (iZ (cor g b c) 3)),(r17,zd (jA (cor g b c) 3))]) qS)))))
theorem bMul (v w:Value) (b c:Bal)  (a:Nat) (hb:b.ok a) (hc:c.ok a) (ha:a≤10000000) (hq:b.q=c.q) :
  aY Tryz.prog 225 [v,w] [(v,aN b.lo b.hi b.q),(w,aN c.lo c.hi c.q)] (fun r os fs=>os=[]∧∃ x,r=.tuple #[x,.int .i64 0]∧fs=[(x,aN (oM b c).lo (oM b c).hi (oM b c).q)]):=by
 have q0:=hb.q0
 have q1:=hb.q1
 have hsx:∀ x,x=b.lo∨x=b.hi→sz x a:=fun x h=>by rcases h with rfl | rfl; exact hb.slo; exact hb.shi
 have hsy:∀ x,x=c.lo∨x=c.hi→sz x a:=fun x h=>by rcases h with rfl | rfl; exact hc.slo; exact hc.shi
 have hf:∀ u z x y,x=b.lo∨x=b.hi→y=c.lo∨y=c.hi→FunK Tryz.prog (.func (.func 153) #[] #[]) [u,z] ((u,zd x)::(z,zd y)::[]) (zd (x*y)):=fun u z x y hx hy=>FunK.of (caps:=[]) (zMulZ u z x y a a (hsx x hx) (hsy y hy) qN qN)
 have hs:∀ i,i<4→sz (cor (· * ·) b c i) (a+a):=four (hb.slo.mul hc.slo) (hb.slo.mul hc.shi) (hb.shi.mul hc.slo) (hb.shi.mul hc.shi)
 refine mV Tryz.func225 ?_
 refine aQ (aA (d:=aN b.lo b.hi b.q) qM) fun p1 hp1=>?_
 refine aQ (aA (d:=aN c.lo c.hi c.q) qM) fun p2 hp2=>?_
 refine aI (d:=aN 0 0 0) fun p3 hp3=>?_
 refine aE (d:=aN b.lo b.hi b.q) 2 rfl hp1 rfl (bR _ _ _) fun u1=>?_
 refine aE (d:=aN c.lo c.hi c.q) 1 rfl hp2 rfl (bR _ _ _) fun u2=>?_
 refine cH (bPair u1 u2 b c a hb hc qN hq) ?_
 refine aE (d:=aN b.lo b.hi b.q) 2 rfl hp1 rfl (bR _ _ _) fun u3=>?_
 refine aE (d:=aN c.lo c.hi c.q) 1 rfl hp2 rfl (bR _ _ _) fun u4=>?_
 refine cF (bCorners u3 u4 _ b c (· * ·) [] (a+a) qN hf hs) ?_
 rintro _ _ _ ⟨rfl,x1,y1,rfl,rfl⟩
 refine aI (d:=zd 0) fun p4 hp4=>?_
 refine aI (d:=zd 0) fun p5 hp5=>?_
 refine aH (d:=zd (iZ (cor (· * ·) b c) 3)) 1 rfl hp4 rfl qK (aA (d:=zd (iZ (cor (· * ·) b c) 3)) qM) ?_
 refine aH (d:=zd (jA (cor (· * ·) b c) 3)) 0 rfl hp5 rfl qK (aA (d:=zd (jA (cor (· * ·) b c) 3)) qM) ?_
 refine bC [0,1,2,4,5,6,8,9,3,7,10,11,12] [0,1,2,3,4,5,6,7,8,9,10,11,12] qK qK ?_
 refine aE (d:=zd (iZ (cor (· * ·) b c) 3)) 1 rfl hp4 rfl (aR _) fun u5=>?_
 refine aF 4 rfl hp1 ?_
 refine aB (u:=.int .i64 b.q) 4 rfl (aC (aC (aG _))) ?_
 refine aE (d:=zd (jA (cor (· * ·) b c) 3)) 0 rfl hp5 rfl (aR _) fun u6=>?_
 refine aF 4 rfl hp1 ?_
 refine aB (u:=.int .i64 b.q) 4 rfl (aC (aC (aG _))) ?_
 refine aF 4 rfl hp1 ?_
 refine aB (u:=.int .i64 b.q) 4 rfl (aC (aC (aG _))) ?_
 refine cG (bDown u5 (iZ (cor (· * ·) b c) 3) b.q (a+a) (minF_sz hs 3 qN) qN qN) fun u7=>?_
 refine cG (bUp u6 (jA (cor (· * ·) b c) 3) b.q (a+a) (maxF_sz hs 3 qN) qN qN) fun u8=>?_
 refine dE [zd (fA (iZ (cor (· * ·) b c) 3) b.q),zd (upV (jA (cor (· * ·) b c) 3) b.q),.one (.int .i64 b.q)] (by exact ⟨⟨aA qM,rfl⟩,⟨aA qM,rfl⟩,⟨dC rfl,rfl⟩,trivial⟩) fun u9=>?_
 refine aH (d:=aN (fA (iZ (cor (· * ·) b c) 3) b.q) (upV (jA (cor (· * ·) b c) 3) b.q) b.q) 2 rfl hp3 rfl qK (aA (d:=aN (fA (iZ (cor (· * ·) b c) 3) b.q) (upV (jA (cor (· * ·) b c) 3) b.q) b.q) qM) ?_
 refine aE (d:=aN (fA (iZ (cor (· * ·) b c) 3) b.q) (upV (jA (cor (· * ·) b c) 3) b.q) b.q) 2 rfl hp3 rfl (bR _ _ _) fun r10=>?_
 exact fin ⟨rfl,r10,rfl,rfl⟩ (dS (dS (dS (dS (dS (aD (fs':=[(r10,aN (fA (iZ (cor (· * ·) b c) 3) b.q) (upV (jA (cor (· * ·) b c) 3) b.q) b.q)]) qS))))))
theorem sz_dvL {x y:Int} {a:Nat} (q:Int) (h:sz x a):sz (dvL q x y) (a+130):=gG (sz_upz (gG ((fK h).mono qN)))
theorem sz_dvU {x y:Int} {a:Nat} (q:Int) (h:sz x a):sz (dvU q x y) (a+130):=sz_upz ((fK h).mono qN)
theorem bDiv1 (v w p0:Value) (b:Bal) (x y:Int) (a:Nat) (hx:sz x a) (hy:sz y a) (ha:a≤1000000000) (h0:0<y) :
  aY Tryz.prog 236 [v,w,p0] [(v,zd x),(w,zd y),(p0,.ptr (aN b.lo b.hi b.q))] (fun r os fs=>os=[]∧fs=[(r,zd (dvL b.q x y))]):=by
 refine mV Tryz.func236 ?_
 refine aQ (aA (d:=zd x) qM) fun p1 hp1=>?_
 refine aQ (aA (d:=zd y) qM) fun p2 hp2=>?_
 refine aI (d:=zd 0) fun p3 hp3=>?_
 refine fN [0,1,2,5,3,4,6,7,8,9,10,11,12] [0,1,2,3,4,5,6,7,8,10,11,9,12] qK qK qK ?_
 refine aE (d:=zd x) 2 rfl hp1 rfl (aR _) fun u1=>?_
 refine gV (off:=4) (d:=aN b.lo b.hi b.q) (d':=.one (.int .i64 b.q)) qM (aC (aC (aG _))) fun f2=>?_
 refine bF qM ?_
 refine aE (d:=zd y) 1 rfl hp2 rfl (aR _) fun u3=>?_
 refine cG (mZ u1 x b.q a hx qN) fun u4=>?_
 refine cG (sL u4 (x*2^far b.q) (a+130) ((fK hx).mono qN) qN) fun u5=>?_
 refine cF (zUp u5 u3 (-(x*2^far b.q)) y (a+130) (gG ((fK hx).mono qN)) (hy.mono qN) qN h0) ?_
 rintro _ _ _ ⟨rfl,z1,rfl,rfl⟩
 refine aI (d:=zd 0) fun p4 hp4=>?_
 refine aH (d:=zd (upz (-(x*2^far b.q)) y)) 0 rfl hp4 rfl qK (aA (d:=zd (upz (-(x*2^far b.q)) y)) qM) ?_
 refine aE (d:=zd (upz (-(x*2^far b.q)) y)) 0 rfl hp4 rfl (aR _) fun u6=>?_
 refine cG (sL u6 _ (a+130) (sz_upz (gG ((fK hx).mono qN))) qN) fun u7=>?_
 refine aH (d:=zd (dvL b.q x y)) 1 rfl hp3 rfl qK (aA (d:=zd (dvL b.q x y)) qM) ?_
 refine aE (d:=zd (dvL b.q x y)) 1 rfl hp3 rfl (aR _) fun r8=>?_
 exact fin ⟨rfl,rfl⟩ (dS (dS (dS (dS (aD (fs':=[(r8,zd (dvL b.q x y))]) qS)))))
theorem bDiv2 (v w p0:Value) (b:Bal) (x y:Int) (a:Nat) (hx:sz x a) (hy:sz y a) (ha:a≤1000000000) (h0:0<y) :
  aY Tryz.prog 237 [v,w,p0] [(v,zd x),(w,zd y),(p0,.ptr (aN b.lo b.hi b.q))] (fun r os fs=>os=[]∧fs=[(r,zd (dvU b.q x y))]):=by
 refine mV Tryz.func237 ?_
 refine aQ (aA (d:=zd x) qM) fun p1 hp1=>?_
 refine aQ (aA (d:=zd y) qM) fun p2 hp2=>?_
 refine aI (d:=zd 0) fun p3 hp3=>?_
 refine fN [0,1,2,4,3,5,6,7,8,9,10,11] [0,1,2,3,4,5,6,7,9,10,8,11] qK qK qK ?_
 refine aE (d:=zd x) 2 rfl hp1 rfl (aR _) fun u1=>?_
 refine gV (off:=4) (d:=aN b.lo b.hi b.q) (d':=.one (.int .i64 b.q)) qM (aC (aC (aG _))) fun f2=>?_
 refine bF qM ?_
 refine aE (d:=zd y) 1 rfl hp2 rfl (aR _) fun u3=>?_
 refine cG (mZ u1 x b.q a hx qN) fun u4=>?_
 refine cF (zUp u4 u3 (x*2^far b.q) y (a+130) ((fK hx).mono qN) (hy.mono qN) qN h0) ?_
 rintro _ _ _ ⟨rfl,z1,rfl,rfl⟩
 refine aI (d:=zd 0) fun p4 hp4=>?_
 refine aH (d:=zd (upz (x*2^far b.q) y)) 0 rfl hp4 rfl qK (aA (d:=zd (upz (x*2^far b.q) y)) qM) ?_
 refine aE (d:=zd (upz (x*2^far b.q) y)) 0 rfl hp4 rfl (aR _) fun u5=>?_
 refine aH (d:=zd (upz (x*2^far b.q) y)) 1 rfl hp3 rfl qK (aA (d:=zd (upz (x*2^far b.q) y)) qM) ?_
 refine aE (d:=zd (upz (x*2^far b.q) y)) 1 rfl hp3 rfl (aR _) fun r6=>?_
 exact fin ⟨rfl,rfl⟩ (dS (dS (dS (dS (aD (fs':=[(r6,zd (upz (x*2^far b.q) y))]) qS)))))
theorem bDiv (v w:Value) (b c:Bal)  (a:Nat) (hb:b.ok a) (hc:c.ok a) (ha:a≤10000000) (hq:b.q=c.q) (h0:0<c.lo) :
  aY Tryz.prog 235 [v,w] [(v,aN b.lo b.hi b.q),(w,aN c.lo c.hi c.q)] (fun r os fs=>os=[]∧∃ x,r=.tuple #[x,.int .i64 0]∧fs=[(x,aN (iT b c).lo (iT b c).hi (iT b c).q)]):=by
 have hsx:∀ x,x=b.lo∨x=b.hi→sz x a:=fun x h=>by rcases h with rfl | rfl; exact hb.slo; exact hb.shi
 have hsy:∀ x,x=c.lo∨x=c.hi→sz x a:=fun x h=>by rcases h with rfl | rfl; exact hc.slo; exact hc.shi
 have hpy:∀ x,x=c.lo∨x=c.hi→0<x:=fun x h=>by
  have:=hc.le
  rcases h with rfl | rfl <;> omega
 refine mV Tryz.func235 ?_
 refine aQ (aA (d:=aN b.lo b.hi b.q) qM) fun p1 hp1=>?_
 refine aQ (aA (d:=aN c.lo c.hi c.q) qM) fun p2 hp2=>?_
 refine aI (d:=aN 0 0 0) fun p3 hp3=>?_
 refine aE (d:=aN b.lo b.hi b.q) 2 rfl hp1 rfl (bR _ _ _) fun u1=>?_
 refine aE (d:=aN c.lo c.hi c.q) 1 rfl hp2 rfl (bR _ _ _) fun u2=>?_
 refine cH (bPair u1 u2 b c a hb hc qN hq) ?_
 refine bC [0,1,3,4,2,5,6,7,8] [0,1,2,3,4,5,6,7,8] qK qK ?_
 refine aF 1 rfl hp2 ?_
 refine aK (d:=zd c.lo) 1 rfl (aJ (aG _)) (aR _) fun u3=>?_
 refine aF 1 rfl hp2 ?_
 refine aK (d:=zd c.hi) 1 rfl (aC (aJ (aG _))) (aR _) fun u4=>?_
 refine cH (zSign1 u3 c.lo a hc.slo qN h0) ?_
 refine cH (zSign1 u4 c.hi a hc.shi qN (by have:=hc.le; omega)) ?_
 refine ar rfl qI ?_
 refine aL rfl qN ?_
 refine aE (d:=aN b.lo b.hi b.q) 2 rfl hp1 rfl (bR _ _ _) fun u5=>?_
 refine aE (d:=aN c.lo c.hi c.q) 1 rfl hp2 rfl (bR _ _ _) fun u6=>?_
 refine bN (bCorners u5 u6 _ b c (dvL b.q) [(p1,.ptr (aN b.lo b.hi b.q))] (a+130) qN (fun u z x y hx hy=>FunK.of (caps:=[p1]) (bDiv1 u z p1 b x y a (hsx x hx) (hsy y hy) qN (hpy y hy))) (four (sz_dvL _ hb.slo) (sz_dvL _ hb.slo) (sz_dvL _ hb.shi) (sz_dvL _ hb.shi))) (Seals.box 2 rfl hp1 rfl) qS ?_
 rintro _ _ _ ⟨rfl,x1,y1,rfl,rfl⟩
 refine aI (d:=zd 0) fun p4 hp4=>?_
 refine aI (d:=zd 0) fun p5 hp5=>?_
 refine aH (d:=zd (iZ (cor (dvL b.q) b c) 3)) 1 rfl hp4 rfl qK (aA (d:=zd (iZ (cor (dvL b.q) b c) 3)) qM) ?_
 refine aH (d:=zd (jA (cor (dvL b.q) b c) 3)) 0 rfl hp5 rfl qK (aA (d:=zd (jA (cor (dvL b.q) b c) 3)) qM) ?_
 refine cS (d:=aN b.lo b.hi b.q) qM (bR _ _ _) fun u7=>?_
 refine aE (d:=aN c.lo c.hi c.q) 3 rfl hp2 rfl (bR _ _ _) fun u8=>?_
 refine cF (bCorners u7 u8 _ b c (dvU b.q) [(p1,.ptr (aN b.lo b.hi b.q))] (a+130) qN (fun u z x y hx hy=>FunK.of (caps:=[p1]) (bDiv2 u z p1 b x y a (hsx x hx) (hsy y hy) qN (hpy y hy))) (four (sz_dvU _ hb.slo) (sz_dvU _ hb.slo) (sz_dvU _ hb.shi) (sz_dvU _ hb.shi))) ?_
 rintro _ _ _ ⟨rfl,x2,y2,rfl,rfl⟩
 refine aI (d:=zd 0) fun p6 hp6=>?_
 refine aI (d:=zd 0) fun p7 hp7=>?_
 refine aH (d:=zd (iZ (cor (dvU b.q) b c) 3)) 1 rfl hp6 rfl qK (aA (d:=zd (iZ (cor (dvU b.q) b c) 3)) qM) ?_
 refine aH (d:=zd (jA (cor (dvU b.q) b c) 3)) 0 rfl hp7 rfl qK (aA (d:=zd (jA (cor (dvU b.q) b c) 3)) qM) ?_
 refine aE (d:=zd (iZ (cor (dvL b.q) b c) 3)) 3 rfl hp4 rfl (aR _) fun u9=>?_
 refine aE (d:=zd (jA (cor (dvU b.q) b c) 3)) 0 rfl hp7 rfl (aR _) fun u10=>?_
 refine gV (off:=4) (d:=aN b.lo b.hi b.q) (d':=.one (.int .i64 b.q)) qM (aC (aC (aG _))) fun f11=>?_
 refine bF qM ?_
 refine dE [zd (iZ (cor (dvL b.q) b c) 3),zd (jA (cor (dvU b.q) b c) 3),.one (.int .i64 b.q)] (by exact ⟨⟨aA qM,rfl⟩,⟨aA qM,rfl⟩,⟨dC rfl,rfl⟩,trivial⟩) fun u12=>?_
 refine aH (d:=aN (iZ (cor (dvL b.q) b c) 3) (jA (cor (dvU b.q) b c) 3) b.q) 4 rfl hp3 rfl qK (aA (d:=aN (iZ (cor (dvL b.q) b c) 3) (jA (cor (dvU b.q) b c) 3) b.q) qM) ?_
 refine aE (d:=aN (iZ (cor (dvL b.q) b c) 3) (jA (cor (dvU b.q) b c) 3) b.q) 4 rfl hp3 rfl (bR _ _ _) fun r13=>?_
 exact fin ⟨rfl,r13,rfl,rfl⟩ (dS (dS (dS (dS (dS (dS (aD (fs':=[(r13,aN (iZ (cor (dvL b.q) b c) 3) (jA (cor (dvU b.q) b c) 3) b.q)]) qS)))))))
theorem lims_at:∀ (i n:Nat),(b9 n).getD i 0=n/18446744073709551616^i%18446744073709551616
 | i,n=>by
  by_cases h:n=0
  ·subst h; rw [dU]; simp
  ·rw [gS h]
   cases i with
   | zero=>simp
   | succ i=>rw [List.getD_cons_succ,lims_at i,Nat.div_div_eq_div_mul,Nat.pow_succ,Nat.mul_comm]
theorem bit_at (n i:Nat):(b9 n).getD (i/64) 0/2^(i%64)%2=n/2^i%2:=by
 rw [lims_at]
 have e:(18446744073709551616:Nat)=2^(i%64)*2^(64 - i%64):=by rw [← Nat.pow_add,show i%64+(64 - i%64)=64 by omega]
 have e2:n/18446744073709551616^(i/64)%18446744073709551616=n/18446744073709551616^(i/64)%(2^(i%64)*2^(64 - i%64)):=by rw [← e]
 rw [e2,Nat.mod_mul_right_div_self,Nat.mod_mod_of_dvd,Nat.div_div_eq_div_mul]
 ·congr 2
  rw [show (18446744073709551616:Nat)=2^64 by decide,← Nat.pow_mul,← Nat.pow_add]
  congr 1
  omega
 ·exact Nat.dvd_of_pow_dvd (show 1≤64 - i%64 by omega) (Nat.dvd_refl _)
theorem bit_len {n i k:Nat} (hk:n/2^k%2=1) (h:i≤k):i/64<(b9 n).length:=by
 have h1:=l9 (cK n)
 rw [dN] at h1
 have h2:2^k≤n:=by
  by_cases h0:n<2^k
  ·rw [Nat.div_eq_of_lt h0] at hk; simp at hk
  ·omega
 have h3:2^(64*(i/64))≤2^k:=Nat.pow_le_pow_right qE qN
 rw [Nat.pow_mul] at h3
 exact (Nat.pow_lt_pow_iff_right (show 1<18446744073709551616 by decide)).mp (Nat.lt_of_le_of_lt (Nat.le_trans (show 18446744073709551616^(i/64)≤2^k from h3) h2) h1)
theorem far_nt {k:Nat} (h:k≤8192):far (k:Int)=k:=by unfold far; omega
structure Low (m:Int) (k:Nat):Prop where
 one:m.natAbs/2^k%2=1
 low:∀ i,i<k→m.natAbs/2^i%2=0
theorem dPlain (v:Value) (m e:Int) (k:Nat) (a:Nat) (hm:sz m a) (ha:a≤1000000000) (he : -100000≤e∧e≤100000) (hk:Low m k) (hk4:k≤4000):aY Tryz.prog 66 [v,.int .i64 e] [(v,zd m)] (fun r os fs=>os=[]∧fs=[(r,dyD (m/2^k) (e+(k:Nat)))]):=by
 have hm0:m.natAbs≠0:=fun h=>by have:=hk.one; rw [h] at this; simp at this
 have hlen:0<(b9 m.natAbs).length:=by have:=bit_len hk.one (Nat.zero_le k); omega
 have hbd:∀ i j,(b9 m.natAbs).getD i 0/2^j<18446744073709551616:=fun i j=>Nat.lt_of_le_of_lt (Nat.div_le_self _ _) (by rw [lims_at]; exact Nat.mod_lt _ qE)
 refine mV Tryz.func66 ?_
 refine aQ (aA (d:=zd m) qM) fun p1 hp1=>?_
 refine aI (d:=dyD 0 0) fun p2 hp2=>?_
 refine aE (d:=zd m) 1 rfl hp1 rfl (aR _) fun u1=>?_
 refine cG (zNormZ u1 m a hm qN) fun u2=>?_
 refine aH (d:=zd m) 1 rfl hp1 rfl qK (aA (d:=zd m) qM) ?_
 refine aF 1 rfl hp1 ?_
 refine aK (d:=U (b9 m.natAbs)) 1 rfl (aC (aG _)) (show lG _ _ from inferInstance) fun u3=>?_
 refine aS (n:=(b9 m.natAbs).length) qM fun _=>?_
 refine aL rfl qN ?_
 refine bD (X:=Nat) (fun x=>([(1,.int .i64 e),(2,p1),(4,p2),(5,.int .i64 (x:Nat))],[bL p2 3 1 (fun _=>dyD 0 0),bL p1 2 1 (fun _=>zd m)],[(v,zd m)])) (fun x=>x≤k) (fun x=>k - x) rfl ?_ ?_
 ·exact bB 0 (Nat.zero_le _) trivial qF (aD qS)
 ·rintro x hx
  replace hx:x≤k:=hx
  refine aF 1 rfl hp1 ?_
  refine aK (d:=U (b9 m.natAbs)) 1 rfl (aC (aG _)) (show lG _ _ from inferInstance) fun u4=>?_
  refine dJ x 6 64 rfl rfl rfl qE ?_
  refine aZ qM (x/64) rfl (bit_len hk.one hx) fun u5=>?_
  refine bF qM ?_
  refine bJ ⟨_,Tryz.underlying3⟩ Tryz.underlying92 ((x:Nat):Int) (bT ⟨by omega,by omega⟩) ?_
  refine iR x 6 64 rfl rfl rfl qN qE ?_
  refine dJ _ (x%64) _ rfl rfl rfl (by show x%64≤64; omega) ?_
  refine iR _ 1 2 rfl rfl rfl (hbd _ _) qE ?_
  refine aO ((((b9 m.natAbs).getD (x/64) 0/2^(x%64)%2:Nat):Int)=0) rfl (fun hlt=>?_) (fun hlt=>?_)
  ·rw [bit_at] at hlt
   have hxk:x<k:=by
    rcases Nat.lt_or_ge x k with h | h
    ·exact h
    ·obtain rfl:x=k:=by omega
     have:=hk.one
     omega
   refine ar rfl qI ?_
   exact bB (x+1) qO qO qF (aD qS)
  ·rw [bit_at] at hlt
   obtain rfl:k=x:=by
    rcases Nat.lt_or_ge x k with h | h
    ·exact absurd (by rw [hk.low x h]; rfl) hlt
    ·omega
   refine aO (((k:Nat):Int)=0) rfl (fun h0=>?_) (fun h0=>?_)
   ·obtain rfl:k=0:=by omega
    rw [show m/2^0=m by simp,show e+((0:Nat):Int)=e by simp]
    refine aE (d:=zd m) 1 rfl hp1 rfl (aR _) fun u6=>?_
    refine dE [zd m,.one (.int .i64 e)] (by exact ⟨⟨aA qM,rfl⟩,⟨dC rfl,rfl⟩,trivial⟩) fun u7=>?_
    refine aH (d:=dyD m e) 0 rfl hp2 rfl qK (aA (d:=dyD m e) qM) ?_
    refine aE (d:=dyD m e) 0 rfl hp2 rfl (cB _ _) fun r8=>?_
    exact fin ⟨rfl,rfl⟩ (dS (dS (aD (fs':=[(r8,dyD m e)]) qS)))
   ·refine aE (d:=zd m) 1 rfl hp1 rfl (aR _) fun u6=>?_
    have hdn:=fun u=>dDown u m (k:Nat) a hm qN ⟨by omega,by omega⟩
    rw [far_nt qN] at hdn
    refine cG (hdn u6) fun u7=>?_
    refine ar rfl qI ?_
    refine dE [zd (m/2^k),.one (.int .i64 (e+(k:Nat)))] (by exact ⟨⟨aA qM,rfl⟩,⟨dC rfl,rfl⟩,trivial⟩) fun u8=>?_
    refine aH (d:=dyD (m/2^k) (e+(k:Nat))) 0 rfl hp2 rfl qK (aA (d:=dyD (m/2^k) (e+(k:Nat))) qM) ?_
    refine aE (d:=dyD (m/2^k) (e+(k:Nat))) 0 rfl hp2 rfl (cB _ _) fun r9=>?_
    exact fin ⟨rfl,rfl⟩ (dS (dS (aD (fs':=[(r9,dyD (m/2^k) (e+(k:Nat)))]) qS)))
theorem dNorm (v:Value) (m e:Int) (a:Nat) (h:DyOk m e a) (k:Nat) (ha:a≤1000000000) (hk:Low m k) (hk4:k≤4000):aY Tryz.prog 38 [v] [(v,dyD m e)] (fun r os fs=>os=[]∧fs=[(r,dyD (m/2^k) (e+(k:Nat)))]):=by
 have e0:=h.e0
 have e1:=h.e1
 refine mV Tryz.func38 ?_
 refine aQ (aA (d:=dyD m e) qM) fun p1 hp1=>?_
 refine aI (d:=dyD 0 0) fun p2 hp2=>?_
 refine aE (d:=dyD m e) 1 rfl hp1 rfl (cB _ _) fun u1=>?_
 refine cF (mI u1 m e a h qN) ?_
 rintro _ _ _ ⟨rfl,xm,rfl,rfl⟩
 refine cG (dPlain xm m e k a h.sm qN ⟨by omega,by omega⟩ hk hk4) fun u2=>?_
 refine aH (d:=dyD (m/2^k) (e+(k:Nat))) 0 rfl hp2 rfl qK (aA (d:=dyD (m/2^k) (e+(k:Nat))) qM) ?_
 refine aE (d:=dyD (m/2^k) (e+(k:Nat))) 0 rfl hp2 rfl (cB _ _) fun r3=>?_
 exact fin ⟨rfl,rfl⟩ (dS (dS (aD (fs':=[(r3,dyD (m/2^k) (e+(k:Nat)))]) qS)))
theorem dOf (v:Value) (m e:Int) (a:Nat) (h:DyOk m e a) (k:Nat) (ha:a≤1000000000) (hk:Low m k) (hk4:k≤4000):aY Tryz.prog 62 [v,.int .i64 e] [(v,zd m)] (fun r os fs=>os=[]∧fs=[(r,dyD (m/2^k) (e+(k:Nat)))]):=by
 refine mV Tryz.func62 ?_
 refine aQ (aA (d:=zd m) qM) fun p1 hp1=>?_
 refine aI (d:=dyD 0 0) fun p2 hp2=>?_
 refine aE (d:=zd m) 1 rfl hp1 rfl (aR _) fun u1=>?_
 refine dE [zd m,.one (.int .i64 e)] (by exact ⟨⟨aA qM,rfl⟩,⟨dC rfl,rfl⟩,trivial⟩) fun u2=>?_
 refine cG (dNorm u2 m e a h k ha hk hk4) fun u3=>?_
 refine aH (d:=dyD (m/2^k) (e+(k:Nat))) 0 rfl hp2 rfl qK (aA (d:=dyD (m/2^k) (e+(k:Nat))) qM) ?_
 refine aE (d:=dyD (m/2^k) (e+(k:Nat))) 0 rfl hp2 rfl (cB _ _) fun r4=>?_
 exact fin ⟨rfl,rfl⟩ (dS (dS (aD (fs':=[(r4,dyD (m/2^k) (e+(k:Nat)))]) qS)))
theorem dShift (v:Value) (m e:Int) (a:Nat) (h:DyOk m e a) (s:Int) (k:Nat) (ha:a≤1000000000) (hs : -4000≤s∧s≤4000) (hk:Low m k) (hk4:k≤4000):aY Tryz.prog 232 [v,.int .i64 s] [(v,dyD m e)] (fun r os fs=>os=[]∧fs=[(r,dyD (m/2^k) (e+s+(k:Nat)))]):=by
 have e0:=h.e0
 have e1:=h.e1
 have hnq:fQ s=s:=by unfold fQ; omega
 refine mV Tryz.func232 ?_
 refine aQ (aA (d:=dyD m e) qM) fun p1 hp1=>?_
 refine aI (d:=dyD 0 0) fun p2 hp2=>?_
 refine aE (d:=dyD m e) 1 rfl hp1 rfl (cB _ _) fun u1=>?_
 refine cF (mI u1 m e a h qN) ?_
 rintro _ _ _ ⟨rfl,xm,rfl,rfl⟩
 refine aI (d:=zd 0) fun p3 hp3=>?_
 refine aH (d:=zd m) 0 rfl hp3 rfl qK (aA (d:=zd m) qM) ?_
 refine bC [0,1,2,3,4,5,6] [0,1,2,3,4,5,6] qK qK ?_
 refine aE (d:=zd m) 0 rfl hp3 rfl (aR _) fun u2=>?_
 have hnr:=dNear s
 rw [hnq] at hnr
 refine cH hnr ?_
 refine ar rfl qI ?_
 refine cG (dPlain u2 m (e+s) k a h.sm qN ⟨by omega,by omega⟩ hk hk4) fun u3=>?_
 refine aH (d:=dyD (m/2^k) (e+s+(k:Nat))) 1 rfl hp2 rfl qK (aA (d:=dyD (m/2^k) (e+s+(k:Nat))) qM) ?_
 refine aE (d:=dyD (m/2^k) (e+s+(k:Nat))) 1 rfl hp2 rfl (cB _ _) fun r4=>?_
 exact fin ⟨rfl,rfl⟩ (dS (dS (dS (aD (fs':=[(r4,dyD (m/2^k) (e+s+(k:Nat)))]) qS))))
theorem wrap_u16 {n:Int} (h0:0≤n) (h1:n<65536):IntKind.u16.wrap n=n:=by simp [IntKind.wrap,IntKind.bits,IntKind.signed]; omega
theorem and_u16 {P:Program} {t:TypeId} {x y:Operand} {os:List Own} {fs:List bA} {K:cE} (a:Nat) {z m:Int} (k p:Nat) (hz:z=(a:Int)) (hp:p=2^k) (hm:m=((p - 1:Nat):Int)) (ha:a<65536) (hk:k≤15)
  (h1:K (.int .u16 ((a%p:Nat):Int)) os fs):pC P .and t x y (.int .u16 z) (.int .u16 m) os fs K:=by
 subst hz hm hp
 have hp:2^k≤2^15:=Nat.pow_le_pow_right qE hk
 have hlt:2^k - 1<65536:=by omega
 refine ⟨dD _ (fun w=>?_) h1⟩
 have hb:(BitVec.ofInt 16 (a:Int) &&& BitVec.ofInt 16 ((2^k - 1:Nat):Int)).toNat=a%2^k:=by
  rw [BitVec.toNat_and]
  have e1:(BitVec.ofInt 16 (a:Int)).toNat=a:=by rw [BitVec.toNat_ofInt]; omega
  have e2:(BitVec.ofInt 16 ((2^k - 1:Nat):Int)).toNat=2^k - 1:=by
   generalize 2^k - 1=q at hlt
   rw [BitVec.toNat_ofInt]; omega
  rw [e1,e2,Nat.and_two_pow_sub_one_eq_mod]
 have hw:IntKind.u16.wrap ((a%2^k:Nat):Int)=((a%2^k:Nat):Int):=by
  have:a%2^k≤a:=Nat.mod_le _ _
  exact wrap_u16 qN qN
 have hd:∀ X Y:BitVec 16,(X &&& Y).toNat=a%2^k→IntKind.u16.wrap ((X &&& Y).toNat:Int)=((a%2^k:Nat):Int):=fun X Y h=>by rw [h,hw]
 simp only [eqGuard,binOp,Op.intBits,Sem.run_bind,Sem.run_pure,Result.andThen_ok,IntKind.bits,ne_eq,not_true,if_false]
 exact congrArg (fun n=>Result.ok (Value.int .u16 n) w) (hd _ _ hb)
theorem or52 {a:Nat} (h:a<4503599627370496):a ||| 4503599627370496=a+4503599627370496:=by
 have:=Nat.two_pow_add_eq_or_of_lt (i:=52) (b:=a) h 1
 simp only [Nat.mul_one] at this
 rw [show (2:Nat)^52=4503599627370496 by decide] at this
 rw [Nat.or_comm]
 omega
theorem zd_limb {m:Nat} (h0:0<m) (h:m<18446744073709551616):(Dat.cat (.one (.bool false)) (U [m]))=zd (m:Int):=by
 rw [zd_I,Int.natAbs_natCast,gS qN,Nat.mod_eq_of_lt h,Nat.div_eq_of_lt h,dU]
 have:decide ((m:Int)<0)=false:=by rw [decide_eq_false_iff_not]; omega
 rw [this]
 rfl
def sP (p:Nat):Nat:=p%4503599627370496+4503599627370496
def expo (p:Nat):Int:=(p/4503599627370496:Nat) - 1023 - 52
theorem bParts (p:Nat) (hp:p<9218868437227405312):aY Tryz.prog 88 [.int .u64 (p:Nat)] [] (fun r os fs=>os=[]∧fs=[]∧r=.tuple #[.bool false,.int .i64 (p/4503599627370496:Nat),.int .u64 (p%4503599627370496:Nat)]):=by
 refine mV Tryz.func88 ?_
 refine dJ p 63 9223372036854775808 rfl rfl rfl qE ?_
 refine aL rfl qN ?_
 refine dJ p 52 4503599627370496 rfl rfl rfl qE ?_
 refine bJ ⟨_,Tryz.underlying22⟩ Tryz.underlying202 ((p/4503599627370496:Nat):Int) (wrap_u16 qN qN) ?_
 refine and_u16 (p/4503599627370496) 11 2048 rfl rfl rfl qN qE ?_
 rw [Nat.mod_eq_of_lt (show p/4503599627370496<2048 by omega)]
 refine bJ ⟨_,Tryz.underlying202⟩ Tryz.underlying3 ((p/4503599627370496:Nat):Int) (bT ⟨by omega,by omega⟩) ?_
 refine iR p 52 4503599627370496 rfl rfl rfl qN qE ?_
 exact fin ⟨rfl,rfl,rfl⟩ (aD (fs':=[]) qS)
theorem bNormal (p:Nat) (h1:4503599627370496≤p) (hp:p<9218868437227405312):aY Tryz.prog 55 [.int .u64 (p:Nat)] [] (fun r os fs=>os=[]∧fs=[]∧r=.bool true):=by
 refine mV Tryz.func55 ?_
 refine cH (bParts p qN) ?_
 refine bG rfl qN ?_
 refine bG rfl qN ?_
 exact fin ⟨rfl,rfl,rfl⟩ (aD (fs':=[]) qS)
theorem bFirst (e:Int) (h0 : -1022≤e) (h1:e≤1023):aY Tryz.prog 54 [.int .i64 e] [] (fun r os fs=>os=[]∧fs=[]∧r=.tuple #[.int .u64 ((e+1023).toNat*2^52%18446744073709551616:Nat),.int .i64 0]):=by
 refine mV Tryz.func54 ?_
 refine aL rfl qN ?_
 refine aL rfl qN ?_
 refine ar rfl qI ?_
 refine bJ ⟨_,Tryz.underlying3⟩ Tryz.underlying22 (e+1023) (bT ⟨by omega,by omega⟩) ?_
 refine jF (e+1023).toNat 52 qN rfl qE ?_
 exact fin ⟨rfl,rfl,rfl⟩ (aD (fs':=[]) qS)
theorem bValueM (p:Nat) (h1:4503599627370496≤p) (hp:p<9218868437227405312) (M:Nat) (hM:p%4503599627370496+4503599627370496=M) (X:Int) (hX:((p/4503599627370496:Nat):Int) - 1023 - 52=X) (k:Nat) (hk:Low (M:Nat) k) (hk4:k≤4000) (he:X≤1900):aY Tryz.prog 56 [.int .u64 (p:Nat)] [] (fun r os fs=>os=[]∧∃ x,r=.tuple #[x,.int .i64 0]∧fs=[(x,dyD ((M:Nat)/2^k) (X+(k:Nat)))]):=by
 refine mV Tryz.func56 ?_
 refine aI (d:=dyD 0 0) fun p1 hp1=>?_
 refine cH (bParts p qN) ?_
 refine ar rfl qI ?_
 refine ar rfl qI ?_
 rw [hX]
 refine aL rfl qN ?_
 refine aL rfl qN ?_
 refine nI (p%4503599627370496) 4503599627370496 rfl rfl qN qE ?_
 rw [or52 qN,hM]
 refine lit_U (M) rfl fun u1=>?_
 refine build2 (Knw.one rfl) (cI (d:=U [M]) qM) rfl rfl fun u2=>?_
 rw [show Dat.cat (.one (.bool false)) (U [M])=zd (M:Nat) from zd_limb qN qN]
 refine cG (dOf u2 (M:Nat) (X) 1 ⟨dR _ qN,by omega,he,fun h=>by omega⟩ k qE hk hk4) fun x1=>?_
 refine aH (d:=dyD ((M:Nat)/2^k) (X+(k:Nat))) 0 rfl hp1 rfl qK (aA (d:=dyD ((M:Nat)/2^k) (X+(k:Nat))) qM) ?_
 refine aE (d:=dyD ((M:Nat)/2^k) (X+(k:Nat))) 0 rfl hp1 rfl (cB _ _) fun r3=>?_
 exact fin ⟨rfl,r3,rfl,rfl⟩ (dS (aD (fs':=[(r3,dyD ((M:Nat)/2^k) (X+(k:Nat)))]) qS))
theorem fX {P:Program} {t:TypeId} {z:List Value} [ht:sJ P t [z]] {v:Value} {d:Dat} {os:List Own} {fs:List bA} {K:cE} (hm:(v,d)∈fs) (k:∀ u,K u os ((u,d)::fs)) (hf:d.flat=false:=by rfl) (hz:d.cells=z.length:=by rfl) :
  oV P t [(0,v)] os fs K:=by
 refine ⟨fun G w hw=>?_⟩
 obtain ⟨cs,c1,c2⟩:=hw.facts _ hm
 have hl:cs.length=d.cells:=dM c1
 have ha:∀ x,x=oA d cs→x=Value.agg cs.toArray:=fun x hx=>by cases d <;> first | exact hx | simp [Dat.flat] at hf
 have hv:=ha v c2
 subst hv
 have hrun:=fun w'=>qJ ht [(0,Value.agg cs.toArray)] (fun p hp=>by simp only [List.mem_singleton] at hp; subst hp; exact ⟨by simp,by simp [Value.cells,hl,hz]⟩) w'
 refine ⟨_,_,fun w' _=>dH (hrun w'),k _,hw.put ⟨cs,c1,?_⟩⟩
 rw [← c2]
 simp [putL,Value.cells]
theorem eOf (v:Value) (m e:Int) (a:Nat) (h:DyOk m e a) (q:Int) (ha:a≤1000000000) (hq:0≤q∧q≤2048):aY Tryz.prog 206 [v,.int .i64 q] [(v,dyD m e)] (fun r os fs=>os=[]∧fs=[(r,aN (bZ m e q).lo (bZ m e q).hi (bZ m e q).q)]):=by
 refine mV Tryz.func206 ?_
 refine aQ (aA (d:=dyD m e) qM) fun p1 hp1=>?_
 refine aI (d:=aN 0 0 0) fun p2 hp2=>?_
 refine aE (d:=dyD m e) 1 rfl hp1 rfl (cB _ _) fun u1=>?_
 refine cF (bPoint u1 m e a h q ha hq) ?_
 rintro _ _ _ ⟨rfl,x1,rfl,rfl⟩
 refine aI (d:=aN 0 0 0) fun p3 hp3=>?_
 refine aH (d:=aN (bZ m e q).lo (bZ m e q).hi (bZ m e q).q) 0 rfl hp3 rfl qK (aA (d:=aN (bZ m e q).lo (bZ m e q).hi (bZ m e q).q) qM) ?_
 refine aE (d:=aN (bZ m e q).lo (bZ m e q).hi (bZ m e q).q) 0 rfl hp3 rfl (bR _ _ _) fun u2=>?_
 refine fX (d:=aN (bZ m e q).lo (bZ m e q).hi (bZ m e q).q) qM fun u3=>?_
 refine aH (d:=aN (bZ m e q).lo (bZ m e q).hi (bZ m e q).q) 1 rfl hp2 rfl qK (aA (d:=aN (bZ m e q).lo (bZ m e q).hi (bZ m e q).q) qM) ?_
 refine aE (d:=aN (bZ m e q).lo (bZ m e q).hi (bZ m e q).q) 1 rfl hp2 rfl (cY _ _ _) fun r4=>?_
 exact fin ⟨rfl,rfl⟩ (dS (dS (dS (aD (fs':=[(r4,aN (bZ m e q).lo (bZ m e q).hi (bZ m e q).q)]) qS))))
theorem eLess (v w:Value) (b c:Bal) (a:Nat) (hb:b.ok a) (hc:c.ok a) (ha:a≤100000000) (hq:b.q=c.q):aY Tryz.prog 208 [v,w] [(v,aN b.lo b.hi b.q),(w,aN c.lo c.hi c.q)] (fun r os fs=>os=[]∧fs=[(r,aN (iV b c).lo (iV b c).hi (iV b c).q)]):=by
 refine mV Tryz.func208 ?_
 refine aQ (aA (d:=aN b.lo b.hi b.q) qM) fun p1 hp1=>?_
 refine aQ (aA (d:=aN c.lo c.hi c.q) qM) fun p2 hp2=>?_
 refine aI (d:=aN 0 0 0) fun p3 hp3=>?_
 refine aF 2 rfl hp1 ?_
 refine aK (d:=aN b.lo b.hi b.q) 2 rfl (aG _) (bR _ _ _) fun u1=>?_
 refine aF 1 rfl hp2 ?_
 refine aK (d:=aN c.lo c.hi c.q) 1 rfl (aG _) (bR _ _ _) fun u2=>?_
 refine cF (bSub u1 u2 b c a hb hc ha hq) ?_
 rintro _ _ _ ⟨rfl,x1,rfl,rfl⟩
 refine aI (d:=aN 0 0 0) fun p4 hp4=>?_
 refine aH (d:=aN (iV b c).lo (iV b c).hi (iV b c).q) 0 rfl hp4 rfl qK (aA (d:=aN (iV b c).lo (iV b c).hi (iV b c).q) qM) ?_
 refine aE (d:=aN (iV b c).lo (iV b c).hi (iV b c).q) 0 rfl hp4 rfl (bR _ _ _) fun u3=>?_
 refine fX (d:=aN (iV b c).lo (iV b c).hi (iV b c).q) qM fun u4=>?_
 refine aH (d:=aN (iV b c).lo (iV b c).hi (iV b c).q) 1 rfl hp3 rfl qK (aA (d:=aN (iV b c).lo (iV b c).hi (iV b c).q) qM) ?_
 refine aE (d:=aN (iV b c).lo (iV b c).hi (iV b c).q) 1 rfl hp3 rfl (cY _ _ _) fun r5=>?_
 exact fin ⟨rfl,rfl⟩ (dS (dS (dS (dS (aD (fs':=[(r5,aN (iV b c).lo (iV b c).hi (iV b c).q)]) qS)))))
theorem ePlus (v w:Value) (b c:Bal) (a:Nat) (hb:b.ok a) (hc:c.ok a) (ha:a≤100000000) (hq:b.q=c.q):aY Tryz.prog 231 [v,w] [(v,aN b.lo b.hi b.q),(w,aN c.lo c.hi c.q)] (fun r os fs=>os=[]∧fs=[(r,aN (kO b c).lo (kO b c).hi (kO b c).q)]):=by
 refine mV Tryz.func231 ?_
 refine aQ (aA (d:=aN b.lo b.hi b.q) qM) fun p1 hp1=>?_
 refine aQ (aA (d:=aN c.lo c.hi c.q) qM) fun p2 hp2=>?_
 refine aI (d:=aN 0 0 0) fun p3 hp3=>?_
 refine aF 2 rfl hp1 ?_
 refine aK (d:=aN b.lo b.hi b.q) 2 rfl (aG _) (bR _ _ _) fun u1=>?_
 refine aF 1 rfl hp2 ?_
 refine aK (d:=aN c.lo c.hi c.q) 1 rfl (aG _) (bR _ _ _) fun u2=>?_
 refine cF (bAdd u1 u2 b c a hb hc ha hq) ?_
 rintro _ _ _ ⟨rfl,x1,rfl,rfl⟩
 refine aI (d:=aN 0 0 0) fun p4 hp4=>?_
 refine aH (d:=aN (kO b c).lo (kO b c).hi (kO b c).q) 0 rfl hp4 rfl qK (aA (d:=aN (kO b c).lo (kO b c).hi (kO b c).q) qM) ?_
 refine aE (d:=aN (kO b c).lo (kO b c).hi (kO b c).q) 0 rfl hp4 rfl (bR _ _ _) fun u3=>?_
 refine fX (d:=aN (kO b c).lo (kO b c).hi (kO b c).q) qM fun u4=>?_
 refine aH (d:=aN (kO b c).lo (kO b c).hi (kO b c).q) 1 rfl hp3 rfl qK (aA (d:=aN (kO b c).lo (kO b c).hi (kO b c).q) qM) ?_
 refine aE (d:=aN (kO b c).lo (kO b c).hi (kO b c).q) 1 rfl hp3 rfl (cY _ _ _) fun r5=>?_
 exact fin ⟨rfl,rfl⟩ (dS (dS (dS (dS (aD (fs':=[(r5,aN (kO b c).lo (kO b c).hi (kO b c).q)]) qS)))))
theorem eBy (v w:Value) (b c:Bal) (a:Nat) (hb:b.ok a) (hc:c.ok a) (ha:a≤10000000) (hq:b.q=c.q):aY Tryz.prog 224 [v,w] [(v,aN b.lo b.hi b.q),(w,aN c.lo c.hi c.q)] (fun r os fs=>os=[]∧fs=[(r,aN (oM b c).lo (oM b c).hi (oM b c).q)]):=by
 refine mV Tryz.func224 ?_
 refine aQ (aA (d:=aN b.lo b.hi b.q) qM) fun p1 hp1=>?_
 refine aQ (aA (d:=aN c.lo c.hi c.q) qM) fun p2 hp2=>?_
 refine aI (d:=aN 0 0 0) fun p3 hp3=>?_
 refine aF 2 rfl hp1 ?_
 refine aK (d:=aN b.lo b.hi b.q) 2 rfl (aG _) (bR _ _ _) fun u1=>?_
 refine aF 1 rfl hp2 ?_
 refine aK (d:=aN c.lo c.hi c.q) 1 rfl (aG _) (bR _ _ _) fun u2=>?_
 refine cF (bMul u1 u2 b c a hb hc ha hq) ?_
 rintro _ _ _ ⟨rfl,x1,rfl,rfl⟩
 refine aI (d:=aN 0 0 0) fun p4 hp4=>?_
 refine aH (d:=aN (oM b c).lo (oM b c).hi (oM b c).q) 0 rfl hp4 rfl qK (aA (d:=aN (oM b c).lo (oM b c).hi (oM b c).q) qM) ?_
 refine aE (d:=aN (oM b c).lo (oM b c).hi (oM b c).q) 0 rfl hp4 rfl (bR _ _ _) fun u3=>?_
 refine fX (d:=aN (oM b c).lo (oM b c).hi (oM b c).q) qM fun u4=>?_
 refine aH (d:=aN (oM b c).lo (oM b c).hi (oM b c).q) 1 rfl hp3 rfl qK (aA (d:=aN (oM b c).lo (oM b c).hi (oM b c).q) qM) ?_
 refine aE (d:=aN (oM b c).lo (oM b c).hi (oM b c).q) 1 rfl hp3 rfl (cY _ _ _) fun r5=>?_
 exact fin ⟨rfl,rfl⟩ (dS (dS (dS (dS (aD (fs':=[(r5,aN (oM b c).lo (oM b c).hi (oM b c).q)]) qS)))))
theorem eOver (v w:Value) (b c:Bal) (a:Nat) (hb:b.ok a) (hc:c.ok a) (ha:a≤10000000) (hq:b.q=c.q) (h0:0<c.lo):aY Tryz.prog 234 [v,w] [(v,aN b.lo b.hi b.q),(w,aN c.lo c.hi c.q)] (fun r os fs=>os=[]∧fs=[(r,aN (iT b c).lo (iT b c).hi (iT b c).q)]):=by
 refine mV Tryz.func234 ?_
 refine aQ (aA (d:=aN b.lo b.hi b.q) qM) fun p1 hp1=>?_
 refine aQ (aA (d:=aN c.lo c.hi c.q) qM) fun p2 hp2=>?_
 refine aI (d:=aN 0 0 0) fun p3 hp3=>?_
 refine aF 2 rfl hp1 ?_
 refine aK (d:=aN b.lo b.hi b.q) 2 rfl (aG _) (bR _ _ _) fun u1=>?_
 refine aF 1 rfl hp2 ?_
 refine aK (d:=aN c.lo c.hi c.q) 1 rfl (aG _) (bR _ _ _) fun u2=>?_
 refine cF (bDiv u1 u2 b c a hb hc ha hq h0) ?_
 rintro _ _ _ ⟨rfl,x1,rfl,rfl⟩
 refine aI (d:=aN 0 0 0) fun p4 hp4=>?_
 refine aH (d:=aN (iT b c).lo (iT b c).hi (iT b c).q) 0 rfl hp4 rfl qK (aA (d:=aN (iT b c).lo (iT b c).hi (iT b c).q) qM) ?_
 refine aE (d:=aN (iT b c).lo (iT b c).hi (iT b c).q) 0 rfl hp4 rfl (bR _ _ _) fun u3=>?_
 refine fX (d:=aN (iT b c).lo (iT b c).hi (iT b c).q) qM fun u4=>?_
 refine aH (d:=aN (iT b c).lo (iT b c).hi (iT b c).q) 1 rfl hp3 rfl qK (aA (d:=aN (iT b c).lo (iT b c).hi (iT b c).q) qM) ?_
 refine aE (d:=aN (iT b c).lo (iT b c).hi (iT b c).q) 1 rfl hp3 rfl (cY _ _ _) fun r5=>?_
 exact fin ⟨rfl,rfl⟩ (dS (dS (dS (dS (aD (fs':=[(r5,aN (iT b c).lo (iT b c).hi (iT b c).q)]) qS)))))
theorem vB (v:Value) (b:Bal) (k:Int) (a:Nat) (hb:b.ok a) (ha:a≤10000000) (ha1:1≤a) (hk : -9223372036854775808≤k∧k<9223372036854775808):aY Tryz.prog 209 [v,.int .i64 k] [(v,aN b.lo b.hi b.q)] (fun r os fs=>os=[]∧fs=[(r,aN (b8 b k).lo (b8 b k).hi (b8 b k).q)]):=by
 refine mV Tryz.func209 ?_
 refine aQ (aA (d:=aN b.lo b.hi b.q) qM) fun p1 hp1=>?_
 refine aI (d:=aN 0 0 0) fun p2 hp2=>?_
 refine fN [0,1,2,3,4,5,6,7,8,9,10] [0,1,2,3,4,5,6,8,9,7,10] qK qK qK ?_
 refine aF 1 rfl hp1 ?_
 refine aK (d:=aN b.lo b.hi b.q) 1 rfl (aG _) (bR _ _ _) fun u1=>?_
 refine cG (fB k hk.1 hk.2) fun u2=>?_
 refine cF (bTimes u1 u2 b k a hb qN ((dR k qN).mono ha1)) ?_
 rintro _ _ _ ⟨rfl,x1,rfl,rfl⟩
 refine aI (d:=aN 0 0 0) fun p3 hp3=>?_
 refine aH (d:=aN (b8 b k).lo (b8 b k).hi (b8 b k).q) 0 rfl hp3 rfl qK (aA (d:=aN (b8 b k).lo (b8 b k).hi (b8 b k).q) qM) ?_
 refine aE (d:=aN (b8 b k).lo (b8 b k).hi (b8 b k).q) 0 rfl hp3 rfl (bR _ _ _) fun u3=>?_
 refine fX (d:=aN (b8 b k).lo (b8 b k).hi (b8 b k).q) qM fun u4=>?_
 refine aH (d:=aN (b8 b k).lo (b8 b k).hi (b8 b k).q) 1 rfl hp2 rfl qK (aA (d:=aN (b8 b k).lo (b8 b k).hi (b8 b k).q) qM) ?_
 refine aE (d:=aN (b8 b k).lo (b8 b k).hi (b8 b k).q) 1 rfl hp2 rfl (cY _ _ _) fun r5=>?_
 exact fin ⟨rfl,rfl⟩ (dS (dS (dS (aD (fs':=[(r5,aN (b8 b k).lo (b8 b k).hi (b8 b k).q)]) qS))))
theorem eDown (v w:Value) (x y:Int) (a:Nat) (hx:sz x a) (hy:sz y a) (ha:a≤1000000000) (h0:0<y) (hr : -9223372036854775808≤x/y∧x/y<9223372036854775808):aY Tryz.prog 207 [v,w] [(v,zd x),(w,zd y)] (fun r os fs=>os=[]∧fs=[]∧r=.int .i64 (x/y)):=by
 have hsm:=fun u=>zSmallZ u (x/y) a (m6 hx) qN
 rw [show fZ (x/y)=(x/y,true) from if_pos hr] at hsm
 refine mV Tryz.func207 ?_
 refine aQ (aA (d:=zd x) qM) fun p1 hp1=>?_
 refine aQ (aA (d:=zd y) qM) fun p2 hp2=>?_
 refine aE (d:=zd x) 1 rfl hp1 rfl (aR _) fun u1=>?_
 refine aE (d:=zd y) 0 rfl hp2 rfl (aR _) fun u2=>?_
 refine cF (sS u1 u2 x y a a hx hy qN qN qN) ?_
 rintro _ _ _ ⟨rfl,z1,z2,rfl,rfl⟩
 refine aI (d:=zd 0) fun p3 hp3=>?_
 refine aI (d:=zd 0) fun p4 hp4=>?_
 refine aH (d:=zd (x/y)) 1 rfl hp3 rfl qK (aA (d:=zd (x/y)) qM) ?_
 refine aH (d:=zd (x%y)) 0 rfl hp4 rfl qK (aA (d:=zd (x%y)) qM) ?_
 refine aE (d:=zd (x/y)) 1 rfl hp3 rfl (aR _) fun u3=>?_
 refine cH (hsm u3) ?_
 exact fin ⟨rfl,rfl,rfl⟩ (dS (dS (dS (dS (aD (fs':=[]) qS)))))
theorem eThrough (v:Value) (g:FuncId) (S:Int→Int→Nat→P2) (b:Bal) (n:Nat)
  (hS:∀ v t,t=b.lo∨t=b.hi→aY Tryz.prog g [v,.int .i64 b.q,.int .i64 (n:Nat)] [(v,zd t)] (fun r os fs=>os=[]∧∃ x y,r=.tuple #[x,y,.int .i64 0]∧fs=[(x,zd (S t b.q n).1),(y,zd (S t b.q n).2)])) :
  aY Tryz.prog 210 [v,.func (.func g) #[] #[],.int .i64 (n:Nat)] [(v,aN b.lo b.hi b.q)] (fun r os fs=>os=[]∧fs=[(r,aN (S b.lo b.q n).1 (S b.hi b.q n).2 b.q)]):=by
 refine mV Tryz.func210 ?_
 refine aQ (aA (d:=aN b.lo b.hi b.q) qM) fun p1 hp1=>?_
 refine aI (d:=aN 0 0 0) fun p2 hp2=>?_
 refine aF 1 rfl hp1 ?_
 refine bM hp1 ?_
 refine aK (d:=zd b.lo) 1 rfl (aJ (aG _)) (aR _) fun u1=>?_
 refine aF 1 rfl hp1 ?_
 refine bM hp1 ?_
 refine aB (u:=.int .i64 b.q) 1 rfl (aC (aC (aG _))) ?_
 refine cF (hS u1 _ (Or.inl rfl)) ?_
 rintro _ _ _ ⟨rfl,x1,y1,rfl,rfl⟩
 refine aI (d:=zd 0) fun p3 hp3=>?_
 refine aI (d:=zd 0) fun p4 hp4=>?_
 refine aH (d:=zd ((S b.lo b.q n).1)) 1 rfl hp3 rfl qK (aA (d:=zd ((S b.lo b.q n).1)) qM) ?_
 refine aH (d:=zd ((S b.lo b.q n).2)) 0 rfl hp4 rfl qK (aA (d:=zd ((S b.lo b.q n).2)) qM) ?_
 refine aF 3 rfl hp1 ?_
 refine bM hp1 ?_
 refine aK (d:=zd b.hi) 3 rfl (aC (aJ (aG _))) (aR _) fun u2=>?_
 refine aF 3 rfl hp1 ?_
 refine bM hp1 ?_
 refine aB (u:=.int .i64 b.q) 3 rfl (aC (aC (aG _))) ?_
 refine cF (hS u2 _ (Or.inr rfl)) ?_
 rintro _ _ _ ⟨rfl,x2,y2,rfl,rfl⟩
 refine aI (d:=zd 0) fun p5 hp5=>?_
 refine aI (d:=zd 0) fun p6 hp6=>?_
 refine aH (d:=zd ((S b.hi b.q n).1)) 1 rfl hp5 rfl qK (aA (d:=zd ((S b.hi b.q n).1)) qM) ?_
 refine aH (d:=zd ((S b.hi b.q n).2)) 0 rfl hp6 rfl qK (aA (d:=zd ((S b.hi b.q n).2)) qM) ?_
 refine aE (d:=zd ((S b.lo b.q n).1)) 3 rfl hp3 rfl (aR _) fun u3=>?_
 refine aE (d:=zd ((S b.hi b.q n).2)) 0 rfl hp6 rfl (aR _) fun u4=>?_
 refine aF 5 rfl hp1 ?_
 refine bM hp1 ?_
 refine aB (u:=.int .i64 b.q) 5 rfl (aC (aC (aG _))) ?_
 refine dE [zd ((S b.lo b.q n).1),zd ((S b.hi b.q n).2),.one (.int .i64 b.q)] (by exact ⟨⟨aA qM,rfl⟩,⟨aA qM,rfl⟩,⟨dC rfl,rfl⟩,trivial⟩) fun u5=>?_
 refine fX (d:=aN ((S b.lo b.q n).1) ((S b.hi b.q n).2) b.q) qM fun u6=>?_
 refine aH (d:=aN ((S b.lo b.q n).1) ((S b.hi b.q n).2) b.q) 4 rfl hp2 rfl qK (aA (d:=aN ((S b.lo b.q n).1) ((S b.hi b.q n).2) b.q) qM) ?_
 refine aE (d:=aN ((S b.lo b.q n).1) ((S b.hi b.q n).2) b.q) 4 rfl hp2 rfl (cY _ _ _) fun r7=>?_
 exact fin ⟨rfl,rfl⟩ (dS (dS (dS (dS (dS (dS (aD (fs':=[(r7,aN ((S b.lo b.q n).1) ((S b.hi b.q n).2) b.q)]) qS)))))))
theorem qL {P:Program} {t:TypeId} {v:Value} {os:List Own} {fs:List bA} {K:cE} (k:∀ r,K (ptr0 r 0) os fs):BoxK P t v os fs K:=by
 refine ⟨fun G w hw=>?_⟩
 have hrun:(val (Instr.box t v)).run P w=.ok (.value (.pointer (some ⟨w.heap.size,0,none⟩))) (w.alloc (.cells v.cells t)):=by
  simp [val,Instr.box,newVar,newRow]
 rw [hrun]
 have hb:Below w.heap.size w (w.alloc (.cells v.cells t)):=(Below.refl _ _).alloc (Nat.le_refl _) _
 exact ⟨hb,_,fs,k _,hw.grow hb⟩
theorem load0 {P:Program} {t:TypeId} {r o:Nat} {os:List Own} {fs:List bA} {K:cE} [ht:oL P t 0] (k:K (.agg #[]) os fs):pB P t (ptr0 r o) os fs K :=
 ⟨fun G w hw=>⟨_,fs,fun w' _=>dH (by simp [Instr.loadAt,Instr.sureAddr,ptr0,loadVar,pN ht,dB ht.size,loadCells,loadCellsFrom]),k,hw⟩⟩
instance iCTo1:oL Tryz.prog 209 0:=⟨⟨_,Tryz.underlying209,rfl⟩,by kernel_rfl⟩
theorem fJ (b:Bal) (k:Int):(b8 b k).q=b.q:=by unfold b8; split <;> rfl
theorem gC {b:Bal} {k:Int} {a c:Nat} (hb:b.ok a) (hk:sz k c):(b8 b k).ok (a+c):=by
 refine ⟨?_,by rw [fJ]; exact hb.q0,by rw [fJ]; exact hb.q1,?_,?_⟩ <;> unfold b8 <;> split
 ·exact Int.mul_le_mul_of_nonpos_right hb.le qN
 ·exact Int.mul_le_mul_of_nonneg_right hb.le qN
 ·exact hb.shi.mul hk
 ·exact hb.slo.mul hk
 ·exact hb.slo.mul hk
 ·exact hb.shi.mul hk
theorem lJ {m e q:Int} {a:Nat} (h:sz m a) (hq:0≤q∧q≤2048):(bZ m e q).ok (a+130):=⟨downV_upV _ (Int.le_refl _),hq.1,hq.2,sV _ h,sz_upV _ h⟩
theorem subB_ok {b c:Bal} {a:Nat} (hb:b.ok a) (hc:c.ok a):(iV b c).ok (a+1) :=
 ⟨by have:=hb.le; have:=hc.le; show b.lo + -c.hi≤b.hi + -c.lo; omega,hb.q0,hb.q1,szAdd hb.slo (gG hc.shi),szAdd hb.shi (gG hc.slo)⟩
theorem Bal.ok.mono {b:Bal} {a c:Nat} (h:b.ok a) (hac:a≤c):b.ok c:=⟨h.le,h.q0,h.q1,h.slo.mono hac,h.shi.mono hac⟩
def nE (q:Int):Nat:=(q/4+10).toNat
def gW (b:Bal):Bal:=⟨(rL b.lo b.q (nE b.q)).1,(rL b.hi b.q (nE b.q)).2,b.q⟩
def mG (m e:Int) (L:Bal):Int:=(bZ m e L.q).lo/L.hi
def gY (m e:Int) (L:Bal):Bal:=iV (bZ m e L.q) (b8 L (mG m e L))
theorem eExpo (v:Value) (b:Bal) (a:Nat) (hb:b.ok a) (ha:a≤100000) (hq:b.q≤1200) (h0:0≤b.lo) (h2:b.hi*2^far 1≤2*2^far b.q):aY Tryz.prog 204 [v] [(v,aN b.lo b.hi b.q)] (fun r os fs=>os=[]∧fs=[(r,aN (gW b).lo (gW b).hi (gW b).q)]):=by
 have q0:=hb.q0
 have hn:1≤nE b.q∧nE b.q≤400:=by unfold nE; omega
 have h1:b.lo*2^far 1≤2*2^far b.q:=Int.le_trans (Int.mul_le_mul_of_nonneg_right hb.le (Int.le_of_lt (Int.pow_pos qE))) h2
 refine mV Tryz.func204 ?_
 refine aQ (aA (d:=aN b.lo b.hi b.q) qM) fun p1 hp1=>?_
 refine aI (d:=aN 0 0 0) fun p2 hp2=>?_
 refine aE (d:=aN b.lo b.hi b.q) 1 rfl hp1 rfl (cY _ _ _) fun u1=>?_
 refine aF 1 rfl hp1 ?_
 refine bM hp1 ?_
 refine aB (u:=.int .i64 b.q) 1 rfl (aC (aC (aG _))) ?_
 refine gH qN qN (by exact ⟨by omega,by omega⟩) ?_
 refine ar rfl qI ?_
 rw [show b.q/4+10=((nE b.q:Nat):Int) by unfold nE; omega]
 refine cG (eThrough u1 211 rL b (nE b.q) (fun u t ht=>by rcases ht with rfl | rfl; exact rExp u b.lo b.q (nE b.q) a hb.slo ha ⟨hb.q0,hq⟩ hn h0 h1; exact rExp u b.hi b.q (nE b.q) a hb.shi ha ⟨hb.q0,hq⟩ hn (Int.le_trans h0 hb.le) h2)) fun x1=>?_
 refine aH (d:=aN (gW b).lo (gW b).hi (gW b).q) 0 rfl hp2 rfl qK (aA (d:=aN (gW b).lo (gW b).hi (gW b).q) qM) ?_
 refine aE (d:=aN (gW b).lo (gW b).hi (gW b).q) 0 rfl hp2 rfl (cY _ _ _) fun r2=>?_
 exact fin ⟨rfl,rfl⟩ (dS (dS (aD (fs':=[(r2,aN (gW b).lo (gW b).hi (gW b).q)]) qS)))
theorem eExpAt (v w:Value) (m e:Int) (L:Bal) (a:Nat) (h:DyOk m e a) (hL:L.ok a) (ha:a≤90000) (hq:L.q≤1200) (hl:0<L.lo) (h0:0≤(bZ m e L.q).lo)
  (hk:mG m e L<9223372036854775808) (hr0:0≤(gY m e L).lo) (hr2:(gY m e L).hi*2^far 1≤2*2^far L.q) :
  aY Tryz.prog 205 [.agg #[],v,w] [(v,dyD m e),(w,aN L.lo L.hi L.q)] (fun r os fs=>os=[]∧∃ x,r=.tuple #[x,.int .i64 (mG m e L)]∧fs=[(x,aN (gW (gY m e L)).lo (gW (gY m e L)).hi (gW (gY m e L)).q)]):=by
 have hLq:0≤L.q∧L.q≤2048:=⟨hL.q0,hL.q1⟩
 have hLh:0<L.hi:=by have:=hL.le; omega
 have hP:(bZ m e L.q).ok (a+130):=lJ h.sm hLq
 have hK0:0≤mG m e L:=Int.ediv_nonneg h0 (Int.le_of_lt hLh)
 have hT:(b8 L (mG m e L)).ok (a+130):=(gC hL (dR (mG m e L) qN)).mono qN
 have hR:(gY m e L).ok (a+130+1):=subB_ok hP hT
 refine mV Tryz.func205 ?_
 refine qL fun r1=>?_
 refine aQ (aA (d:=dyD m e) qM) fun p1 hp1=>?_
 refine aQ (aA (d:=aN L.lo L.hi L.q) qM) fun p2 hp2=>?_
 refine aI (d:=aN 0 0 0) fun p3 hp3=>?_
 refine aE (d:=dyD m e) 2 rfl hp1 rfl (cB _ _) fun u2=>?_
 refine aF 1 rfl hp2 ?_
 refine bM hp2 ?_
 refine aB (u:=.int .i64 L.q) 1 rfl (aC (aC (aG _))) ?_
 refine cG (eOf u2 m e a h L.q qN hLq) fun u3=>?_
 refine aI (d:=aN 0 0 0) fun p4 hp4=>?_
 refine aH (d:=aN (bZ m e L.q).lo (bZ m e L.q).hi (bZ m e L.q).q) 0 rfl hp4 rfl qK (aA (d:=aN (bZ m e L.q).lo (bZ m e L.q).hi (bZ m e L.q).q) qM) ?_
 refine aF 2 rfl hp2 ?_
 refine bM hp2 ?_
 refine aK (d:=zd L.hi) 2 rfl (aC (aJ (aG _))) (aR _) fun u4=>?_
 refine aI (d:=zd 0) fun p5 hp5=>?_
 refine aH (d:=zd L.hi) 0 rfl hp5 rfl qK (aA (d:=zd L.hi) qM) ?_
 refine aF 1 rfl hp4 ?_
 refine bM hp4 ?_
 refine aK (d:=zd ((bZ m e L.q).lo)) 1 rfl (aJ (aG _)) (aR _) fun u5=>?_
 refine cH (mY u5 (bZ m e L.q).lo (a+130) hP.slo qN) ?_
 refine aL rfl (by have:=sgn_nn h0; omega) ?_
 refine aF 1 rfl hp4 ?_
 refine bM hp4 ?_
 refine aK (d:=zd ((bZ m e L.q).lo)) 1 rfl (aJ (aG _)) (aR _) fun u6=>?_
 refine aE (d:=zd L.hi) 0 rfl hp5 rfl (aR _) fun u7=>?_
 refine cH (eDown u6 u7 (bZ m e L.q).lo L.hi (a+130) hP.slo (hL.shi.mono qN) qN hLh ⟨Int.le_trans qE hK0,hk⟩) ?_
 refine bC [0,1,2,6,3,4,5,7,8] [0,1,2,3,4,5,7,6,8] qK qK ?_
 refine aE (d:=aN (bZ m e L.q).lo (bZ m e L.q).hi (bZ m e L.q).q) 1 rfl hp4 rfl (cY _ _ _) fun u8=>?_
 refine aE (d:=aN L.lo L.hi L.q) 3 rfl hp2 rfl (cY _ _ _) fun u9=>?_
 refine cG (vB u9 L (mG m e L) (a+129) (hL.mono qN) qN qN ⟨by have:=hK0; omega,hk⟩) fun u10=>?_
 refine cG (eLess u8 u10 (bZ m e L.q) (b8 L (mG m e L)) (a+130) hP hT qN (by rw [fJ]; rfl)) fun u11=>?_
 refine cG (eExpo u11 (gY m e L) (a+130+1) hR qN hq hr0 hr2) fun u12=>?_
 refine aH (d:=aN (gW (gY m e L)).lo (gW (gY m e L)).hi (gW (gY m e L)).q) 2 rfl hp3 rfl qK (aA (d:=aN (gW (gY m e L)).lo (gW (gY m e L)).hi (gW (gY m e L)).q) qM) ?_
 refine aE (d:=aN (gW (gY m e L)).lo (gW (gY m e L)).hi (gW (gY m e L)).q) 2 rfl hp3 rfl (cY _ _ _) fun r13=>?_
 exact fin ⟨rfl,r13,rfl,rfl⟩ (dS (dS (dS (dS (dS (aD (fs':=[(r13,aN (gW (gY m e L)).lo (gW (gY m e L)).hi (gW (gY m e L)).q)]) qS))))))
def lowF:Nat→Nat→Nat
 | 0,_=>0
 | f+1,n=>if n%2=1 then 0 else lowF f (n/2)+1
def kV (m:Int):Nat:=lowF m.natAbs m.natAbs
theorem lowF_low:∀ (f n:Nat),n≠0→n≤f→n/2^lowF f n%2=1∧∀ i,i<lowF f n→n/2^i%2=0
 | 0,n,h,hf=>absurd hf qN
 | f+1,n,h,hf=>by
  rw [lowF]
  split
  ·rename_i h1
   exact ⟨by simpa using h1,fun i hi=>absurd hi qN⟩
  ·rename_i h1
   obtain ⟨g1,g2⟩:=lowF_low f (n/2) qN qN
   have e:∀ t,n/2^(t+1)=n/2/2^t:=fun t=>by rw [Nat.pow_succ,Nat.mul_comm,Nat.div_div_eq_div_mul]
   refine ⟨by rw [e]; exact g1,fun i hi=>?_⟩
   cases i with
   | zero=>simp; omega
   | succ i=>rw [e]; exact g2 i qN
theorem iL {m:Int} (h:m≠0):Low m (kV m):=by
 have:=lowF_low m.natAbs m.natAbs qN (Nat.le_refl _)
 exact ⟨this.1,this.2⟩
theorem low_le {m:Int} {k a:Nat} (h:Low m k) (hm:sz m a):k<64*a:=by
 have h1:2^k≤m.natAbs:=by
  rcases Nat.lt_or_ge m.natAbs (2^k) with h0 | h0
  ·have:=h.one
   rw [Nat.div_eq_of_lt h0] at this
   simp at this
  ·exact h0
 have h2:m.natAbs<2^(64*a):=by rw [Nat.pow_mul]; exact hm
 exact (Nat.pow_lt_pow_iff_right (show 1<2 by decide)).mp (Nat.lt_of_le_of_lt h1 h2)
def dnM (m:Int):Int:=m/2^kV m
def dnE (m e:Int):Int:=if m=0 then 0 else e+(kV m:Nat)
theorem dPlain0 (v:Value) (e:Int):aY Tryz.prog 66 [v,.int .i64 e] [(v,zd 0)] (fun r os fs=>os=[]∧fs=[(r,dyD 0 0)]):=by
 refine mV Tryz.func66 ?_
 refine aQ (aA (d:=zd 0) qM) fun p1 hp1=>?_
 refine aI (d:=dyD 0 0) fun p2 hp2=>?_
 refine aE (d:=zd 0) 1 rfl hp1 rfl (aR _) fun u1=>?_
 refine cG (zNormZ u1 0 1 (iG _) qE) fun u2=>?_
 refine aH (d:=zd 0) 1 rfl hp1 rfl qK (aA (d:=zd 0) qM) ?_
 refine aF 1 rfl hp1 ?_
 refine aK (d:=U (b9 (0:Int).natAbs)) 1 rfl (aC (aG _)) (show lG _ _ from inferInstance) fun u3=>?_
 refine aS (n:=(b9 (0:Int).natAbs).length) qM fun _=>?_
 refine bG rfl (by simp [dU]) ?_
 refine dE [zd 0,.one (.int .i64 0)] (by exact ⟨fun S w=>jX S w,fun S w=>mO S w 0,trivial⟩) fun u4=>?_
 refine aH (d:=dyD 0 0) 0 rfl hp2 rfl qK (aA (d:=dyD 0 0) qM) ?_
 refine aE (d:=dyD 0 0) 0 rfl hp2 rfl (cB _ _) fun r5=>?_
 exact fin ⟨rfl,rfl⟩ (dS (dS (aD (fs':=[(r5,dyD 0 0)]) qS)))
theorem dPlainG (v:Value) (m e:Int) (a:Nat) (hm:sz m a) (ha:a≤62) (he : -100000≤e∧e≤100000):aY Tryz.prog 66 [v,.int .i64 e] [(v,zd m)] (fun r os fs=>os=[]∧fs=[(r,dyD (dnM m) (dnE m e))]):=by
 by_cases h:m=0
 ·subst h
  rw [show dnM 0=0 by unfold dnM; simp,show dnE 0 e=0 from if_pos rfl]
  exact dPlain0 v e
 ·rw [show dnE m e=e+(kV m:Nat) from if_neg h]
  have:=low_le (iL h) hm
  exact dPlain v m e (kV m) a hm qN he (iL h) qN
theorem dNormG (v:Value) (m e:Int) (a:Nat) (h:DyOk m e a) (ha:a≤62):aY Tryz.prog 38 [v] [(v,dyD m e)] (fun r os fs=>os=[]∧fs=[(r,dyD (dnM m) (dnE m e))]):=by
 have e0:=h.e0
 have e1:=h.e1
 refine mV Tryz.func38 ?_
 refine aQ (aA (d:=dyD m e) qM) fun p1 hp1=>?_
 refine aI (d:=dyD 0 0) fun p2 hp2=>?_
 refine aE (d:=dyD m e) 1 rfl hp1 rfl (cB _ _) fun u1=>?_
 refine cF (mI u1 m e a h qN) ?_
 rintro _ _ _ ⟨rfl,xm,rfl,rfl⟩
 refine cG (dPlainG xm m e a h.sm qN ⟨by omega,by omega⟩) fun u2=>?_
 refine aH (d:=dyD (dnM m) (dnE m e)) 0 rfl hp2 rfl qK (aA (d:=dyD (dnM m) (dnE m e)) qM) ?_
 refine aE (d:=dyD (dnM m) (dnE m e)) 0 rfl hp2 rfl (cB _ _) fun r3=>?_
 exact fin ⟨rfl,rfl⟩ (dS (dS (aD (fs':=[(r3,dyD (dnM m) (dnE m e))]) qS)))
theorem dOfG (v:Value) (m e:Int) (a:Nat) (h:DyOk m e a) (ha:a≤62):aY Tryz.prog 62 [v,.int .i64 e] [(v,zd m)] (fun r os fs=>os=[]∧fs=[(r,dyD (dnM m) (dnE m e))]):=by
 refine mV Tryz.func62 ?_
 refine aQ (aA (d:=zd m) qM) fun p1 hp1=>?_
 refine aI (d:=dyD 0 0) fun p2 hp2=>?_
 refine aE (d:=zd m) 1 rfl hp1 rfl (aR _) fun u1=>?_
 refine dE [zd m,.one (.int .i64 e)] (by exact ⟨⟨aA qM,rfl⟩,⟨dC rfl,rfl⟩,trivial⟩) fun u2=>?_
 refine cG (dNormG u2 m e a h ha) fun u3=>?_
 refine aH (d:=dyD (dnM m) (dnE m e)) 0 rfl hp2 rfl qK (aA (d:=dyD (dnM m) (dnE m e)) qM) ?_
 refine aE (d:=dyD (dnM m) (dnE m e)) 0 rfl hp2 rfl (cB _ _) fun r4=>?_
 exact fin ⟨rfl,rfl⟩ (dS (dS (aD (fs':=[(r4,dyD (dnM m) (dnE m e))]) qS)))
theorem dSubG (v w:Value) (m e n f:Int) (a:Nat) (h:DyOk m e a) (g:DyOk n f a) (c:Nat) (ha:a≤62) (hc:c≤62) (hs:sz (jI m e f - jI n f e) c):aY Tryz.prog 223 [v,w] [(v,dyD m e),(w,dyD n f)] (fun r os fs=>os=[]∧fs=[(r,dyD (dnM (jI m e f - jI n f e)) (dnE (jI m e f - jI n f e) (oE e f)))]):=by
 have e0:=h.e0
 have e1:=h.e1
 have f0:=g.e0
 have f1:=g.e1
 have hl:oE e f≤e∧oE e f≤f ∧ -1900≤oE e f:=by unfold oE; omega
 have hl2:oE f e=oE e f:=by unfold oE; omega
 refine mV Tryz.func223 ?_
 refine aQ (aA (d:=dyD m e) qM) fun p1 hp1=>?_
 refine aQ (aA (d:=dyD n f) qM) fun p2 hp2=>?_
 refine aI (d:=dyD 0 0) fun p3 hp3=>?_
 refine aE (d:=dyD m e) 2 rfl hp1 rfl (cB _ _) fun u1=>?_
 refine aE (d:=dyD n f) 1 rfl hp2 rfl (cB _ _) fun u2=>?_
 refine cF (dLevel u1 u2 m e n f a h g qN) ?_
 rintro _ _ _ ⟨rfl,x1,y1,rfl,rfl⟩
 refine aI (d:=zd 0) fun p4 hp4=>?_
 refine aI (d:=zd 0) fun p5 hp5=>?_
 refine aH (d:=zd (jI m e f)) 1 rfl hp4 rfl qK (aA (d:=zd (jI m e f)) qM) ?_
 refine aH (d:=zd (jI n f e)) 0 rfl hp5 rfl qK (aA (d:=zd (jI n f e)) qM) ?_
 refine aE (d:=zd (jI m e f)) 1 rfl hp4 rfl (aR _) fun u3=>?_
 refine aE (d:=zd (jI n f e)) 0 rfl hp5 rfl (aR _) fun u4=>?_
 refine cG (tN u3 u4 _ _ (a+130) (a+130) ((fK h.sm).mono qN) ((fK g.sm).mono qN) qN qN) fun u5=>?_
 refine cG (dPlainG u5 (jI m e f - jI n f e) (oE e f) c hs qN ⟨by omega,by omega⟩) fun u6=>?_
 refine aH (d:=dyD (dnM (jI m e f - jI n f e)) (dnE (jI m e f - jI n f e) (oE e f))) 2 rfl hp3 rfl qK (aA (d:=dyD (dnM (jI m e f - jI n f e)) (dnE (jI m e f - jI n f e) (oE e f))) qM) ?_
 refine aE (d:=dyD (dnM (jI m e f - jI n f e)) (dnE (jI m e f - jI n f e) (oE e f))) 2 rfl hp3 rfl (cB _ _) fun r7=>?_
 exact fin ⟨rfl,rfl⟩ (dS (dS (dS (dS (dS (aD (fs':=[(r7,dyD (dnM (jI m e f - jI n f e)) (dnE (jI m e f - jI n f e) (oE e f)))]) qS))))))
theorem addB_ok {b c:Bal} {a:Nat} (hb:b.ok a) (hc:c.ok a):(kO b c).ok (a+1) :=
 ⟨by have:=hb.le; have:=hc.le; show b.lo+c.lo≤b.hi+c.hi; omega,hb.q0,hb.q1,szAdd hb.slo hc.slo,szAdd hb.shi hc.shi⟩
def jO (q:Int):Bal:=bZ 1 0 q
def e2F (m e:Int):Int:=jY m e 0
def e2S (m e:Int):Int:=jI m e (dnE (e2F m e) 0) - jI (dnM (e2F m e)) (dnE (e2F m e) 0) e
def e2M (m e:Int):Int:=dnM (e2S m e)
def e2E (m e:Int):Int:=dnE (e2S m e) (oE e (dnE (e2F m e) 0))
def e2R (m e:Int) (L:Bal):Bal:=oM (bZ (e2M m e) (e2E m e) L.q) L
theorem eWhole1 (q:Int) (hq:0≤q∧q≤2048):aY Tryz.prog 233 [.int .i64 1,.int .i64 q] [] (fun r os fs=>os=[]∧fs=[(r,aN (jO q).lo (jO q).hi (jO q).q)]):=by
 refine mV Tryz.func233 ?_
 refine aI (d:=aN 0 0 0) fun p1 hp1=>?_
 refine cG (fB 1 qE qE) fun u1=>?_
 have hof:=fun u=>dOfG u 1 0 1 ⟨dR 1 qE,by decide,by decide,by decide⟩ qE
 rw [show dnM 1=1 by decide,show dnE 1 0=0 by decide] at hof
 refine cG (hof u1) fun u2=>?_
 refine cG (eOf u2 1 0 1 ⟨dR 1 qE,by decide,by decide,by decide⟩ q qE hq) fun u3=>?_
 refine aH (d:=aN (jO q).lo (jO q).hi (jO q).q) 0 rfl hp1 rfl qK (aA (d:=aN (jO q).lo (jO q).hi (jO q).q) qM) ?_
 refine aE (d:=aN (jO q).lo (jO q).hi (jO q).q) 0 rfl hp1 rfl (cY _ _ _) fun r4=>?_
 exact fin ⟨rfl,rfl⟩ (dS (aD (fs':=[(r4,aN (jO q).lo (jO q).hi (jO q).q)]) qS))
theorem eExp2At (v w:Value) (m e:Int) (L:Bal) (a:Nat) (h:DyOk m e a) (hL:L.ok a) (ha:a≤62) (hq:L.q≤1200)
  (hF:0≤e2F m e∧e2F m e<9223372036854775808) (hG:DyOk (dnM (e2F m e)) (dnE (e2F m e) 0) a) (hS:sz (e2S m e) a) (hD:DyOk (e2M m e) (e2E m e) a) (hM:(e2R m e L).ok 100000)
  (hr0:0≤(e2R m e L).lo) (hr2:(e2R m e L).hi*2^far 1≤2*2^far L.q) :
  aY Tryz.prog 222 [.agg #[],v,w] [(v,dyD m e),(w,aN L.lo L.hi L.q)] (fun r os fs=>os=[]∧∃ x,r=.tuple #[x,.int .i64 (e2F m e)]∧fs=[(x,aN (gW (e2R m e L)).lo (gW (e2R m e L)).hi (gW (e2R m e L)).q)]):=by
 have hLq:0≤L.q∧L.q≤2048:=⟨hL.q0,hL.q1⟩
 have hP:(bZ (e2M m e) (e2E m e) L.q).ok (a+130):=lJ hD.sm hLq
 have hsm:=fun u=>zSmallZ u (e2F m e) (a+130) (sV _ h.sm) qN
 rw [show fZ (e2F m e)=(e2F m e,true) from if_pos ⟨by omega,hF.2⟩] at hsm
 refine mV Tryz.func222 ?_
 refine qL fun r1=>?_
 refine aQ (aA (d:=dyD m e) qM) fun p1 hp1=>?_
 refine aQ (aA (d:=aN L.lo L.hi L.q) qM) fun p2 hp2=>?_
 refine aI (d:=aN 0 0 0) fun p3 hp3=>?_
 refine aE (d:=dyD m e) 2 rfl hp1 rfl (cB _ _) fun u2=>?_
 refine cG (dFloor u2 m e a h 0 qN qE) fun u3=>?_
 refine aI (d:=zd 0) fun p4 hp4=>?_
 refine aH (d:=zd (e2F m e)) 0 rfl hp4 rfl qK (aA (d:=zd (e2F m e)) qM) ?_
 refine aE (d:=zd (e2F m e)) 0 rfl hp4 rfl (aR _) fun u4=>?_
 refine cH (hsm u4) ?_
 refine bC [0,1,4,5,6,8,11,2,3,7,9,10,12,13] [0,1,2,3,4,5,6,7,8,9,10,12,11,13] qK qK ?_
 refine aE (d:=dyD m e) 3 rfl hp1 rfl (cB _ _) fun u5=>?_
 refine aE (d:=zd (e2F m e)) 0 rfl hp4 rfl (aR _) fun u6=>?_
 refine aF 2 rfl hp2 ?_
 refine bM hp2 ?_
 refine aB (u:=.int .i64 L.q) 2 rfl (aC (aC (aG _))) ?_
 refine aE (d:=aN L.lo L.hi L.q) 2 rfl hp2 rfl (cY _ _ _) fun u7=>?_
 refine cG (dOfG u6 (e2F m e) 0 1 ⟨dR _ qN,by decide,by decide,fun _=>rfl⟩ qE) fun u8=>?_
 refine cG (dSubG u5 u8 m e (dnM (e2F m e)) (dnE (e2F m e) 0) a h hG a ha ha hS) fun u9=>?_
 refine cG (eOf u9 (e2M m e) (e2E m e) a hD L.q qN hLq) fun u10=>?_
 refine cG (eBy u10 u7 (bZ (e2M m e) (e2E m e) L.q) L (a+130) hP (hL.mono qN) qN rfl) fun u11=>?_
 refine cG (eExpo u11 (e2R m e L) 100000 hM qE hq hr0 hr2) fun u12=>?_
 refine aH (d:=aN (gW (e2R m e L)).lo (gW (e2R m e L)).hi (gW (e2R m e L)).q) 1 rfl hp3 rfl qK (aA (d:=aN (gW (e2R m e L)).lo (gW (e2R m e L)).hi (gW (e2R m e L)).q) qM) ?_
 refine aE (d:=aN (gW (e2R m e L)).lo (gW (e2R m e L)).hi (gW (e2R m e L)).q) 1 rfl hp3 rfl (cY _ _ _) fun r13=>?_
 exact fin ⟨rfl,r13,rfl,rfl⟩ (dS (dS (dS (dS (aD (fs':=[(r13,aN (gW (e2R m e L)).lo (gW (e2R m e L)).hi (gW (e2R m e L)).q)]) qS)))))
def lgS (m e:Int):Int:=e+(bH m.natAbs:Nat) - 1
def lgP (m e q:Int):Bal:=bZ (dnM m) (e + -(lgS m e)+(kV m:Nat)) q
def nL (q:Int):Nat:=(q/3+2).toNat
def lgD (m e q:Int):Bal:=iT (iV (lgP m e q) (jO q)) (kO (lgP m e q) (jO q))
def lgA (m e q:Int):Bal:=⟨(dZ (lgD m e q).lo q (nL q)).1,(dZ (lgD m e q).hi q (nL q)).2,q⟩
def lgB (m e q:Int):Bal:=b8 (lgA m e q) 2
def uS (m e:Int) (L:Bal):Bal:=kO (lgB m e L.q) (b8 L (lgS m e))
theorem eParts (v:Value) (m e q:Int) (a:Nat) (h:DyOk m e a) (ha:a≤62) (hm:m≠0) (hq:0≤q∧q≤1100) (hs : -1900≤lgS m e∧lgS m e≤1900) (hN:DyOk (dnM m) (e + -(lgS m e)+(kV m:Nat)) a)
  (h0:0<(kO (lgP m e q) (jO q)).lo) (hD:(lgD m e q).ok 100000) (hd0:0≤(lgD m e q).lo) (hd1:(lgD m e q).hi*2^far 1≤1*2^far q) (hA:(lgA m e q).ok 1000000) :
  aY Tryz.prog 230 [.agg #[],v,.int .i64 q] [(v,dyD m e)] (fun r os fs=>os=[]∧∃ x,r=.tuple #[x,.int .i64 (lgS m e)]∧fs=[(x,aN (lgB m e q).lo (lgB m e q).hi (lgB m e q).q)]):=by
 have hq2:0≤q∧q≤2048:=⟨hq.1,by omega⟩
 have hlg:=fun u=>dLog u m e a h qN
 rw [show logV m e=(lgS m e,true) from if_neg hm] at hlg
 have hP:(lgP m e q).ok (a+132):=(lJ hN.sm hq2).mono qN
 have hO:(jO q).ok (a+132):=(lJ (dR 1 qE) hq2).mono qN
 have hn:1≤nL q∧nL q≤400:=by unfold nL; omega
 have hd2:(lgD m e q).lo*2^far 1≤1*2^far q:=Int.le_trans (Int.mul_le_mul_of_nonneg_right hD.le (Int.le_of_lt (Int.pow_pos qE))) hd1
 refine mV Tryz.func230 ?_
 refine qL fun r1=>?_
 refine aQ (aA (d:=dyD m e) qM) fun p1 hp1=>?_
 refine aI (d:=aN 0 0 0) fun p2 hp2=>?_
 refine aE (d:=dyD m e) 1 rfl hp1 rfl (cB _ _) fun u2=>?_
 refine cH (hlg u2) ?_
 refine aE (d:=dyD m e) 1 rfl hp1 rfl (cB _ _) fun u3=>?_
 refine oP (m := -(lgS m e)) (by rw [Int.zero_sub]; exact bT ⟨by omega,by omega⟩) ?_
 refine cG (dShift u3 m e a h (-(lgS m e)) (kV m) qN ⟨by omega,by omega⟩ (iL hm) (by have:=low_le (iL hm) h.sm; omega)) fun u4=>?_
 refine cG (eOf u4 (dnM m) (e + -(lgS m e)+(kV m:Nat)) a hN q qN hq2) fun u5=>?_
 refine cG (eWhole1 q hq2) fun u6=>?_
 refine aI (d:=aN 0 0 0) fun p3 hp3=>?_
 refine aI (d:=aN 0 0 0) fun p4 hp4=>?_
 refine aH (d:=aN (lgP m e q).lo (lgP m e q).hi (lgP m e q).q) 1 rfl hp3 rfl qK (aA (d:=aN (lgP m e q).lo (lgP m e q).hi (lgP m e q).q) qM) ?_
 refine aH (d:=aN (jO q).lo (jO q).hi (jO q).q) 0 rfl hp4 rfl qK (aA (d:=aN (jO q).lo (jO q).hi (jO q).q) qM) ?_
 refine bC [0,1,3,4,7,8,9,12,2,5,6,10,11,13,14] [0,1,2,3,4,5,6,7,8,9,10,11,13,12,14] qK qK ?_
 refine aE (d:=aN (lgP m e q).lo (lgP m e q).hi (lgP m e q).q) 1 rfl hp3 rfl (cY _ _ _) fun u7=>?_
 refine aE (d:=aN (jO q).lo (jO q).hi (jO q).q) 0 rfl hp4 rfl (cY _ _ _) fun u8=>?_
 refine aE (d:=aN (lgP m e q).lo (lgP m e q).hi (lgP m e q).q) 1 rfl hp3 rfl (cY _ _ _) fun u9=>?_
 refine aE (d:=aN (jO q).lo (jO q).hi (jO q).q) 0 rfl hp4 rfl (cY _ _ _) fun u10=>?_
 refine gH qN qN (by exact ⟨by omega,by omega⟩) ?_
 refine ar rfl qI ?_
 rw [show q/3+2=((nL q:Nat):Int) by unfold nL; omega]
 refine cG (eLess u7 u8 (lgP m e q) (jO q) (a+132) hP hO qN rfl) fun u11=>?_
 refine cG (ePlus u9 u10 (lgP m e q) (jO q) (a+132) hP hO qN rfl) fun u12=>?_
 refine cG (eOver u11 u12 (iV (lgP m e q) (jO q)) (kO (lgP m e q) (jO q)) (a+132+1) (subB_ok hP hO) (addB_ok hP hO) qN rfl h0) fun u13=>?_
 refine cG (eThrough u13 124 dZ (lgD m e q) (nL q) (fun u t ht=>by rcases ht with rfl | rfl; exact rAtanh u (lgD m e q).lo q (nL q) 100000 hD.slo qE ⟨hq.1,by omega⟩ hn hd0 hd2; exact rAtanh u (lgD m e q).hi q (nL q) 100000 hD.shi qE ⟨hq.1,by omega⟩ hn (Int.le_trans hd0 hD.le) hd1)) fun x1=>?_
 refine cG (vB x1 (lgA m e q) 2 1000000 hA qE qE qE) fun u14=>?_
 refine aH (d:=aN (lgB m e q).lo (lgB m e q).hi (lgB m e q).q) 2 rfl hp2 rfl qK (aA (d:=aN (lgB m e q).lo (lgB m e q).hi (lgB m e q).q) qM) ?_
 refine aE (d:=aN (lgB m e q).lo (lgB m e q).hi (lgB m e q).q) 2 rfl hp2 rfl (cY _ _ _) fun r15=>?_
 exact fin ⟨rfl,r15,rfl,rfl⟩ (dS (dS (dS (dS (aD (fs':=[(r15,aN (lgB m e q).lo (lgB m e q).hi (lgB m e q).q)]) qS)))))
structure LogOk (m e q:Int) (a:Nat):Prop where
 h:DyOk m e a
 ha:a≤62
 hm:m≠0
 hq:0≤q∧q≤1100
 hs : -1900≤lgS m e∧lgS m e≤1900
 hN:DyOk (dnM m) (e + -(lgS m e)+(kV m:Nat)) a
 h0:0<(kO (lgP m e q) (jO q)).lo
 hD:(lgD m e q).ok 100000
 hd0:0≤(lgD m e q).lo
 hd1:(lgD m e q).hi*2^far 1≤1*2^far q
 hA:(lgA m e q).ok 1000000
theorem LogOk.parts {m e q:Int} {a:Nat} (k:LogOk m e q a) (v:Value):aY Tryz.prog 230 [.agg #[],v,.int .i64 q] [(v,dyD m e)] (fun r os fs=>os=[]∧∃ x,r=.tuple #[x,.int .i64 (lgS m e)]∧fs=[(x,aN (lgB m e q).lo (lgB m e q).hi (lgB m e q).q)]) :=
 eParts v m e q a k.h k.ha k.hm k.hq k.hs k.hN k.h0 k.hD k.hd0 k.hd1 k.hA
theorem LogOk.lgB {m e q:Int} {a:Nat} (k:LogOk m e q a):(lgB m e q).ok 1000001:=gC k.hA (dR 2 qE)
def kG (m e:Int) (L:Bal):Bal:=kO (iT (lgB m e L.q) L) (b8 (jO L.q) (lgS m e))
theorem eLogAt (v w:Value) (m e:Int) (L:Bal) (a:Nat) (hk:LogOk m e L.q a) (hL:L.ok a):aY Tryz.prog 229 [.agg #[],v,w] [(v,dyD m e),(w,aN L.lo L.hi L.q)] (fun r os fs=>os=[]∧∃ x,r=.tuple #[x,.int .i64 0]∧fs=[(x,aN (uS m e L).lo (uS m e L).hi (uS m e L).q)]):=by
 have ha:=hk.ha
 have hs:=hk.hs
 have hT:(b8 L (lgS m e)).ok 1000001:=(gC hL (dR (lgS m e) qN)).mono qN
 refine mV Tryz.func229 ?_
 refine qL fun r1=>?_
 refine aQ (aA (d:=dyD m e) qM) fun p1 hp1=>?_
 refine aQ (aA (d:=aN L.lo L.hi L.q) qM) fun p2 hp2=>?_
 refine aI (d:=aN 0 0 0) fun p3 hp3=>?_
 refine load0 ?_
 refine aE (d:=dyD m e) 2 rfl hp1 rfl (cB _ _) fun u2=>?_
 refine aF 1 rfl hp2 ?_
 refine bM hp2 ?_
 refine aB (u:=.int .i64 L.q) 1 rfl (aC (aC (aG _))) ?_
 refine cF (hk.parts u2) ?_
 rintro _ _ _ ⟨rfl,x1,rfl,rfl⟩
 refine aI (d:=aN 0 0 0) fun p4 hp4=>?_
 refine aH (d:=aN (lgB m e L.q).lo (lgB m e L.q).hi (lgB m e L.q).q) 0 rfl hp4 rfl qK (aA (d:=aN (lgB m e L.q).lo (lgB m e L.q).hi (lgB m e L.q).q) qM) ?_
 refine bC [0,1,2,3,4,5,6] [0,1,2,3,4,5,6] qK qK ?_
 refine aE (d:=aN (lgB m e L.q).lo (lgB m e L.q).hi (lgB m e L.q).q) 0 rfl hp4 rfl (cY _ _ _) fun u3=>?_
 refine aE (d:=aN L.lo L.hi L.q) 2 rfl hp2 rfl (cY _ _ _) fun u4=>?_
 refine cG (vB u4 L (lgS m e) 100 (hL.mono qN) qE qE ⟨by omega,by omega⟩) fun u5=>?_
 refine cG (ePlus u3 u5 (lgB m e L.q) (b8 L (lgS m e)) 1000001 hk.lgB hT qE (by rw [fJ]; exact fJ _ _)) fun u6=>?_
 refine aH (d:=aN (uS m e L).lo (uS m e L).hi (uS m e L).q) 1 rfl hp3 rfl qK (aA (d:=aN (uS m e L).lo (uS m e L).hi (uS m e L).q) qM) ?_
 refine aE (d:=aN (uS m e L).lo (uS m e L).hi (uS m e L).q) 1 rfl hp3 rfl (cY _ _ _) fun r7=>?_
 exact fin ⟨rfl,r7,rfl,rfl⟩ (dS (dS (dS (dS (aD (fs':=[(r7,aN (uS m e L).lo (uS m e L).hi (uS m e L).q)]) qS)))))
def nP (q:Int):Nat:=(q/9+2).toNat
def cW (q:Int):Bal:=c9 (ofV dZ 3 2 (q+16) (nL (q+16))) q
def piB (q:Int):Bal:=c9 (iV (ofV fF 5 16 (q+16) (nP (q+16))) (ofV fF 239 4 (q+16) (nP (q+16)))) q
def ofB (S:Int→Int→Nat→P2) (c q:Int) (n:Nat):Bal:=⟨(S (ofT c q) q n).1,(S (ofT c q+1) q n).2,q⟩
theorem uL {c q:Int} (hc:3≤c∧c≤1000) (hq:16≤q∧q≤1200):∀ t,t=ofT c q∨t=ofT c q+1→0≤t∧t*2^far 1≤1*2^far q:=by
 intro t ht
 have h1:(65536:Int)≤2^far q:=by
  have:(2:Nat)^16≤2^far q:=Nat.pow_le_pow_right qE (by unfold far; omega)
  have:=Int.ofNat_le.mpr this
  simpa using this
 have h2:(2:Int)^far 1=2:=by decide
 have h3:0≤ofT c q:=Int.ediv_nonneg qN qN
 have h4:ofT c q*c≤1*2^far q:=Int.ediv_mul_le _ qN
 have h5:ofT c q*3≤ofT c q*c:=Int.mul_le_mul_of_nonneg_left hc.1 h3
 rw [h2]
 rcases ht with rfl | rfl <;> omega
theorem uK {c q:Int}:∀ t,t=ofT c q∨t=ofT c q+1→sz t 132:=by
 have h:sz (ofT c q) 131:=m6 ((fK (dR 1 qE)).mono qN)
 intro t ht
 rcases ht with rfl | rfl
 ·exact h.mono qE
 ·exact szAdd h ((dR 1 qE).mono qE)
theorem ofV_ok {S:Int→Int→Nat→P2} {c d q:Int} {n a:Nat} (h:(ofB S c q n).ok a) (hd:1≤d∧d≤1000):(ofV S c d q n).ok (a+1):=gC h (dR d qN)
theorem ofV_q (S:Int→Int→Nat→P2) (c d q:Int) (n:Nat):(ofV S c d q n).q=q:=fJ _ _
theorem cLn2 (q:Int) (hq:0≤q∧q≤900) (hok:(ofB dZ 3 (q+16) (nL (q+16))).ok 10000000):aY Tryz.prog 90 [.int .i64 q] [] (fun r os fs=>os=[]∧∃ x,r=.tuple #[x,.int .i64 0]∧fs=[(x,aN (cW q).lo (cW q).hi (cW q).q)]):=by
 have hq2:0≤q∧q≤2048:=⟨hq.1,by omega⟩
 have hn:1≤nL (q+16)∧nL (q+16)≤400:=by unfold nL; omega
 refine mV Tryz.func90 ?_
 refine aI (d:=aN 0 0 0) fun p1 hp1=>?_
 refine aL rfl qN ?_
 refine aL rfl qN ?_
 refine ar rfl qI ?_
 refine gH qN qN (by exact ⟨by omega,by omega⟩) ?_
 refine ar rfl qI ?_
 rw [show (q+16)/3+2=((nL (q+16):Nat):Int) by unfold nL; omega]
 refine cG (cOf 124 dZ 3 2 (q+16) (nL (q+16)) 10000000 qE qE qN qE qE (fun v t ht=>rAtanh v t (q+16) (nL (q+16)) 132 (uK t ht) qE qN hn (uL qE qN t ht).1 (uL qE qN t ht).2) hok) fun u1=>?_
 refine cF (bRecast u1 _ q 10000002 ((ofV_ok (d:=2) hok qE).mono qE) qE hq2) ?_
 rintro _ _ _ ⟨rfl,x9,rfl,rfl⟩
 refine aH (d:=aN (cW q).lo (cW q).hi (cW q).q) 0 rfl hp1 rfl qK (aA (d:=aN (cW q).lo (cW q).hi (cW q).q) qM) ?_
 refine aE (d:=aN (cW q).lo (cW q).hi (cW q).q) 0 rfl hp1 rfl (bR _ _ _) fun r2=>?_
 exact fin ⟨rfl,r2,rfl,rfl⟩ (dS (aD (fs':=[(r2,aN (cW q).lo (cW q).hi (cW q).q)]) qS))
theorem cPi (q:Int) (hq:0≤q∧q≤900) (hok:(ofB fF 5 (q+16) (nP (q+16))).ok 10000000) (hok2:(ofB fF 239 (q+16) (nP (q+16))).ok 10000000):aY Tryz.prog 241 [.int .i64 q] [] (fun r os fs=>os=[]∧∃ x,r=.tuple #[x,.int .i64 0]∧fs=[(x,aN (piB q).lo (piB q).hi (piB q).q)]):=by
 have hq2:0≤q∧q≤2048:=⟨hq.1,by omega⟩
 have hn:1≤nP (q+16)∧nP (q+16)≤400:=by unfold nP; omega
 refine mV Tryz.func241 ?_
 refine aI (d:=aN 0 0 0) fun p1 hp1=>?_
 refine aL rfl qN ?_
 refine aL rfl qN ?_
 refine ar rfl qI ?_
 refine gH qN qN (by exact ⟨by omega,by omega⟩) ?_
 refine ar rfl qI ?_
 rw [show (q+16)/9+2=((nP (q+16):Nat):Int) by unfold nP; omega]
 refine cG (cOf 244 fF 5 16 (q+16) (nP (q+16)) 10000000 qE qE qN qE qE (fun v t ht=>rAtan v t (q+16) (nP (q+16)) 132 (uK t ht) qE qN hn (uL qE qN t ht).1 (uL qE qN t ht).2) hok) fun u1=>?_
 refine gH qN qN (by exact ⟨by omega,by omega⟩) ?_
 refine ar rfl qI ?_
 rw [show (q+16)/9+2=((nP (q+16):Nat):Int) by unfold nP; omega]
 refine cG (cOf 244 fF 239 4 (q+16) (nP (q+16)) 10000000 qE qE qN qE qE (fun v t ht=>rAtan v t (q+16) (nP (q+16)) 132 (uK t ht) qE qN hn (uL qE qN t ht).1 (uL qE qN t ht).2) hok2) fun u2=>?_
 refine cF (bSub u1 u2 _ _ 10000001 (ofV_ok (d:=16) hok qE) (ofV_ok (d:=4) hok2 qE) qE (by rw [ofV_q,ofV_q])) ?_
 rintro _ _ _ ⟨rfl,x8,rfl,rfl⟩
 refine aI (d:=aN 0 0 0) fun p2 hp2=>?_
 refine aH (d:=aN (iV (ofV fF 5 16 (q+16) (nP (q+16))) (ofV fF 239 4 (q+16) (nP (q+16)))).lo (iV (ofV fF 5 16 (q+16) (nP (q+16))) (ofV fF 239 4 (q+16) (nP (q+16)))).hi (iV (ofV fF 5 16 (q+16) (nP (q+16))) (ofV fF 239 4 (q+16) (nP (q+16)))).q) 0 rfl hp2 rfl qK (aA (d:=aN (iV (ofV fF 5 16 (q+16) (nP (q+16))) (ofV fF 239 4 (q+16) (nP (q+16)))).lo (iV (ofV fF 5 16 (q+16) (nP (q+16))) (ofV fF 239 4 (q+16) (nP (q+16)))).hi (iV (ofV fF 5 16 (q+16) (nP (q+16))) (ofV fF 239 4 (q+16) (nP (q+16)))).q) qM) ?_
 refine aE (d:=aN (iV (ofV fF 5 16 (q+16) (nP (q+16))) (ofV fF 239 4 (q+16) (nP (q+16)))).lo (iV (ofV fF 5 16 (q+16) (nP (q+16))) (ofV fF 239 4 (q+16) (nP (q+16)))).hi (iV (ofV fF 5 16 (q+16) (nP (q+16))) (ofV fF 239 4 (q+16) (nP (q+16)))).q) 0 rfl hp2 rfl (bR _ _ _) fun u3=>?_
 refine cF (bRecast u3 _ q 10000002 (subB_ok (ofV_ok (d:=16) hok qE) (ofV_ok (d:=4) hok2 qE)) qE hq2) ?_
 rintro _ _ _ ⟨rfl,x9,rfl,rfl⟩
 refine aH (d:=aN (piB q).lo (piB q).hi (piB q).q) 1 rfl hp1 rfl qK (aA (d:=aN (piB q).lo (piB q).hi (piB q).q) qM) ?_
 refine aE (d:=aN (piB q).lo (piB q).hi (piB q).q) 1 rfl hp1 rfl (bR _ _ _) fun r4=>?_
 exact fin ⟨rfl,r4,rfl,rfl⟩ (dS (dS (aD (fs':=[(r4,aN (piB q).lo (piB q).hi (piB q).q)]) qS)))
theorem eMay0 (v:Value) (m e q:Int) (a:Nat) (h:DyOk m e a) (ha:a≤62) (hq:0≤q∧q≤800) (he : -1200≤e) (hm:m≠0) (hs:lgS m e≤9):aY Tryz.prog 89 [.int .i64 0,v,.int .i64 q] [(v,dyD m e)] (fun r os fs=>os=[]∧fs=[]∧r=.bool true):=by
 have hlg:=fun u=>dLog u m e a h qN
 rw [show logV m e=(lgS m e,true) from if_neg hm] at hlg
 refine mV Tryz.func89 ?_
 refine aQ (aA (d:=dyD m e) qM) fun p1 hp1=>?_
 refine aE (d:=dyD m e) 0 rfl hp1 rfl (cB _ _) fun u1=>?_
 refine cH (hlg u1) ?_
 refine aL rfl qN ?_
 refine aL rfl qN ?_
 refine aL rfl qN ?_
 refine aL rfl qN ?_
 refine aF 0 rfl hp1 ?_
 refine aB (u:=.int .i64 e) 0 rfl (aC (aG _)) ?_
 refine aL rfl qN ?_
 refine aL rfl qN ?_
 refine aL rfl qN ?_
 refine bG rfl qN ?_
 exact fin ⟨rfl,rfl,rfl⟩ (dS (aD (fs':=[]) qS))
theorem eMay1 (v:Value) (m e q:Int) (a:Nat) (h:DyOk m e a) (ha:a≤62) (hq:0≤q∧q≤800) (he : -1200≤e) (hm:m≠0) (hs:lgS m e≤9):aY Tryz.prog 89 [.int .i64 1,v,.int .i64 q] [(v,dyD m e)] (fun r os fs=>os=[]∧fs=[]∧r=.bool true):=by
 have hlg:=fun u=>dLog u m e a h qN
 rw [show logV m e=(lgS m e,true) from if_neg hm] at hlg
 refine mV Tryz.func89 ?_
 refine aQ (aA (d:=dyD m e) qM) fun p1 hp1=>?_
 refine aE (d:=dyD m e) 0 rfl hp1 rfl (cB _ _) fun u1=>?_
 refine cH (hlg u1) ?_
 refine aL rfl qN ?_
 refine aL rfl qN ?_
 refine aL rfl qN ?_
 refine aL rfl qN ?_
 refine aF 0 rfl hp1 ?_
 refine aB (u:=.int .i64 e) 0 rfl (aC (aG _)) ?_
 refine aL rfl qN ?_
 refine aL rfl qN ?_
 refine aL rfl qN ?_
 refine bG rfl qN ?_
 exact fin ⟨rfl,rfl,rfl⟩ (dS (aD (fs':=[]) qS))
theorem eMay2 (v:Value) (m e q:Int) (a:Nat) (h:DyOk m e a) (ha:a≤62) (hq:0≤q∧q≤800) (he : -1200≤e) (hp:0<m) (hs : -1100≤lgS m e∧lgS m e≤1100):aY Tryz.prog 89 [.int .i64 2,v,.int .i64 q] [(v,dyD m e)] (fun r os fs=>os=[]∧fs=[]∧r=.bool true):=by
 have hlg:=fun u=>dLog u m e a h qN
 rw [show logV m e=(lgS m e,true) from if_neg qN] at hlg
 refine mV Tryz.func89 ?_
 refine aQ (aA (d:=dyD m e) qM) fun p1 hp1=>?_
 refine aE (d:=dyD m e) 0 rfl hp1 rfl (cB _ _) fun u1=>?_
 refine cH (hlg u1) ?_
 refine aL rfl qN ?_
 refine aL rfl qN ?_
 refine aL rfl qN ?_
 refine aL rfl qN ?_
 refine aF 0 rfl hp1 ?_
 refine aB (u:=.int .i64 e) 0 rfl (aC (aG _)) ?_
 refine aL rfl qN ?_
 refine bG rfl qN ?_
 refine aE (d:=dyD m e) 0 rfl hp1 rfl (cB _ _) fun u2=>?_
 refine cH (dSign u2 m e a h qN) ?_
 refine bG rfl (by rw [Int.sign_eq_one_of_pos hp]; decide) ?_
 refine bG rfl qN ?_
 refine bG rfl qN ?_
 exact fin ⟨rfl,rfl,rfl⟩ (dS (aD (fs':=[]) qS))
theorem eMay3 (v:Value) (m e q:Int) (a:Nat) (h:DyOk m e a) (ha:a≤62) (hq:0≤q∧q≤800) (he : -1200≤e) (hp:0<m) (hs : -1100≤lgS m e∧lgS m e≤1100):aY Tryz.prog 89 [.int .i64 3,v,.int .i64 q] [(v,dyD m e)] (fun r os fs=>os=[]∧fs=[]∧r=.bool true):=by
 have hlg:=fun u=>dLog u m e a h qN
 rw [show logV m e=(lgS m e,true) from if_neg qN] at hlg
 refine mV Tryz.func89 ?_
 refine aQ (aA (d:=dyD m e) qM) fun p1 hp1=>?_
 refine aE (d:=dyD m e) 0 rfl hp1 rfl (cB _ _) fun u1=>?_
 refine cH (hlg u1) ?_
 refine aL rfl qN ?_
 refine aL rfl qN ?_
 refine aL rfl qN ?_
 refine aL rfl qN ?_
 refine aF 0 rfl hp1 ?_
 refine aB (u:=.int .i64 e) 0 rfl (aC (aG _)) ?_
 refine aL rfl qN ?_
 refine aL rfl qN ?_
 refine bG rfl qN ?_
 refine aE (d:=dyD m e) 0 rfl hp1 rfl (cB _ _) fun u2=>?_
 refine cH (dSign u2 m e a h qN) ?_
 refine bG rfl (by rw [Int.sign_eq_one_of_pos hp]; decide) ?_
 refine bG rfl qN ?_
 refine bG rfl qN ?_
 exact fin ⟨rfl,rfl,rfl⟩ (dS (aD (fs':=[]) qS))
theorem eMay4 (v:Value) (m e q:Int) (a:Nat) (h:DyOk m e a) (ha:a≤62) (hq:0≤q∧q≤800) (he : -1200≤e) (hm:m≠0) (hs:lgS m e≤9):aY Tryz.prog 89 [.int .i64 4,v,.int .i64 q] [(v,dyD m e)] (fun r os fs=>os=[]∧fs=[]∧r=.bool true):=by
 have hlg:=fun u=>dLog u m e a h qN
 rw [show logV m e=(lgS m e,true) from if_neg hm] at hlg
 refine mV Tryz.func89 ?_
 refine aQ (aA (d:=dyD m e) qM) fun p1 hp1=>?_
 refine aE (d:=dyD m e) 0 rfl hp1 rfl (cB _ _) fun u1=>?_
 refine cH (hlg u1) ?_
 refine aL rfl qN ?_
 refine aL rfl qN ?_
 refine aL rfl qN ?_
 refine aL rfl qN ?_
 refine aF 0 rfl hp1 ?_
 refine aB (u:=.int .i64 e) 0 rfl (aC (aG _)) ?_
 refine aL rfl qN ?_
 refine aL rfl qN ?_
 refine aL rfl qN ?_
 refine bG rfl qN ?_
 exact fin ⟨rfl,rfl,rfl⟩ (dS (aD (fs':=[]) qS))
theorem eMay5 (v:Value) (m e q:Int) (a:Nat) (h:DyOk m e a) (ha:a≤62) (hq:0≤q∧q≤800) (he : -1200≤e) (hm:m≠0) (hs:lgS m e≤9):aY Tryz.prog 89 [.int .i64 5,v,.int .i64 q] [(v,dyD m e)] (fun r os fs=>os=[]∧fs=[]∧r=.bool true):=by
 have hlg:=fun u=>dLog u m e a h qN
 rw [show logV m e=(lgS m e,true) from if_neg hm] at hlg
 refine mV Tryz.func89 ?_
 refine aQ (aA (d:=dyD m e) qM) fun p1 hp1=>?_
 refine aE (d:=dyD m e) 0 rfl hp1 rfl (cB _ _) fun u1=>?_
 refine cH (hlg u1) ?_
 refine aL rfl qN ?_
 refine aL rfl qN ?_
 refine aL rfl qN ?_
 refine aL rfl qN ?_
 refine aF 0 rfl hp1 ?_
 refine aB (u:=.int .i64 e) 0 rfl (aC (aG _)) ?_
 refine aL rfl qN ?_
 refine aL rfl qN ?_
 refine aL rfl qN ?_
 refine bG rfl qN ?_
 exact fin ⟨rfl,rfl,rfl⟩ (dS (aD (fs':=[]) qS))
def LeP (p o:P2):Prop:=0≤p.1∧p.1≤o.2
theorem pY {x y d:Int} (hd:0<d) (h:x≤y):x/d≤upz y d:=by
 unfold upz
 have h1:x/d*d≤x:=Int.ediv_mul_le _ qN
 have h2 : -y/d*d ≤ -y:=Int.ediv_mul_le _ qN
 have h3:(x/d + -y/d)*d≤0*d:=by rw [Int.add_mul,Int.zero_mul]; omega
 have:=Int.le_of_mul_le_mul_right h3 hd
 omega
theorem LeP.times {p o:P2} {t t' b:Int} (h:LeP p o) (h0:0≤t) (ht:t≤t') (hb:0<b) (q:Int):LeP (cC p t b q) (cC o t' b q):=by
 have hd:0<b*2^far q:=Int.mul_pos hb (Int.pow_pos qE)
 refine ⟨Int.ediv_nonneg (Int.mul_nonneg h.1 h0) (Int.le_of_lt hd),pY hd ?_⟩
 exact Int.mul_le_mul h.2 ht h0 (Int.le_trans h.1 h.2)
theorem LeP.plus {p o p' o':P2} (h:LeP p o) (h':LeP p' o'):LeP (mT p p') (mT o o'):=⟨Int.add_nonneg h.1 h'.1,Int.add_le_add h.2 h'.2⟩
theorem sC {next next':Nat→P2→P2} {f f':P2} (h0:LeP f f') (hs:∀ k p o,LeP p o→LeP (next (k+1) p) (next' (k+1) o)):∀ k,LeP (itN next f k) (itN next' f' k)
 | 0=>h0
 | k+1=>hs k _ _ (sC h0 hs k)
theorem smN_le {next next' term term':Nat→P2→P2} {f f':P2} (h0:LeP f f') (hs:∀ k p o,LeP p o→LeP (next (k+1) p) (next' (k+1) o)) (ht:∀ k p o,LeP p o→LeP (term k p) (term' k o)):∀ k,LeP (smN next term f k) (smN next' term' f' k)
 | 0=>⟨Int.le_refl _,Int.le_refl _⟩
 | k+1=>(smN_le h0 hs ht k).plus (ht k _ _ (sC h0 hs k))
theorem riseV_le {next next' term term':Nat→P2→P2} {f f':P2} (h0:LeP f f') (hs:∀ k p o,LeP p o→LeP (next (k+1) p) (next' (k+1) o)) (ht:∀ k p o,LeP p o→LeP (term k p) (term' k o)) (n:Nat) :
  LeP (mS next term f n) (mS next' term' f' n):=by
 have h1:=smN_le h0 hs ht n
 have h2:=ht n _ _ (sC h0 hs n)
 refine ⟨h1.1,Int.le_trans h1.2 ?_⟩
 have:0≤(term' n (itN next' f' n)).2*2^far 1:=Int.mul_nonneg (Int.le_trans h2.1 h2.2) (Int.le_of_lt (Int.pow_pos qE))
 show (smN next' term' f' n).2≤(smN next' term' f' n).2+(term' n (itN next' f' n)).2*2^far 1
 omega
theorem vU {t t':Int} (h0:0≤t) (h:t≤t') (q:Int) (n:Nat):LeP (dZ t q n) (dZ t' q n) :=
 riseV_le (next:=dP t q) (next':=dP t' q) (term:=fR) (term':=fR) ⟨h0,h⟩ (fun k p o hp=>(hp.times (Int.mul_nonneg h0 h0) (Int.mul_le_mul h h h0 (Int.le_trans h0 h)) qE _:LeP (cC p (t*t) 1 (2*q)) (cC o (t'*t') 1 (2*q))))
  (fun k p o hp=>(hp.times qE (Int.le_refl _) qN 0:LeP (cC p 1 (2*k+1) 0) (cC o 1 (2*k+1) 0))) n
theorem expV_le {t t':Int} (h0:0≤t) (h:t≤t') (q:Int) (n:Nat):LeP (rL t q n) (rL t' q n) :=
 riseV_le (next:=sO t q) (next':=sO t' q) (term:=fC) (term':=fC) ⟨Int.mul_nonneg qE (Int.le_of_lt (Int.pow_pos qE)),Int.le_refl _⟩ (fun k p o hp=>(hp.times h0 h qN q:LeP (cC p t (k+1:Nat) q) (cC o t' (k+1:Nat) q))) (fun _ _ _ hp=>hp) n
theorem atanhV_sz {t q:Int} {n a:Nat} (ht:sz t a) (ha:a≤1000) (hn:n≤400):szP (dZ t q n) 2000000:=by
 have hs:szP (smN (dP t q) fR (t,t) n) 1500000:=(smN_sz (e:=a) ⟨ht,ht⟩ (fun k p e hp=>eG hp (ht.mul ht) _ _) (fun k p e hp=>kD hp _) n).mono (by have:n*(a+a)≤400*2000:=Nat.mul_le_mul hn qN; omega)
 have hi:szP (itN (dP t q) (t,t) n) 1000000:=(oS (e:=a) ⟨ht,ht⟩ (fun k p e hp=>eG hp (ht.mul ht) _ _) n).mono (by have:n*(a+a)≤400*2000:=Nat.mul_le_mul hn qN; omega)
 exact ⟨hs.1.mono qE,(szAdd (hs.2.mono (show 1500000≤1500001 by decide)) ((fK (kD hi _).2).mono qE)).mono qE⟩
theorem pR {q:Int} {n:Nat} (hq:16≤q∧q≤1200) (hn:n≤400):(ofB dZ 3 q n).ok 10000000:=by
 have hT:=uL (c:=3) qE hq _ (Or.inl rfl)
 exact ⟨(vU hT.1 qN q n).2,by show 0≤q; omega,by show q≤2048; omega,(atanhV_sz (uK _ (Or.inl rfl)) qE hn).1.mono qE,(atanhV_sz (uK _ (Or.inr rfl)) qE hn).2.mono qE⟩
theorem cLn2' (q:Int) (hq:0≤q∧q≤900):aY Tryz.prog 90 [.int .i64 q] [] (fun r os fs=>os=[]∧∃ x,r=.tuple #[x,.int .i64 0]∧fs=[(x,aN (cW q).lo (cW q).hi (cW q).q)]) :=
 cLn2 q hq (pR qN (by unfold nL; omega))
theorem nat_and_two (a:Nat):a &&& 2=a/2%2*2:=by
 have h:(a &&& 2)/2=a/2 &&& 1:=Nat.and_div_two
 have h2:(a &&& 2)%2=0:=by
  have:=Nat.and_mod_two_pow (a:=a) (b:=2) (n:=1)
  simpa using this
 rw [Nat.and_one_is_mod] at h
 omega
theorem and_two {P:Program} {t:TypeId} {x y:Operand} {os:List Own} {fs:List bA} {K:cE} (a:Nat) {z:Int} (hz:z=(a:Int)) (ha:a<9223372036854775808)
  (h1:K (.int .i64 ((a/2%2*2:Nat):Int)) os fs):pC P .and t x y (.int .i64 z) (.int .i64 2) os fs K:=by
 subst hz
 refine ⟨dD _ (fun w=>?_) h1⟩
 have hb:(BitVec.ofInt 64 (a:Int) &&& BitVec.ofInt 64 2).toNat=a/2%2*2:=by
  rw [BitVec.toNat_and]
  have e1:(BitVec.ofInt 64 (a:Int)).toNat=a:=by rw [BitVec.toNat_ofInt]; omega
  have e2:(BitVec.ofInt 64 2).toNat=2^1:=by decide
  rw [e1,e2]
  exact nat_and_two a
 have hw:IntKind.i64.wrap ((a/2%2*2:Nat):Int)=((a/2%2*2:Nat):Int):=bT (by
  have:a/2%2<2:=Nat.mod_lt _ qE
  exact ⟨by omega,by omega⟩)
 have hd:∀ X Y:BitVec 64,(X &&& Y).toNat=a/2%2*2→IntKind.i64.wrap ((X &&& Y).toNat:Int)=((a/2%2*2:Nat):Int):=fun X Y h=>by rw [h,hw]
 simp only [eqGuard,binOp,Op.intBits,Sem.run_bind,Sem.run_pure,Result.andThen_ok,IntKind.bits,ne_eq,not_true,if_false]
 exact congrArg (fun n=>Result.ok (Value.int .i64 n) w) (hd _ _ hb)
theorem reads_agg1 {os:List Own} {fs:List bA} (x:Value) (hx:x.oneCell'=true:=by rfl):Reads os fs (.agg #[x]) (.one x):=fun G w hw=>⟨[x],⟨rfl,hx⟩,rfl⟩
def ordA (L:List Oper) (c:List Nat):Bool :=
 Nat.beq c.length L.length&&(List.range L.length).all (fun i=>c.any (Nat.beq i))&&pairsA L (iE L []) c
theorem ordA_sound {L:List Oper} {c:List Nat} (h:ordA L c=true):CheckedA L (iE L []) c:=by
 simp only [ordA,Bool.and_eq_true] at h
 obtain ⟨⟨_,h2⟩,h3⟩:=h
 obtain ⟨g1,g2,g3,g4⟩:=nH h3
 refine ⟨g1,fun i=>⟨g2 i,fun hi=>?_⟩,g3,g4⟩
 have:=List.all_eq_true.1 h2 i (by simpa using hi)
 obtain ⟨x,hx,hb⟩:=List.any_eq_true.1 this
 have:=Nat.eq_of_beq_eq_true hb
 subst this
 exact hx
theorem ord_ea {P:Program} {N:Nat} {L:List Oper} {f:Fr} {os:List Own} {fs:List bA} {K:jD} (c:List Nat) (hok:ordA L c=true) (hdst:eO N L=true) (hz:mX P L=true)
  (k:VCops P true L (g8 L c) f os fs K):OrdK P N L f os fs K:=by
 refine ⟨fun G Q hQ l hord a w hk hw'=>?_⟩
 have hc:=ordA_sound hok
 refine simEa (f0:=f) hc hdst hz hQ _ (fun _=>False) (vd:=[]) (c':=c) (val:=fun _=>undef) (vf:=f) (os:=os) (fs:=fs) ?_ (fun i=>by simpa using (hord.all i).symm) hord.nodup (fun _ _ h=>h) (fun pre i post hp j hj=>.inr (hord.before pre i post hp j hj))
 exact ⟨rfl,fun _ h=>h.elim,fun _ h=>h.elim,hk.defers,hk.size,fun t v ht=>hk.holds t v (by
  rcases ht with ⟨_,_,h,_⟩ | h
  ·exact h.elim
  ·exact h.1),fun t v ht=>.inr ⟨ht,fun j o hj=>by simp at hj⟩,fun k o hk=>by simp at hk,fun _ h=>h.elim,fun _ _ _ h=>h.elim,
  Holds.iff hw' (fun b=>⟨fun h1=>h1.elim (fun h=>h) fun ⟨x,i,o,t,z,g1,_⟩=>g1.elim,.inl⟩) fun b x hb=>hb.elim (fun h=>h) fun ⟨i,o,t,z,g1,_⟩=>g1.elim,k⟩
theorem oG {P:Program} {d:Bool} {f:Fr} {ty T:TypeId} {x:Operand} {v:Value} {desc:TypeDesc} {os:List Own} {fs:List bA} {K:cE} (hx:ev f x=some v) (hT:P.underlying T=some desc) (hd:(match desc with | .interface _=>true | _=>false)=false) (k:K (.iface T v) os fs) :
  OthK P d f ty (.makeInterface T x) os fs K:=by
 have hrun:∀ w,(val (Instr.makeInterface T v)).run P w=.ok (.value (.iface T v)) w:=fun w=>by
  refine dH ?_
  simp only [Instr.makeInterface,Sem.run_bind,run_underlying hT,Result.andThen_ok]
  cases desc <;> first | rfl | simp at hd
 have hdet:Det P (val (Instr.makeInterface T v)) os fs K:=fun G w hw=>⟨_,fs,fun w' _=>hrun w',k,hw⟩
 refine ⟨val (Instr.makeInterface T v),fun e o ho _ hev=>?_,hdet.grw.dyn,fun _=>hdet.grw,fun _=>hdet⟩
 unfold execOp
 simp only [ho,hev x v (by simp [Op.operands]) hx]
 rfl
theorem invoke_go {P:Program} {d:Bool} {f:Fr} {ty T:TypeId} {c:Call} {x:Operand} {name:String} {v:Value} {vs:List Value} {g:FuncId} {os:List Own} {fs:List bA} {K:cE} (hc:c.callee=.invoke x name) (hx:ev f x=some (.iface T v)) (ha:evs f c.args.toList=some vs)
  (hm:∀ w,(method (P.types.size+Made.depth) T v name).run P w=.ok (g,v) w) (h:CallK P d (.func (.func g) #[] #[]) (v::vs) os fs K):OthK P d f ty (.call c) os fs K:=by
 let s:Sem Next:=do let y ← (pure { target:=.fn (.method name) #[],args := #[.iface T v]++vs.toArray }:Sem Deferred); invoke y.target y.args
 let s':Sem Next:=do let y ← Deferred.ofValue (.func (.func g) #[] #[]) (v::vs).toArray; invoke y.target y.args
 have hrun:∀ w,s.run P w=s'.run P w:=fun w=>by
  have e1:(#[Value.iface T v]++vs.toArray)[0]? = some (.iface T v):=by simp
  have e2:(#[Value.iface T v]++vs.toArray).extract 1 (#[Value.iface T v]++vs.toArray).size=vs.toArray:=by simp
  have e3:s.run P w=(callFunc g (#[v]++vs.toArray)).run P w:=by
   simp only [s,pure_bind,invoke,e1,e2,callMethod,Sem.run_bind,run_program,Result.andThen_ok,hm]
  have e4:s'.run P w=(callFunc g (#[v]++vs.toArray)).run P w:=by
   simp [s',Deferred.ofValue,invoke]
  rw [e3,e4]
 refine ⟨s,fun e o ho _ hev=>?_,fun G w hw=>?_,fun hd G w hw=>?_,fun hh=>by cases hh⟩
 ·unfold execOp
  have k1:=hev x _ (by simp [Op.operands,Call.operands,hc]) hx
  have k2:c.args.toList.map e=vs:=by
   have:∀ {xs:List Operand} {vs:List Value},(∀ y,y∈xs→y∈(Op.call c).operands.toList)→evs f xs=some vs→xs.map e=vs:=by
    intro xs
    induction xs with
    | nil=>intro vs _ h; simp only [evs,Option.some.injEq] at h; simp [← h]
    | cons y r ih =>
     intro vs hy h
     simp only [evs] at h
     cases h1:ev f y with
     | none=>simp [h1] at h
     | some u =>
      cases h2:evs f r with
      | none=>simp [h1,h2] at h
      | some us =>
       simp only [h1,h2,Option.some.injEq] at h
       subst h
       simp [hev y u (hy y (List.mem_cons_self ..)) h1,ih (fun z hz=>hy z (List.mem_cons_of_mem _ hz)) h2]
   exact this (fun y hy=>by simp [Op.operands,Call.operands]; exact .inr (by simpa using hy)) ha
  simp only [ho,resolve,hc,k1,fI _ _ _ k2]
  rfl
 ·rw [hrun]; exact h.out G w hw
 ·rw [hrun]; exact h.grw hd G w hw
theorem lP {P:Program} {t:TypeId} {zs:List (List Value)} [ht:sJ P t zs] {os:List Own} {fs:List bA} {K:cE} (k:K (.agg zs.flatten.toArray) os fs):oV P t [] os fs K :=
 ⟨fun G w hw=>⟨_,fs,fun w' _=>dH (qJ ht [] (fun p hp=>by cases hp) w'),k,hw⟩⟩
theorem Holds.back {A:Nat→Prop} {B B':Nat} {w0 w0':World} {M:Nat→Obj→Prop} {D:(Nat→Prop)×List Deferred} {os:List Own} {fs:List bA} {w:World} (hB:B'≤B) (hb:Below B' w0' w0) (h:Holds ⟨A,B,w0,M,D⟩ os fs w):Holds ⟨A,B',w0',M,D⟩ os fs w :=
 ⟨h.low,Nat.le_trans hB h.size,hb.trans (h.below.mono hB),h.apart,fun o ho i hi=>(h.own o ho i hi).mono_B hB,h.facts,fun b o hm=>let ⟨k1,k2,k3⟩:=h.kept b o hm; ⟨Nat.le_trans hB k1,k2,k3⟩⟩
class T0 (P:Program) (T:TypeId):Prop where
 und:∃ fs f,P.underlying T=some (.struct fs)∧fs[0]? = some f∧f.offset=0∧f.byteOffset=0∧(P.info? f.type).map (·.size)=some 0
 cells:P.cellsOf T=0
theorem field0_run {P:Program} {T:TypeId} (hT:T0 P T) {r:Nat} {w:World} (h:w.heap[r]? = some (.cells #[] T (0,0))):(val (Instr.fieldAt T (ptr0 r 0) 0)).run P w=.ok (.value (ptr0 r 0)) w:=by
 obtain ⟨fs,f,h1,h2,h3,h4,h5⟩:=hT.und
 have hb:(byteOf ⟨r,0,none⟩).run P w=.ok 0 w:=by
  simp [byteOf,noView,viewAt,World.shape?,h,hT.cells]
 refine dH ?_
 simp only [Instr.fieldAt,Sem.run_bind,run_underlying h1,Result.andThen_ok,h2,Instr.sureAddr,ptr0,Sem.run_pure,fieldPlace,dB h5,partAt,if_true,h3,h4,hb,Nat.add_zero]
theorem meets_field0 {P:Program} {g:FuncId} {fn:Func} {i0 i1:Nat} {o0 o1:Oper} {l0 l1:List Oper} {c:Code} {T d0 d1:Nat} {x:Operand} {args:List Value} {fs:List bA} {R:Value→List Own→List bA→Prop}
  (hf : P.funcs[g]? = some fn) (hname : (fn.name == "runtime.NumGoroutine") = false) (hb : fn.body = some (.seq (.region i0 (o0 :: l0).toArray false) (.seq (.region i1 (o1 :: l1).toArray false) c))) (hn : args.length ≤ fn.ntmps) (hT : T0 P T)
  (q0:o0.op=.box T x∧o0.dst=some d0∧o0.guard=none) (q1:o1.op=.fieldAddr T (.tmp d0) 0∧o1.dst=some d1∧o1.guard=none) (hx:ev (argF 0 args) x=some (.agg #[]))
  (ok:(eO fn.ntmps (o0::l0)&&eO fn.ntmps (o1::l1)&&fH fn.ntmps c)=true)
  (h:∀ r,VCops P false (o0::l0) l0 (jS (argF 0 args) (some d0) (ptr0 r 0)) [] fs (fun f os fs=>look f d0=some (ptr0 r 0)∧VCops P false (o1::l1) l1 (jS f (some d1) (ptr0 r 0)) os fs (fun f os fs=>VC P fn.ntmps c f os fs (retQ P fn R)))):aY P g args fs R:=by
 simp only [Bool.and_eq_true] at ok
 obtain ⟨⟨ok0,ok1⟩,ok2⟩:=ok
 simp only [eO,Bool.and_eq_true] at ok0 ok1
 refine ⟨fun av w=>?_,fun A w hA hfs=>?_⟩
 ·simp only [callFunc,Sem.run_bind,run_program,Result.andThen_ok,hf,hname,hb]
  rfl
 refine jZ (G:=⟨A,w.heap.size,w,noO,noM⟩) hf hb ?_ fun v w1 ⟨os1,fs1,h1,h2⟩=>⟨v,os1,fs1,rfl,h1,h2⟩
 have hk0:=rI (A:=A) (w:=w) (fn:=fn) (args:=args) hn
 have hw0:=mE hA hfs noM
 let w1:=w.alloc (.cells #[] T (0,0))
 have hr1:w1.heap[w.heap.size]? = some (.cells #[] T (0,0)):=World.alloc_heap_new w _
 have hs1:w1.heap.size=w.heap.size+1:=by simp [w1]
 have hb1:Below w.heap.size w w1:=(Below.refl _ _).alloc (Nat.le_refl _) _
 have hw1:Holds ⟨A,w1.heap.size,w1,noO,noM⟩ [] fs w1:=mE (fun b hb=>by have:=hA b hb; omega) (hfs.mono (fun b hb=>hb1.block b hb.1) fun b ⟨k1,k2⟩=>⟨by omega,k2⟩) noM
 have back:∀ {os fs w2 M D},Holds ⟨A,w1.heap.size,w1,M,D⟩ os fs w2→Holds ⟨A,w.heap.size,w,M,D⟩ os fs w2:=fun hh=>hh.back qN hb1
 have backQ:∀ {Q:iX} {e a w2},Qhat fn.ntmps ⟨A,w1.heap.size,w1,noO,noM⟩ Q e a w2→Qhat fn.ntmps ⟨A,w.heap.size,w,noO,noM⟩ Q e a w2:=by
  rintro Q e a w2 ⟨G',⟨X,M,D,rfl,h1,h2,h3⟩,f,os,fs,hk,hw,hq⟩
  exact ⟨⟨A,w.heap.size,w,M,(D,[])⟩,⟨X,M,D,rfl,h1,h2,h3⟩,f,os,fs,⟨hk.defers,hk.size,hk.holds⟩,back hw,hq⟩
 have hk1:Knows ⟨A,w1.heap.size,w1,noO,noM⟩ fn.ntmps (argF 0 args) { tmps:=args.toArray++Array.replicate (fn.ntmps - args.toArray.size) undef,defers:=[] }:=⟨hk0.defers,hk0.size,hk0.holds⟩
 generalize ({ tmps:=args.toArray++Array.replicate (fn.ntmps - args.toArray.size) undef,defers:=[] }:Act)=a at hk1 ⊢
 clear hk0 hw0
 have hd0:rM fn.ntmps (some d0)=true:=by rw [← q0.2.1]; exact ok0.1
 have hd1:rM fn.ntmps (some d1)=true:=by rw [← q1.2.1]; exact ok1.1
 refine wpIn_seq (wpR_list ?_)
 unfold iY
 rw [if_pos (by simp [Region.wanted,q0.2.2])]
 left
 unfold Oper.wpA
 have e0:(execOp a.eval o0).run P w=.ok (.value (ptr0 w.heap.size 0)) w1:=by
  simp only [execOp,q0.1,hk1.ev hx]
  simp [Instr.box,newVar,newRow,ptr0,w1,Value.cells]
 rw [e0]
 simp only [uponA]
 have k1:=hk1.put hd0 (ptr0 w.heap.size 0)
 have key:=VCops.sound (P:=P) (N:=fn.ntmps) (ops:=(o0::l0).toArray) (d:=false) (G:=⟨A,w1.heap.size,w1,noO,noM⟩) (Q:=fun e=>match e with | .normal=>fun f os fs=>look f d0=some (ptr0 w.heap.size 0)∧VCops P false (o1::l1) l1 (jS f (some d1) (ptr0 w.heap.size 0)) os fs (fun f os fs=>VC P fn.ntmps c f os fs (retQ P fn R)) | _=>fun _ _ _=>False) l0 _ [] fs ok0.2 (by simpa using h w.heap.size) _ w1 k1 hw1
 refine kS (fun e a2 w2 hq=>?_) l0 _ w1 (by rw [q0.2.1]; exact key)
 obtain ⟨G2,hx2,f2,os2,fs2,hk2,hw2,hq2⟩:=hq
 cases e with
 | normal =>
  obtain ⟨hlk,hv⟩:=hq2
  obtain ⟨X2,M2,D2,rfl,_,_,_⟩:=id hx2
  have hr2:w2.heap[w.heap.size]? = some (.cells #[] T (0,0)):=(hw2.below.block _ (by show w.heap.size<w1.heap.size; omega)).trans hr1
  refine wpIn_seq (wpR_list ?_)
  unfold iY
  rw [if_pos (by simp [Region.wanted,q1.2.2])]
  left
  unfold Oper.wpA
  have e1:(execOp a2.eval o1).run P w2=.ok (.value (ptr0 w.heap.size 0)) w2:=by
   have:=field0_run hT hr2
   simp only [execOp,q1.1,hk2.ev (x:=.tmp d0) hlk]
   exact this
  rw [e1]
  simp only [uponA]
  have k2:=hk2.put hd1 (ptr0 w.heap.size 0)
  have key2:=VCops.sound (P:=P) (N:=fn.ntmps) (ops:=(o1::l1).toArray) (d:=false) (Q:=fun e=>match e with | .normal=>fun f os fs=>VC P fn.ntmps c f os fs (retQ P fn R) | _=>fun _ _ _=>False) l1 _ os2 fs2 ok1.2 (by simpa using hv) _ w2 k2 hw2
  refine kS (fun e a3 w3 hq=>?_) l1 _ w2 (by rw [q1.2.1]; exact key2)
  obtain ⟨G3,hx3,f3,os3,fs3,hk3,hw3,hq3⟩:=hq
  cases e with
  | normal=>exact wpIn_mono (VC.soundR (r:=none) c G3 f3 os3 fs3 _ ok2 (.inl rfl) hq3 a3 w3 hk3 hw3) fun e a4 w4 h4=>backQ ((h4.ext hx3).ext hx2)
  | exit id=>exact hq3.elim
  | goto l=>exact hq3.elim
  | ret=>exact hq3.elim
  | panic ch=>exact hq3.elim
  | outgrown=>exact hq3.elim
 | exit id=>exact hq2.elim
 | goto l=>exact hq2.elim
 | ret=>exact hq2.elim
 | panic ch=>exact hq2.elim
 | outgrown=>exact hq2.elim
theorem tC {x y:Operand} {os:List Own} {fs:List bA} {K:cE} (a b:Bool) (h:K (.bool (a != b)) os fs):pC Tryz.prog .neq 4 x y (.bool a) (.bool b) os fs K :=
 ⟨dD _ (fun w=>nV Tryz.underlying4 a b w) h⟩
def nW (q:Int):Nat:=(q/8+6).toNat
def wvH (q:Int):Bal:=shiftB (piB q) (-1)
def wvK (m e q:Int):Int:=(bZ m e q).lo/(wvH q).hi
def wvR (m e q:Int):Bal:=iV (bZ m e q) (b8 (wvH q) (wvK m e q))
def wvS (m e q w:Int):P2:=if ((wvK m e q+w).toNat%2:Nat)=1 then lS (wvR m e q).lo q (nW q) else oZ (wvR m e q).lo q (nW q)
def wvB (m e q w:Int):Bal:=⟨(wvS m e q w).1 - ((wvR m e q).hi - (wvR m e q).lo),(wvS m e q w).2+((wvR m e q).hi - (wvR m e q).lo),q⟩
def dW (m e q w:Int):Bal:=if (wvK m e q+w).toNat/2%2=1 then b8 (wvB m e q w) (-1) else wvB m e q w
set_option maxHeartbeats 1600000 in
theorem eWaveAt (v u:Value) (m e w:Int) (L:Bal) (a:Nat) (h:DyOk m e a) (hL:L.ok a) (ha:a≤62) (hq:L.q≤900) (hw:0≤w∧w≤1) (hp:0<m)
  (hpi:aY Tryz.prog 241 [.int .i64 L.q] [] (fun r os fs=>os=[]∧∃ x,r=.tuple #[x,.int .i64 0]∧fs=[(x,aN (piB L.q).lo (piB L.q).hi (piB L.q).q)])) (hpo:(piB L.q).ok 500) (hH:0<(wvH L.q).lo) (hHo:(wvH L.q).ok 700)
  (hP0:0≤(bZ m e L.q).lo) (hK:wvK m e L.q<4611686018427387904) (hR:(wvR m e L.q).ok 90000) (h0:0≤(wvR m e L.q).lo) (h4:(wvR m e L.q).lo*2^far 1≤4*2^far L.q)
  (hszrSin:szP (oZ (wvR m e L.q).lo L.q (nW L.q)) 1000000000) (hszrCos:szP (lS (wvR m e L.q).lo L.q (nW L.q)) 1000000000) (hB:(wvB m e L.q w).ok 1000) :
  aY Tryz.prog 239 [.agg #[.int .i64 w],v,u] [(v,dyD m e),(u,aN L.lo L.hi L.q)] (fun r os fs=>os=[]∧∃ x,r=.tuple #[x,.int .i64 0]∧fs=[(x,aN (dW m e L.q w).lo (dW m e L.q w).hi (dW m e L.q w).q)]):=by
 have hLq:0≤L.q∧L.q≤2048:=⟨hL.q0,hL.q1⟩
 have hHh:0<(wvH L.q).hi:=by have:=hHo.le; omega
 have hK0:0≤wvK m e L.q:=Int.ediv_nonneg hP0 (Int.le_of_lt hHh)
 have hPo:(bZ m e L.q).ok 1000:=(lJ h.sm hLq).mono qN
 have hT:(b8 (wvH L.q) (wvK m e L.q)).ok 1000:=(gC hHo (dR (wvK m e L.q) qN)).mono qE
 have hn:1≤nW L.q∧nW L.q≤400:=by unfold nW; omega
 refine mV Tryz.func239 ?_
 refine aQ (reads_agg1 _) fun p1 hp1=>?_
 refine aQ (aA (d:=dyD m e) qM) fun p2 hp2=>?_
 refine aQ (aA (d:=aN L.lo L.hi L.q) qM) fun p3 hp3=>?_
 refine aI (d:=aN 0 0 0) fun p4 hp4=>?_
 refine aF 1 rfl hp3 ?_
 refine bM hp3 ?_
 refine aB (u:=.int .i64 L.q) 1 rfl (aC (aC (aG _))) ?_
 refine aE (d:=dyD m e) 2 rfl hp2 rfl (cB _ _) fun u1=>?_
 refine cH (dSign u1 m e a h qN) ?_
 refine aL rfl (by rw [Int.sign_eq_one_of_pos hp]; decide) ?_
 refine cF (hpi) ?_
 rintro _ _ _ ⟨rfl,x1,rfl,rfl⟩
 refine aI (d:=aN 0 0 0) fun p5 hp5=>?_
 refine aH (d:=aN (piB L.q).lo (piB L.q).hi (piB L.q).q) 0 rfl hp5 rfl qK (aA (d:=aN (piB L.q).lo (piB L.q).hi (piB L.q).q) qM) ?_
 refine aE (d:=aN (piB L.q).lo (piB L.q).hi (piB L.q).q) 0 rfl hp5 rfl (bR _ _ _) fun u2=>?_
 refine cF (bShift u2 (piB L.q) (-1) 500 hpo qE qE) ?_
 rintro _ _ _ ⟨rfl,x2,rfl,rfl⟩
 refine aH (d:=aN (wvH L.q).lo (wvH L.q).hi (wvH L.q).q) 0 rfl hp5 rfl qK (aA (d:=aN (wvH L.q).lo (wvH L.q).hi (wvH L.q).q) qM) ?_
 refine draw_join (X:=Value×Value) (fun z=>([(3,p1),(6,p4),(7,.int .i64 0),(8,.int .i64 L.q),(9,.bool false),(12,z.2),(13,z.1)],[bL z.1 5 1 (fun _=>aN (wvH L.q).lo (wvH L.q).hi (wvH L.q).q),bL z.2 5 1 (fun _=>aN (bZ m e L.q).lo (bZ m e L.q).hi (bZ m e L.q).q),bL p5 5 1 (fun _=>aN (wvH L.q).lo (wvH L.q).hi (wvH L.q).q),bL p4 5 1 (fun _=>aN 0 0 0),bL p3 5 1 (fun _=>aN L.lo L.hi L.q),bL p2 3 1 (fun _=>dyD m e),bL p1 1 1 (fun _=>.one (.int .i64 w))],[])) (fun z=>g9 z.1∧g9 z.2) ?_ ?_
 ·refine eT [0,1,2,5,6,7,3,4,8] qK ?_
  refine cL 3 7 qK qK qK ?_ ?_
  ·refine cL 4 7 qK qK qK ?_ ?_
   ·refine ord_ea [0,1,3,4,2,5,6,7,8] qK qK qK ?_
    refine aE (d:=dyD m e) 3 rfl hp2 rfl (cB _ _) fun u3=>?_
    refine aE (d:=aN (wvH L.q).lo (wvH L.q).hi (wvH L.q).q) 0 rfl hp5 rfl (bR _ _ _) fun u4=>?_
    refine fX (d:=aN (wvH L.q).lo (wvH L.q).hi (wvH L.q).q) qM fun u5=>?_
    refine cG (eOf u3 m e a h L.q qN hLq) fun u6=>?_
    refine aI (d:=aN 0 0 0) fun p6 hp6=>?_
    refine aI (d:=aN 0 0 0) fun p7 hp7=>?_
    refine aH (d:=aN (bZ m e L.q).lo (bZ m e L.q).hi (bZ m e L.q).q) 1 rfl hp6 rfl qK (aA (d:=aN (bZ m e L.q).lo (bZ m e L.q).hi (bZ m e L.q).q) qM) ?_
    refine aH (d:=aN (wvH L.q).lo (wvH L.q).hi (wvH L.q).q) 0 rfl hp7 rfl qK (aA (d:=aN (wvH L.q).lo (wvH L.q).hi (wvH L.q).q) qM) ?_
    exact bB ⟨p7,p6⟩ ⟨hp7,hp6⟩ trivial qF (aD qS)
   ·refine k7 0 7 4 qK ?_
    refine k7 1 7 4 qK ?_
    refine k7 2 7 4 qK ?_
    refine k7 5 7 4 qK ?_
    refine k7 6 7 4 qK ?_
    refine ord_ea [0,1,3,2,5,6,7,4,8] qK qK qK ?_
    refine aE (d:=dyD m e) 3 rfl hp2 rfl (cB _ _) fun u3=>?_
    refine aE (d:=aN (wvH L.q).lo (wvH L.q).hi (wvH L.q).q) 0 rfl hp5 rfl (bR _ _ _) fun u4=>?_
    refine cG (eOf u3 m e a h L.q qN hLq) fun u5=>?_
    refine aI (d:=aN 0 0 0) fun p6 hp6=>?_
    refine aI (d:=aN 0 0 0) fun p7 hp7=>?_
    refine aH (d:=aN (bZ m e L.q).lo (bZ m e L.q).hi (bZ m e L.q).q) 1 rfl hp6 rfl qK (aA (d:=aN (bZ m e L.q).lo (bZ m e L.q).hi (bZ m e L.q).q) qM) ?_
    refine fX (d:=aN (wvH L.q).lo (wvH L.q).hi (wvH L.q).q) qM fun u6=>?_
    refine aH (d:=aN (wvH L.q).lo (wvH L.q).hi (wvH L.q).q) 0 rfl hp7 rfl qK (aA (d:=aN (wvH L.q).lo (wvH L.q).hi (wvH L.q).q) qM) ?_
    exact bB ⟨p7,p6⟩ ⟨hp7,hp6⟩ trivial qF (aD qS)
  ·refine k7 0 7 3 qK ?_
   refine k7 1 7 3 qK ?_
   refine k7 2 7 3 qK ?_
   refine k7 5 7 3 qK ?_
   refine k7 6 7 3 qK ?_
   refine ord_ea [0,1,2,5,6,7,3,4,8] qK qK qK ?_
   refine aE (d:=dyD m e) 3 rfl hp2 rfl (cB _ _) fun u3=>?_
   refine cG (eOf u3 m e a h L.q qN hLq) fun u4=>?_
   refine aI (d:=aN 0 0 0) fun p6 hp6=>?_
   refine aI (d:=aN 0 0 0) fun p7 hp7=>?_
   refine aH (d:=aN (bZ m e L.q).lo (bZ m e L.q).hi (bZ m e L.q).q) 1 rfl hp6 rfl qK (aA (d:=aN (bZ m e L.q).lo (bZ m e L.q).hi (bZ m e L.q).q) qM) ?_
   refine aE (d:=aN (wvH L.q).lo (wvH L.q).hi (wvH L.q).q) 2 rfl hp5 rfl (bR _ _ _) fun u5=>?_
   refine fX (d:=aN (wvH L.q).lo (wvH L.q).hi (wvH L.q).q) qM fun u6=>?_
   refine aH (d:=aN (wvH L.q).lo (wvH L.q).hi (wvH L.q).q) 0 rfl hp7 rfl qK (aA (d:=aN (wvH L.q).lo (wvH L.q).hi (wvH L.q).q) qM) ?_
   exact bB ⟨p7,p6⟩ ⟨hp7,hp6⟩ trivial qF (aD qS)
 rintro ⟨p7,p6⟩ ⟨hp7,hp6⟩
 dsimp only at hp7 hp6 ⊢
 refine aF 1 rfl hp6 ?_
 refine bM hp6 ?_
 refine aK (d:=zd ((bZ m e L.q).lo)) 1 rfl (aJ (aG _)) (aR _) fun u7=>?_
 refine aF 0 rfl hp7 ?_
 refine bM hp7 ?_
 refine aK (d:=zd ((wvH L.q).hi)) 0 rfl (aC (aJ (aG _))) (aR _) fun u8=>?_
 refine cH (eDown u7 u8 (bZ m e L.q).lo (wvH L.q).hi 1000 hPo.slo (hHo.shi.mono qE) qE hHh ⟨Int.le_trans qE hK0,Int.lt_trans hK qE⟩) ?_
 rw [show (bZ m e L.q).lo/(wvH L.q).hi=wvK m e L.q from rfl]
 refine fN [0,1,2,3,4,5,6] [0,1,2,3,4,5,6] qK qK qK ?_
 refine aE (d:=aN (bZ m e L.q).lo (bZ m e L.q).hi (bZ m e L.q).q) 1 rfl hp6 rfl (cY _ _ _) fun u9=>?_
 refine aE (d:=aN (wvH L.q).lo (wvH L.q).hi (wvH L.q).q) 0 rfl hp7 rfl (cY _ _ _) fun u10=>?_
 refine cG (vB u10 (wvH L.q) (wvK m e L.q) 999 (hHo.mono qE) qE qE ⟨Int.le_trans qE hK0,Int.lt_trans hK qE⟩) fun u11=>?_
 refine cG (eLess u9 u11 (bZ m e L.q) (b8 (wvH L.q) (wvK m e L.q)) 1000 hPo hT qE (by rw [fJ]; rfl)) fun u12=>?_
 refine aI (d:=aN 0 0 0) fun p8 hp8=>?_
 refine aH (d:=aN (wvR m e L.q).lo (wvR m e L.q).hi (wvR m e L.q).q) 0 rfl hp8 rfl qK (aA (d:=aN (wvR m e L.q).lo (wvR m e L.q).hi (wvR m e L.q).q) qM) ?_
 refine aF 7 rfl hp1 ?_
 refine aB (u:=.int .i64 w) 7 rfl (aG _) ?_
 refine ar rfl qI ?_
 refine vX (wvK m e L.q+w).toNat 1 2 qN rfl rfl qN qE ?_
 refine aO ((((wvK m e L.q+w).toNat%2:Nat):Int)=1) rfl (fun hc=>?_) (fun hc=>?_)
 ·have hsv:wvS m e L.q w=(lS (wvR m e L.q).lo L.q (nW L.q)):=if_pos qN
  refine aF 0 rfl hp8 ?_
  refine bM hp8 ?_
  refine aK (d:=zd ((wvR m e L.q).lo)) 0 rfl (aJ (aG _)) (aR _) fun u13=>?_
  refine gH qN qN (by exact ⟨by omega,by omega⟩) ?_
  refine ar rfl qI ?_
  rw [show L.q/8+6=((nW L.q:Nat):Int) by unfold nW; omega]
  refine cF (rCos u13 (wvR m e L.q).lo L.q (nW L.q) 90000 hR.slo qE ⟨hL.q0,by omega⟩ hn h0 h4) ?_
  rintro _ _ _ ⟨rfl,x5,y5,rfl,rfl⟩
  skip
  refine aI (d:=zd 0) fun p9 hp9=>?_
  refine aI (d:=zd 0) fun p10 hp10=>?_
  refine aH (d:=zd ((lS (wvR m e L.q).lo L.q (nW L.q)).1)) 1 rfl hp9 rfl qK (aA (d:=zd ((lS (wvR m e L.q).lo L.q (nW L.q)).1)) qM) ?_
  refine aH (d:=zd ((lS (wvR m e L.q).lo L.q (nW L.q)).2)) 0 rfl hp10 rfl qK (aA (d:=zd ((lS (wvR m e L.q).lo L.q (nW L.q)).2)) qM) ?_
  refine aF 2 rfl hp8 ?_
  refine bM hp8 ?_
  refine aK (d:=zd ((wvR m e L.q).hi)) 2 rfl (aC (aJ (aG _))) (aR _) fun u14=>?_
  refine aF 2 rfl hp8 ?_
  refine bM hp8 ?_
  refine aK (d:=zd ((wvR m e L.q).lo)) 2 rfl (aJ (aG _)) (aR _) fun u15=>?_
  refine cG (tN u14 u15 _ _ 90000 90000 hR.shi hR.slo qE qE) fun u16=>?_
  refine aI (d:=zd 0) fun p11 hp11=>?_
  refine aH (d:=zd ((wvR m e L.q).hi - (wvR m e L.q).lo)) 0 rfl hp11 rfl qK (aA (d:=zd ((wvR m e L.q).hi - (wvR m e L.q).lo)) qM) ?_
  refine fN [0,1,3,4,6,2,5,7,8,9,10] [0,1,2,3,4,5,6,7,8,9,10] qK qK qK ?_
  refine aE (d:=zd ((lS (wvR m e L.q).lo L.q (nW L.q)).1)) 2 rfl hp9 rfl (aR _) fun u17=>?_
  refine aE (d:=zd ((wvR m e L.q).hi - (wvR m e L.q).lo)) 0 rfl hp11 rfl (aR _) fun u18=>?_
  refine aE (d:=zd ((lS (wvR m e L.q).lo L.q (nW L.q)).2)) 1 rfl hp10 rfl (aR _) fun u19=>?_
  refine aE (d:=zd ((wvR m e L.q).hi - (wvR m e L.q).lo)) 0 rfl hp11 rfl (aR _) fun u20=>?_
  refine cG (tN u17 u18 _ _ 1000000000 90001 (hszrCos.1) (mN hR.shi hR.slo) qE qE) fun u21=>?_
  refine cG (zAddZ u19 u20 _ _ 1000000000 90001 (hszrCos.2) (mN hR.shi hR.slo) qE qE) fun u22=>?_
  refine dE [zd ((lS (wvR m e L.q).lo L.q (nW L.q)).1 - ((wvR m e L.q).hi - (wvR m e L.q).lo)),zd ((lS (wvR m e L.q).lo L.q (nW L.q)).2+((wvR m e L.q).hi - (wvR m e L.q).lo)),.one (.int .i64 L.q)] (by exact ⟨⟨aA qM,rfl⟩,⟨aA qM,rfl⟩,⟨dC rfl,rfl⟩,trivial⟩) fun x6=>?_
  rw [show catL [zd ((lS (wvR m e L.q).lo L.q (nW L.q)).1 - ((wvR m e L.q).hi - (wvR m e L.q).lo)),zd ((lS (wvR m e L.q).lo L.q (nW L.q)).2+((wvR m e L.q).hi - (wvR m e L.q).lo)),.one (.int .i64 L.q)]=aN (wvB m e L.q w).lo (wvB m e L.q w).hi (wvB m e L.q w).q from by unfold wvB; rw [hsv]; rfl]
  refine fX (d:=aN (wvB m e L.q w).lo (wvB m e L.q w).hi (wvB m e L.q w).q) qM fun u23=>?_
  refine aI (d:=aN 0 0 0) fun p12 hp12=>?_
  refine aH (d:=aN (wvB m e L.q w).lo (wvB m e L.q w).hi (wvB m e L.q w).q) 0 rfl hp12 rfl qK (aA (d:=aN (wvB m e L.q w).lo (wvB m e L.q w).hi (wvB m e L.q w).q) qM) ?_
  refine and_two (wvK m e L.q+w).toNat qN qN ?_
  refine aO ((((wvK m e L.q+w).toNat/2%2*2:Nat):Int)≠0) rfl (fun hd=>?_) (fun hd=>?_)
  ·have hz:dW m e L.q w=b8 (wvB m e L.q w) (-1):=if_pos qN
   refine tC true false ?_
   refine aE (d:=aN (wvB m e L.q w).lo (wvB m e L.q w).hi (wvB m e L.q w).q) 0 rfl hp12 rfl (cY _ _ _) fun u24=>?_
   refine cG (vB u24 (wvB m e L.q w) (-1) 1000 hB qE qE qE) fun u25=>?_
   rw [← hz]
   refine aH (d:=aN (dW m e L.q w).lo (dW m e L.q w).hi (dW m e L.q w).q) 0 rfl hp12 rfl qK (aA (d:=aN (dW m e L.q w).lo (dW m e L.q w).hi (dW m e L.q w).q) qM) ?_
   refine aE (d:=aN (dW m e L.q w).lo (dW m e L.q w).hi (dW m e L.q w).q) 0 rfl hp12 rfl (cY _ _ _) fun u26=>?_
   refine aH (d:=aN (dW m e L.q w).lo (dW m e L.q w).hi (dW m e L.q w).q) 8 rfl hp4 rfl qK (aA (d:=aN (dW m e L.q w).lo (dW m e L.q w).hi (dW m e L.q w).q) qM) ?_
   refine aE (d:=aN (dW m e L.q w).lo (dW m e L.q w).hi (dW m e L.q w).q) 8 rfl hp4 rfl (cY _ _ _) fun r27=>?_
   exact fin ⟨rfl,r27,rfl,rfl⟩ (dS (dS (dS (dS (dS (dS (dS (dS (dS (dS (dS (dS (aD (fs':=[(r27,aN (dW m e L.q w).lo (dW m e L.q w).hi (dW m e L.q w).q)]) qS)))))))))))))
  ·have hz:dW m e L.q w=wvB m e L.q w:=if_neg qN
   rw [hz]
   refine tC false false ?_
   refine aE (d:=aN (wvB m e L.q w).lo (wvB m e L.q w).hi (wvB m e L.q w).q) 0 rfl hp12 rfl (cY _ _ _) fun u24=>?_
   refine aH (d:=aN (wvB m e L.q w).lo (wvB m e L.q w).hi (wvB m e L.q w).q) 8 rfl hp4 rfl qK (aA (d:=aN (wvB m e L.q w).lo (wvB m e L.q w).hi (wvB m e L.q w).q) qM) ?_
   refine aE (d:=aN (wvB m e L.q w).lo (wvB m e L.q w).hi (wvB m e L.q w).q) 8 rfl hp4 rfl (cY _ _ _) fun r25=>?_
   exact fin ⟨rfl,r25,rfl,rfl⟩ (dS (dS (dS (dS (dS (dS (dS (dS (dS (dS (dS (dS (aD (fs':=[(r25,aN (wvB m e L.q w).lo (wvB m e L.q w).hi (wvB m e L.q w).q)]) qS)))))))))))))
 ·have hsv:wvS m e L.q w=(oZ (wvR m e L.q).lo L.q (nW L.q)):=if_neg qN
  refine aF 0 rfl hp8 ?_
  refine bM hp8 ?_
  refine aK (d:=zd ((wvR m e L.q).lo)) 0 rfl (aJ (aG _)) (aR _) fun u13=>?_
  refine gH qN qN (by exact ⟨by omega,by omega⟩) ?_
  refine ar rfl qI ?_
  rw [show L.q/8+6=((nW L.q:Nat):Int) by unfold nW; omega]
  refine cF (rSin u13 (wvR m e L.q).lo L.q (nW L.q) 90000 hR.slo qE ⟨hL.q0,by omega⟩ hn h0 h4) ?_
  rintro _ _ _ ⟨rfl,x5,y5,rfl,rfl⟩
  skip
  refine aI (d:=zd 0) fun p9 hp9=>?_
  refine aI (d:=zd 0) fun p10 hp10=>?_
  refine aH (d:=zd ((oZ (wvR m e L.q).lo L.q (nW L.q)).1)) 1 rfl hp9 rfl qK (aA (d:=zd ((oZ (wvR m e L.q).lo L.q (nW L.q)).1)) qM) ?_
  refine aH (d:=zd ((oZ (wvR m e L.q).lo L.q (nW L.q)).2)) 0 rfl hp10 rfl qK (aA (d:=zd ((oZ (wvR m e L.q).lo L.q (nW L.q)).2)) qM) ?_
  refine aF 2 rfl hp8 ?_
  refine bM hp8 ?_
  refine aK (d:=zd ((wvR m e L.q).hi)) 2 rfl (aC (aJ (aG _))) (aR _) fun u14=>?_
  refine aF 2 rfl hp8 ?_
  refine bM hp8 ?_
  refine aK (d:=zd ((wvR m e L.q).lo)) 2 rfl (aJ (aG _)) (aR _) fun u15=>?_
  refine cG (tN u14 u15 _ _ 90000 90000 hR.shi hR.slo qE qE) fun u16=>?_
  refine aI (d:=zd 0) fun p11 hp11=>?_
  refine aH (d:=zd ((wvR m e L.q).hi - (wvR m e L.q).lo)) 0 rfl hp11 rfl qK (aA (d:=zd ((wvR m e L.q).hi - (wvR m e L.q).lo)) qM) ?_
  refine fN [0,1,3,4,6,2,5,7,8,9,10] [0,1,2,3,4,5,6,7,8,9,10] qK qK qK ?_
  refine aE (d:=zd ((oZ (wvR m e L.q).lo L.q (nW L.q)).1)) 2 rfl hp9 rfl (aR _) fun u17=>?_
  refine aE (d:=zd ((wvR m e L.q).hi - (wvR m e L.q).lo)) 0 rfl hp11 rfl (aR _) fun u18=>?_
  refine aE (d:=zd ((oZ (wvR m e L.q).lo L.q (nW L.q)).2)) 1 rfl hp10 rfl (aR _) fun u19=>?_
  refine aE (d:=zd ((wvR m e L.q).hi - (wvR m e L.q).lo)) 0 rfl hp11 rfl (aR _) fun u20=>?_
  refine cG (tN u17 u18 _ _ 1000000000 90001 (hszrSin.1) (mN hR.shi hR.slo) qE qE) fun u21=>?_
  refine cG (zAddZ u19 u20 _ _ 1000000000 90001 (hszrSin.2) (mN hR.shi hR.slo) qE qE) fun u22=>?_
  refine dE [zd ((oZ (wvR m e L.q).lo L.q (nW L.q)).1 - ((wvR m e L.q).hi - (wvR m e L.q).lo)),zd ((oZ (wvR m e L.q).lo L.q (nW L.q)).2+((wvR m e L.q).hi - (wvR m e L.q).lo)),.one (.int .i64 L.q)] (by exact ⟨⟨aA qM,rfl⟩,⟨aA qM,rfl⟩,⟨dC rfl,rfl⟩,trivial⟩) fun x6=>?_
  rw [show catL [zd ((oZ (wvR m e L.q).lo L.q (nW L.q)).1 - ((wvR m e L.q).hi - (wvR m e L.q).lo)),zd ((oZ (wvR m e L.q).lo L.q (nW L.q)).2+((wvR m e L.q).hi - (wvR m e L.q).lo)),.one (.int .i64 L.q)]=aN (wvB m e L.q w).lo (wvB m e L.q w).hi (wvB m e L.q w).q from by unfold wvB; rw [hsv]; rfl]
  refine fX (d:=aN (wvB m e L.q w).lo (wvB m e L.q w).hi (wvB m e L.q w).q) qM fun u23=>?_
  refine aI (d:=aN 0 0 0) fun p12 hp12=>?_
  refine aH (d:=aN (wvB m e L.q w).lo (wvB m e L.q w).hi (wvB m e L.q w).q) 0 rfl hp12 rfl qK (aA (d:=aN (wvB m e L.q w).lo (wvB m e L.q w).hi (wvB m e L.q w).q) qM) ?_
  refine and_two (wvK m e L.q+w).toNat qN qN ?_
  refine aO ((((wvK m e L.q+w).toNat/2%2*2:Nat):Int)≠0) rfl (fun hd=>?_) (fun hd=>?_)
  ·have hz:dW m e L.q w=b8 (wvB m e L.q w) (-1):=if_pos qN
   refine tC true false ?_
   refine aE (d:=aN (wvB m e L.q w).lo (wvB m e L.q w).hi (wvB m e L.q w).q) 0 rfl hp12 rfl (cY _ _ _) fun u24=>?_
   refine cG (vB u24 (wvB m e L.q w) (-1) 1000 hB qE qE qE) fun u25=>?_
   rw [← hz]
   refine aH (d:=aN (dW m e L.q w).lo (dW m e L.q w).hi (dW m e L.q w).q) 0 rfl hp12 rfl qK (aA (d:=aN (dW m e L.q w).lo (dW m e L.q w).hi (dW m e L.q w).q) qM) ?_
   refine aE (d:=aN (dW m e L.q w).lo (dW m e L.q w).hi (dW m e L.q w).q) 0 rfl hp12 rfl (cY _ _ _) fun u26=>?_
   refine aH (d:=aN (dW m e L.q w).lo (dW m e L.q w).hi (dW m e L.q w).q) 8 rfl hp4 rfl qK (aA (d:=aN (dW m e L.q w).lo (dW m e L.q w).hi (dW m e L.q w).q) qM) ?_
   refine aE (d:=aN (dW m e L.q w).lo (dW m e L.q w).hi (dW m e L.q w).q) 8 rfl hp4 rfl (cY _ _ _) fun r27=>?_
   exact fin ⟨rfl,r27,rfl,rfl⟩ (dS (dS (dS (dS (dS (dS (dS (dS (dS (dS (dS (dS (aD (fs':=[(r27,aN (dW m e L.q w).lo (dW m e L.q w).hi (dW m e L.q w).q)]) qS)))))))))))))
  ·have hz:dW m e L.q w=wvB m e L.q w:=if_neg qN
   rw [hz]
   refine tC false false ?_
   refine aE (d:=aN (wvB m e L.q w).lo (wvB m e L.q w).hi (wvB m e L.q w).q) 0 rfl hp12 rfl (cY _ _ _) fun u24=>?_
   refine aH (d:=aN (wvB m e L.q w).lo (wvB m e L.q w).hi (wvB m e L.q w).q) 8 rfl hp4 rfl qK (aA (d:=aN (wvB m e L.q w).lo (wvB m e L.q w).hi (wvB m e L.q w).q) qM) ?_
   refine aE (d:=aN (wvB m e L.q w).lo (wvB m e L.q w).hi (wvB m e L.q w).q) 8 rfl hp4 rfl (cY _ _ _) fun r25=>?_
   exact fin ⟨rfl,r25,rfl,rfl⟩ (dS (dS (dS (dS (dS (dS (dS (dS (dS (dS (dS (dS (aD (fs':=[(r25,aN (wvB m e L.q w).lo (wvB m e L.q w).hi (wvB m e L.q w).q)]) qS)))))))))))))
theorem t0Log2:T0 Tryz.prog 211:=⟨⟨_,_,Tryz.underlying211,rfl,rfl,rfl,by kernel_rfl⟩,by kernel_rfl⟩
theorem infCTw0:(Tryz.prog.info? 207).map (fun i=>(i.zero,i.size,i.bytes))=some (some (.agg (([]:List Value)).toArray),0,0):=by kernel_rfl
instance iCTw0:sJ Tryz.prog 207 []:=⟨⟨_,Tryz.underlying207,trivial⟩,by obtain ⟨i,h1,_,_,h4⟩:=fE infCTw0; exact ⟨i,h1,h4⟩⟩
theorem infCTw1:(Tryz.prog.info? 208).map (fun i=>(i.zero,i.size,i.bytes))=some (some (.agg (([]:List Value)).toArray),0,0):=by kernel_rfl
instance iCTw1:sJ Tryz.prog 208 []:=⟨⟨_,Tryz.underlying208,trivial⟩,by obtain ⟨i,h1,_,_,h4⟩:=fE infCTw1; exact ⟨i,h1,h4⟩⟩
theorem infCTw2:(Tryz.prog.info? 209).map (fun i=>(i.zero,i.size,i.bytes))=some (some (.agg (([]:List Value)).toArray),0,0):=by kernel_rfl
instance iCTw2:sJ Tryz.prog 209 []:=⟨⟨_,Tryz.underlying209,trivial⟩,by obtain ⟨i,h1,_,_,h4⟩:=fE infCTw2; exact ⟨i,h1,h4⟩⟩
theorem infCTw3:(Tryz.prog.info? 211).map (fun i=>(i.zero,i.size,i.bytes))=some (some (.agg (([]:List Value)).toArray),0,0):=by kernel_rfl
instance iCTw3:sJ Tryz.prog 211 [[]]:=⟨⟨_,Tryz.underlying211,rfl,by kernel_rfl,trivial⟩,by obtain ⟨i,h1,_,_,h4⟩:=fE infCTw3; exact ⟨i,h1,h4⟩⟩
theorem eLog2At (v w:Value) (m e:Int) (L:Bal) (a:Nat) (hk:LogOk m e L.q a) (hL:L.ok a) (hl:0<L.lo) (hV:(iT (lgB m e L.q) L).ok 1000001):aY Tryz.prog 238 [.agg #[],v,w] [(v,dyD m e),(w,aN L.lo L.hi L.q)] (fun r os fs=>os=[]∧∃ x,r=.tuple #[x,.int .i64 0]∧fs=[(x,aN (kG m e L).lo (kG m e L).hi (kG m e L).q)]):=by
 have ha:=hk.ha
 have hs:=hk.hs
 have hT:(b8 L (lgS m e)).ok 1000001:=(gC hL (dR (lgS m e) qN)).mono qN
 have hO:(jO L.q).ok 1000:=(lJ (dR 1 qE) ⟨hL.q0,hL.q1⟩).mono qE
 have hU:(b8 (jO L.q) (lgS m e)).ok 1000001:=(gC hO (dR (lgS m e) qN)).mono qE
 refine meets_field0 Tryz.func238 qK rfl (Nat.le_of_ble_eq_true rfl) t0Log2 ⟨rfl,rfl,rfl⟩ ⟨rfl,rfl,rfl⟩ rfl qK fun r=>?_
 refine aQ (aA (d:=dyD m e) qM) fun p1 hp1=>?_
 refine aQ (aA (d:=aN L.lo L.hi L.q) qM) fun p2 hp2=>?_
 refine aI (d:=aN 0 0 0) fun p3 hp3=>?_
 refine ⟨rfl,?_⟩
 refine load0 ?_
 refine aE (d:=dyD m e) 2 rfl hp1 rfl (cB _ _) fun u1=>?_
 refine aF 1 rfl hp2 ?_
 refine bM hp2 ?_
 refine aB (u:=.int .i64 L.q) 1 rfl (aC (aC (aG _))) ?_
 refine cF (hk.parts u1) ?_
 rintro _ _ _ ⟨rfl,x1,rfl,rfl⟩
 refine aI (d:=aN 0 0 0) fun p4 hp4=>?_
 refine aH (d:=aN (lgB m e L.q).lo (lgB m e L.q).hi (lgB m e L.q).q) 0 rfl hp4 rfl qK (aA (d:=aN (lgB m e L.q).lo (lgB m e L.q).hi (lgB m e L.q).q) qM) ?_
 refine bC [0,1,3,4,5,7,2,6,8,9,10,11] [0,1,2,3,4,5,6,7,8,9,10,11] qK qK ?_
 refine aE (d:=aN (lgB m e L.q).lo (lgB m e L.q).hi (lgB m e L.q).q) 0 rfl hp4 rfl (cY _ _ _) fun u2=>?_
 refine aE (d:=aN L.lo L.hi L.q) 2 rfl hp2 rfl (cY _ _ _) fun u3=>?_
 refine aF 2 rfl hp2 ?_
 refine bM hp2 ?_
 refine aB (u:=.int .i64 L.q) 2 rfl (aC (aC (aG _))) ?_
 refine cG (eOver u2 u3 (lgB m e L.q) L 1000001 hk.lgB (hL.mono qN) qE (fJ _ _) hl) fun u4=>?_
 refine cG (eWhole1 L.q ⟨hL.q0,hL.q1⟩) fun u5=>?_
 refine cG (vB u5 (jO L.q) (lgS m e) 1000 hO qE qE ⟨by omega,by omega⟩) fun u6=>?_
 refine cG (ePlus u4 u6 (iT (lgB m e L.q) L) (b8 (jO L.q) (lgS m e)) 1000001 hV hU qE (by rw [fJ]; exact fJ _ _)) fun u7=>?_
 refine aH (d:=aN (kG m e L).lo (kG m e L).hi (kG m e L).q) 1 rfl hp3 rfl qK (aA (d:=aN (kG m e L).lo (kG m e L).hi (kG m e L).q) qM) ?_
 refine aE (d:=aN (kG m e L).lo (kG m e L).hi (kG m e L).q) 1 rfl hp3 rfl (cY _ _ _) fun r8=>?_
 exact fin ⟨rfl,r8,rfl,rfl⟩ (dS (dS (dS (dS (aD (fs':=[(r8,aN (kG m e L).lo (kG m e L).hi (kG m e L).q)]) qS)))))
noncomputable def eName:String:=match Tryz.prog.underlying 173 with | some (.interface ms)=>(ms.getD 0 default).1 | _=>default
theorem eNamed0:aY Tryz.prog 91 [.int .i64 0] [] (fun r os fs=>os=[]∧fs=[]∧r=.iface 207 (.agg #[])):=by
 refine mV Tryz.func91 ?_
 refine bG rfl qN ?_
 refine lP ?_
 refine oG rfl Tryz.underlying207 rfl ?_
 exact fin ⟨rfl,rfl,rfl⟩ (aD (fs':=[]) qS)
theorem eMeth0 (sv:Value) (nm:String) (h:nm=eName) (w:World):(method (Tryz.prog.types.size+Made.depth) 207 sv nm).run Tryz.prog w=.ok (205,sv) w:=by rw [h]; kernel_rfl
theorem eNamed1:aY Tryz.prog 91 [.int .i64 1] [] (fun r os fs=>os=[]∧fs=[]∧r=.iface 208 (.agg #[])):=by
 refine mV Tryz.func91 ?_
 refine aL rfl qN ?_
 refine bG rfl qN ?_
 refine lP ?_
 refine oG rfl Tryz.underlying208 rfl ?_
 exact fin ⟨rfl,rfl,rfl⟩ (aD (fs':=[]) qS)
theorem eMeth1 (sv:Value) (nm:String) (h:nm=eName) (w:World):(method (Tryz.prog.types.size+Made.depth) 208 sv nm).run Tryz.prog w=.ok (222,sv) w:=by rw [h]; kernel_rfl
theorem eNamed2:aY Tryz.prog 91 [.int .i64 2] [] (fun r os fs=>os=[]∧fs=[]∧r=.iface 209 (.agg #[])):=by
 refine mV Tryz.func91 ?_
 refine aL rfl qN ?_
 refine aL rfl qN ?_
 refine bG rfl qN ?_
 refine lP ?_
 refine oG rfl Tryz.underlying209 rfl ?_
 exact fin ⟨rfl,rfl,rfl⟩ (aD (fs':=[]) qS)
theorem eMeth2 (sv:Value) (nm:String) (h:nm=eName) (w:World):(method (Tryz.prog.types.size+Made.depth) 209 sv nm).run Tryz.prog w=.ok (229,sv) w:=by rw [h]; kernel_rfl
theorem eNamed3:aY Tryz.prog 91 [.int .i64 3] [] (fun r os fs=>os=[]∧fs=[]∧r=.iface 211 (.agg #[])):=by
 refine mV Tryz.func91 ?_
 refine aL rfl qN ?_
 refine aL rfl qN ?_
 refine aL rfl qN ?_
 refine bG rfl qN ?_
 refine lP ?_
 refine oG rfl Tryz.underlying211 rfl ?_
 exact fin ⟨rfl,rfl,rfl⟩ (aD (fs':=[]) qS)
theorem eMeth3 (sv:Value) (nm:String) (h:nm=eName) (w:World):(method (Tryz.prog.types.size+Made.depth) 211 sv nm).run Tryz.prog w=.ok (238,sv) w:=by rw [h]; kernel_rfl
theorem eNamed4:aY Tryz.prog 91 [.int .i64 4] [] (fun r os fs=>os=[]∧fs=[]∧r=.iface 213 (.agg #[.int .i64 0])):=by
 refine mV Tryz.func91 ?_
 refine aL rfl qN ?_
 refine aL rfl qN ?_
 refine aL rfl qN ?_
 refine aL rfl qN ?_
 refine aL rfl qN ?_
 refine lP ?_
 refine oG rfl Tryz.underlying213 rfl ?_
 exact fin ⟨rfl,rfl,rfl⟩ (aD (fs':=[]) qS)
theorem eMeth4 (sv:Value) (nm:String) (h:nm=eName) (w:World):(method (Tryz.prog.types.size+Made.depth) 213 sv nm).run Tryz.prog w=.ok (239,sv) w:=by rw [h]; kernel_rfl
theorem eNamed5:aY Tryz.prog 91 [.int .i64 5] [] (fun r os fs=>os=[]∧fs=[]∧r=.iface 213 (.agg #[.int .i64 1])):=by
 refine mV Tryz.func91 ?_
 refine aL rfl qN ?_
 refine aL rfl qN ?_
 refine aL rfl qN ?_
 refine aL rfl qN ?_
 refine bG rfl qN ?_
 refine vN rfl ?_
 refine oG rfl Tryz.underlying213 rfl ?_
 exact fin ⟨rfl,rfl,rfl⟩ (aD (fs':=[]) qS)
theorem eAt (v:Value) (f m e q k:Int) (T g:Nat) (sv:Value) (B:Bal) (a:Nat) (h:DyOk m e a) (ha:a≤62) (hq:0≤q∧q≤800)
  (hn:aY Tryz.prog 91 [.int .i64 f] [] (fun r os fs=>os=[]∧fs=[]∧r=.iface T sv)) (hm:∀ nm,nm=eName→∀ w,(method (Tryz.prog.types.size+Made.depth) T sv nm).run Tryz.prog w=.ok (g,sv) w)
  (hy:∀ u,aY Tryz.prog 89 [.int .i64 f,u,.int .i64 q] [(u,dyD (dnM m) (dnE m e))] (fun r os fs=>os=[]∧fs=[]∧r=.bool true))
  (hat:∀ u z,aY Tryz.prog g [sv,u,z] [(u,dyD (dnM m) (dnE m e)),(z,aN (cW (q+40)).lo (cW (q+40)).hi (cW (q+40)).q)] (fun r os fs=>os=[]∧∃ x,r=.tuple #[x,.int .i64 k]∧fs=[(x,aN B.lo B.hi B.q)])) (hB:B.ok 100000000) :
  aY Tryz.prog 57 [.int .i64 f,v,.int .i64 q] [(v,dyD m e)] (fun r os fs=>os=[]∧∃ x,r=.tuple #[x,.int .i64 k,.int .i64 0]∧fs=[(x,aN (c9 B q).lo (c9 B q).hi (c9 B q).q)]):=by
 refine mV Tryz.func57 ?_
 refine aQ (aA (d:=dyD m e) qM) fun p1 hp1=>?_
 refine aI (d:=aN 0 0 0) fun p2 hp2=>?_
 refine aE (d:=dyD m e) 1 rfl hp1 rfl (cB _ _) fun u1=>?_
 refine cG (dNormG u1 m e a h ha) fun u2=>?_
 refine aH (d:=dyD (dnM m) (dnE m e)) 1 rfl hp1 rfl qK (aA (d:=dyD (dnM m) (dnE m e)) qM) ?_
 refine aE (d:=dyD (dnM m) (dnE m e)) 1 rfl hp1 rfl (cB _ _) fun u3=>?_
 refine cH (hy u3) ?_
 refine ar rfl qI ?_
 refine cF (cLn2' (q+40) ⟨by omega,by omega⟩) ?_
 rintro _ _ _ ⟨rfl,x1,rfl,rfl⟩
 refine aI (d:=aN 0 0 0) fun p3 hp3=>?_
 refine aH (d:=aN (cW (q+40)).lo (cW (q+40)).hi (cW (q+40)).q) 0 rfl hp3 rfl qK (aA (d:=aN (cW (q+40)).lo (cW (q+40)).hi (cW (q+40)).q) qM) ?_
 refine fN [0,2,3,4,1,5,6,7,8,9,10,11] [0,1,2,3,4,5,6,7,9,10,8,11] qK qK qK ?_
 refine aE (d:=dyD (dnM m) (dnE m e)) 2 rfl hp1 rfl (cB _ _) fun u4=>?_
 refine aE (d:=aN (cW (q+40)).lo (cW (q+40)).hi (cW (q+40)).q) 0 rfl hp3 rfl (bR _ _ _) fun u5=>?_
 refine fX (d:=aN (cW (q+40)).lo (cW (q+40)).hi (cW (q+40)).q) qM fun u6=>?_
 refine cH (hn) ?_
 refine invoke_go rfl rfl rfl (hm _ qK) ?_
 refine cF (hat u4 u6) ?_
 rintro _ _ _ ⟨rfl,x2,rfl,rfl⟩
 refine aI (d:=aN 0 0 0) fun p4 hp4=>?_
 refine aH (d:=aN B.lo B.hi B.q) 0 rfl hp4 rfl qK (aA (d:=aN B.lo B.hi B.q) qM) ?_
 refine aF 0 rfl hp4 ?_
 refine aK (d:=aN B.lo B.hi B.q) 0 rfl (aG _) (bR _ _ _) fun u7=>?_
 refine cF (bRecast u7 B q 100000000 hB qE ⟨by omega,by omega⟩) ?_
 rintro _ _ _ ⟨rfl,x3,rfl,rfl⟩
 refine aI (d:=aN 0 0 0) fun p5 hp5=>?_
 refine aH (d:=aN (c9 B q).lo (c9 B q).hi (c9 B q).q) 0 rfl hp5 rfl qK (aA (d:=aN (c9 B q).lo (c9 B q).hi (c9 B q).q) qM) ?_
 refine aE (d:=aN (c9 B q).lo (c9 B q).hi (c9 B q).q) 0 rfl hp5 rfl (bR _ _ _) fun u8=>?_
 refine aH (d:=aN (c9 B q).lo (c9 B q).hi (c9 B q).q) 3 rfl hp2 rfl qK (aA (d:=aN (c9 B q).lo (c9 B q).hi (c9 B q).q) qM) ?_
 refine aE (d:=aN (c9 B q).lo (c9 B q).hi (c9 B q).q) 3 rfl hp2 rfl (bR _ _ _) fun r9=>?_
 exact fin ⟨rfl,r9,rfl,rfl⟩ (dS (dS (dS (dS (dS (aD (fs':=[(r9,aN (c9 B q).lo (c9 B q).hi (c9 B q).q)]) qS))))))
structure SemC (P:Program) (N:Nat) (c:Code) (f:Fr) (os:List Own) (fs:List bA) (Q:iX):Prop where
 out:∀ (G:Ctx) (a:Act) (w:World),Knows G N f a→Holds G os fs w→c.wpIn (fnc none) 0 P (Qhat N G Q) a w
theorem SemC.of {P:Program} {N:Nat} {c:Code} {f:Fr} {os:List Own} {fs:List bA} {Q:iX} (hok:fH N c=true) (h:VC P N c f os fs Q):SemC P N c f os fs Q :=
 ⟨fun G a w hk hw=>VC.soundR c G f os fs Q hok (.inl rfl) h a w hk hw⟩
def isSpine:Nat→Code→Bool
 | 0,_=>true
 | k+1,.seq _ b=>isSpine k b
 | _,_=>false
theorem kM {P:Program} {N:Nat} {Q:iX} {Y:Type}:∀ (k:Nat) {c:Code} {f:Fr} {os:List Own} {fs:List bA} (J:Y→Fr×List Own×List bA) (okJ:Y→Prop),(isSpine k c&&fH N c)=true→VC P N (takeC k c) f os fs (cutN J okJ Q) →
  (∀ y,okJ y→SemC P N (dropC k c) (J y).1 (J y).2.1 (J y).2.2 Q)→SemC P N c f os fs Q:=by
 intro k
 induction k with
 | zero =>
  intro c f os fs J okJ _ h h2
  refine ⟨fun G a w hk hw=>?_⟩
  obtain ⟨⟨y,hy,_,g1,g2⟩⟩:=h
  exact (h2 y hy).out G a w (hk.sub g1) (g2 G w hw)
 | succ k ih =>
  intro c f os fs J okJ hok h h2
  cases c with
  | seq x y =>
   simp only [isSpine,fH,Bool.and_eq_true] at hok
   refine ⟨fun G a w hk hw=>?_⟩
   refine wpIn_seq (wpIn_mono (VC.soundR x G f os fs (thenQ (fun f os fs=>VC P N (takeC k y) f os fs (cutN J okJ Q)) (cutN J okJ Q)) hok.2.1 (.inl rfl) h a w hk hw) ?_)
   rintro e a' w' ⟨G',hx,f',os',fs',hk',hw',hq⟩
   cases e with
   | normal=>exact wpIn_mono ((ih J okJ (by rw [Bool.and_eq_true]; exact ⟨hok.1,hok.2.2⟩) hq h2).out G' a' w' hk' hw') fun _ _ _ h=>h.ext hx
   | exit id=>exact ⟨G',hx,f',os',fs',hk',hw',hq⟩
   | goto l=>exact ⟨G',hx,f',os',fs',hk',hw',hq⟩
   | ret=>exact ⟨G',hx,f',os',fs',hk',hw',hq⟩
   | panic ch=>exact ⟨G',hx,f',os',fs',hk',hw',hq⟩
   | outgrown=>exact ⟨G',hx,f',os',fs',hk',hw',hq⟩
  | _=>simp [isSpine] at hok
theorem uO {P:Program} {g:FuncId} {fn:Func} {c:Code} {args:List Value} {fs:List bA} {R:Value→List Own→List bA→Prop}
  (hf : P.funcs[g]? = some fn) (hname : (fn.name == "runtime.NumGoroutine") = false) (hb : fn.body = some c) (hn : args.length ≤ fn.ntmps)
  (h:SemC P fn.ntmps c (argF 0 args) [] fs (retQ P fn R)):aY P g args fs R :=
 meets_wp hf hname hb hn fun G a w hk hw=>h.out G a w hk hw
theorem inline_sem {P:Program} {g:FuncId} {fn:Func} {c:Code} {args:List Value} {os:List Own} {fs:List bA} {K:cE}
  (hf : P.funcs[g]? = some fn) (hname : (fn.name == "runtime.NumGoroutine") = false) (hb : fn.body = some c) (hn : args.length ≤ fn.ntmps)
  (h:SemC P fn.ntmps c (argF 0 args) os fs (retQ P fn K)):CallK P false (.func (.func g) #[] #[]) args os fs K :=
 uX hf hname hb hn fun G a w hk hw=>h.out G a w hk hw
def c8 (b:Bal):Bal:=if b.lo<0 then ⟨-b.hi, -b.lo,b.q⟩ else b
theorem pO {b:Bal} {a:Nat} (h:b.ok a):(c8 b).ok a:=by
 unfold c8
 split
 ·exact ⟨by have:=h.le; show -b.hi ≤ -b.lo; omega,h.q0,h.q1,gG h.shi,gG h.slo⟩
 ·exact h
def fO (b:Bal):Int×Bool:=if b.lo.sign*b.hi.sign≤0 then (0,false) else ((bH (c8 b).lo.natAbs:Nat) - 1 - b.q,true)
theorem sgn_in (x:Int) : -1≤x.sign∧x.sign≤1:=by
 rcases Int.lt_trichotomy x 0 with h | h | h
 ·rw [iI h]; decide
 ·rw [h]; decide
 ·rw [iH h]; decide
theorem sgn_mul_in (x y:Int) : -1≤x.sign*y.sign∧x.sign*y.sign≤1:=by rw [← Int.sign_mul]; exact sgn_in _
theorem pPlus (v:Value) (b:Bal) (a:Nat) (hb:b.ok a) (ha:a≤1000000000):aY Tryz.prog 60 [v] [(v,aN b.lo b.hi b.q)] (fun r os fs=>os=[]∧fs=[(r,aN (c8 b).lo (c8 b).hi (c8 b).q)]):=by
 refine mV Tryz.func60 ?_
 refine aQ (aA (d:=aN b.lo b.hi b.q) qM) fun p1 hp1=>?_
 refine aI (d:=aN 0 0 0) fun p2 hp2=>?_
 refine aF 1 rfl hp1 ?_
 refine aK (d:=zd b.lo) 1 rfl (aJ (aG _)) (aR _) fun u1=>?_
 refine cH (mY u1 b.lo a hb.slo qN) ?_
 refine aO (b.lo.sign<0) rfl (fun hc=>?_) (fun hc=>?_)
 ·rw [show c8 b=⟨-b.hi, -b.lo,b.q⟩ from if_pos (Int.sign_neg_iff.mp hc)]
  refine bC [0,1,3,4,2,6,5,7,8,9] [0,1,2,3,4,5,6,7,8,9] qK qK ?_
  refine aF 1 rfl hp1 ?_
  refine aK (d:=zd b.hi) 1 rfl (aC (aJ (aG _))) (aR _) fun u2=>?_
  refine aF 1 rfl hp1 ?_
  refine aK (d:=zd b.lo) 1 rfl (aJ (aG _)) (aR _) fun u3=>?_
  refine cG (sL u2 b.hi a hb.shi qN) fun u4=>?_
  refine aF 1 rfl hp1 ?_
  refine cG (sL u3 b.lo a hb.slo qN) fun u5=>?_
  refine cP (d:=zd (-b.hi)) 1 rfl hp1 (Rep.left (cD rfl)) (aA (d:=zd (-b.hi)) qM) ?_
  refine aF 1 rfl hp1 ?_
  refine cP (d:=zd (-b.lo)) 1 rfl hp1 (Rep.rk (Rep.left (cD rfl))) (aA (d:=zd (-b.lo)) qM) ?_
  refine aE (d:=(.cat (zd (-b.hi)) (.cat (zd (-b.lo)) (.one (.int .i64 b.q))))) 1 rfl hp1 rfl (bR _ _ _) fun u6=>?_
  refine aH (d:=(.cat (zd (-b.hi)) (.cat (zd (-b.lo)) (.one (.int .i64 b.q))))) 0 rfl hp2 rfl qK (aA (d:=(.cat (zd (-b.hi)) (.cat (zd (-b.lo)) (.one (.int .i64 b.q))))) qM) ?_
  refine aE (d:=(.cat (zd (-b.hi)) (.cat (zd (-b.lo)) (.one (.int .i64 b.q))))) 0 rfl hp2 rfl (bR _ _ _) fun r7=>?_
  exact fin ⟨rfl,rfl⟩ (dS (dS (aD (fs':=[(r7,(.cat (zd (-b.hi)) (.cat (zd (-b.lo)) (.one (.int .i64 b.q)))))]) qS)))
 ·rw [show c8 b=b from if_neg (fun h=>hc (Int.sign_neg_iff.mpr h))]
  refine aE (d:=aN b.lo b.hi b.q) 1 rfl hp1 rfl (bR _ _ _) fun u2=>?_
  refine aH (d:=aN b.lo b.hi b.q) 0 rfl hp2 rfl qK (aA (d:=aN b.lo b.hi b.q) qM) ?_
  refine aE (d:=aN b.lo b.hi b.q) 0 rfl hp2 rfl (bR _ _ _) fun r3=>?_
  exact fin ⟨rfl,rfl⟩ (dS (dS (aD (fs':=[(r3,aN b.lo b.hi b.q)]) qS)))
theorem pScale (v:Value) (b:Bal) (a:Nat) (hb:b.ok a) (ha:a≤1000000000):aY Tryz.prog 58 [v] [(v,aN b.lo b.hi b.q)] (fun r os fs=>os=[]∧fs=[]∧r=.tuple #[.int .i64 (fO b).1,.bool (fO b).2]):=by
 have hbl:=bl_lt (pO hb).slo ha
 have hq0:=hb.q0
 have hq1:=hb.q1
 refine mV Tryz.func58 ?_
 refine aQ (aA (d:=aN b.lo b.hi b.q) qM) fun p1 hp1=>?_
 refine bC [0,1,2,3,4,5,7,8,6,9,10,11,12] [0,1,2,3,4,5,6,7,8,9,10,11,12] qK qK ?_
 refine aE (d:=aN b.lo b.hi b.q) 0 rfl hp1 rfl (bR _ _ _) fun u1=>?_
 refine cH (vT u1 b a hb qN) ?_
 refine aF 0 rfl hp1 ?_
 refine aK (d:=zd b.lo) 0 rfl (aJ (aG _)) (aR _) fun u2=>?_
 refine aF 0 rfl hp1 ?_
 refine aK (d:=zd b.hi) 0 rfl (aC (aJ (aG _))) (aR _) fun u3=>?_
 refine cH (mY u2 b.lo a hb.slo qN) ?_
 refine cH (mY u3 b.hi a hb.shi qN) ?_
 refine ar rfl ⟨by have:=sgn_mul_in b.lo b.hi; omega,by have:=sgn_mul_in b.lo b.hi; omega⟩ ?_
 refine aO (b.lo.sign*b.hi.sign≤0) rfl (fun hc=>?_) (fun hc=>?_)
 ·rw [show fO b=(0,false) from if_pos hc]
  exact fin ⟨rfl,rfl,rfl⟩ (dS (aD (fs':=[]) qS))
 ·rw [show fO b=((bH (c8 b).lo.natAbs:Nat) - 1 - b.q,true) from if_neg hc]
  refine bC [0,5,6,1,2,3,4,7,8,9] [0,1,2,3,4,5,6,7,8,9] qK qK ?_
  refine aE (d:=aN b.lo b.hi b.q) 0 rfl hp1 rfl (bR _ _ _) fun u4=>?_
  refine aF 0 rfl hp1 ?_
  refine aB (u:=.int .i64 b.q) 0 rfl (aC (aC (aG _))) ?_
  refine cG (pPlus u4 b a hb ha) fun u5=>?_
  refine rK (d:=aN (c8 b).lo (c8 b).hi (c8 b).q) (d':=zd ((c8 b).lo)) qM (aJ (aG _)) fun u6=>?_
  refine cH (tO u6 (c8 b).lo a (pO hb).slo qN) ?_
  refine ar rfl qI ?_
  refine ar rfl qI ?_
  exact fin ⟨rfl,rfl,rfl⟩ (dS (aD (fs':=[]) qS))
def gpT (s:Int):Int:=1*2^far s
def gpR (s x:Int):Int:=x - x/2^far s*2^far s
def nrV (s x:Int):Int:=if gpT s - gpR s x<gpR s x then gpT s - gpR s x else gpR s x
theorem gpT_sz (s:Int):sz (gpT s) 130:=(fK (dR 1 qE)).mono qE
theorem gpR_sz {s x:Int} {a:Nat} (h:sz x a):sz (gpR s x) (a+130):=(mN (h.mono (show a≤a+129 by omega)) (fK (rT h))).mono qN
theorem nrV_sz {s x:Int} {a:Nat} (h:sz x a):sz (nrV s x) (a+131):=by
 unfold nrV; split
 ·exact (mN ((gpT_sz s).mono (show 130≤a+130 by omega)) (gpR_sz h)).mono qN
 ·exact (gpR_sz h).mono qN
theorem pNear (v p1' p2':Value) (s x:Int) (a:Nat) (hx:sz x a) (ha:a≤100000000):aY Tryz.prog 98 [v,p1',p2'] [(v,zd x),(p1',.ptr (.one (.int .i64 s))),(p2',.ptr (zd (gpT s)))] (fun r os fs=>os=[]∧fs=[(r,zd (nrV s x))]):=by
 refine mV Tryz.func98 ?_
 refine aQ (aA (d:=zd x) qM) fun p1 hp1=>?_
 refine aI (d:=zd 0) fun p2 hp2=>?_
 refine fN [0,1,2,4,3,5,6,7,8] [0,1,2,3,4,5,6,7,8] qK qK qK ?_
 refine aE (d:=zd x) 1 rfl hp1 rfl (aR _) fun u1=>?_
 refine aE (d:=zd x) 1 rfl hp1 rfl (aR _) fun u2=>?_
 refine bF qM ?_
 refine bF qM ?_
 refine cG (zShrN u2 x s a hx qN) fun u3=>?_
 refine cG (mZ u3 (x/2^far s) s a (rT hx) qN) fun u4=>?_
 refine cG (tN u1 u4 _ _ (a+129) (a+129) (hx.mono qN) (fK (rT hx)) qN qN) fun u5=>?_
 refine aI (d:=zd 0) fun p3 hp3=>?_
 refine aH (d:=zd (gpR s x)) 0 rfl hp3 rfl qK (aA (d:=zd (gpR s x)) qM) ?_
 refine cS (d:=zd (gpT s)) qM (aR _) fun u6=>?_
 refine aE (d:=zd (gpR s x)) 0 rfl hp3 rfl (aR _) fun u7=>?_
 refine cG (tN u6 u7 _ _ 130 (a+130) (gpT_sz s) (gpR_sz hx) qN qN) fun u8=>?_
 refine aI (d:=zd 0) fun p4 hp4=>?_
 refine aH (d:=zd (gpT s - gpR s x)) 0 rfl hp4 rfl qK (aA (d:=zd (gpT s - gpR s x)) qM) ?_
 refine aE (d:=zd (gpT s - gpR s x)) 0 rfl hp4 rfl (aR _) fun u9=>?_
 refine aE (d:=zd (gpR s x)) 1 rfl hp3 rfl (aR _) fun u10=>?_
 refine cH (mL u9 u10 _ _ (a+131) ((mN ((gpT_sz s).mono (show 130≤a+130 by omega)) (gpR_sz hx)).mono qN) ((gpR_sz hx).mono qN) qN) ?_
 refine aO ((gpT s - gpR s x - gpR s x).sign<0) rfl (fun hc=>?_) (fun hc=>?_)
 ·rw [show nrV s x=gpT s - gpR s x from if_pos (by have:=Int.sign_neg_iff.mp hc; omega)]
  refine aE (d:=zd (gpT s - gpR s x)) 0 rfl hp4 rfl (aR _) fun u11=>?_
  refine aH (d:=zd (gpT s - gpR s x)) 2 rfl hp2 rfl qK (aA (d:=zd (gpT s - gpR s x)) qM) ?_
  refine aE (d:=zd (gpT s - gpR s x)) 2 rfl hp2 rfl (aR _) fun r12=>?_
  exact fin ⟨rfl,rfl⟩ (dS (dS (dS (dS (aD (fs':=[(r12,zd (gpT s - gpR s x))]) qS)))))
 ·rw [show nrV s x=gpR s x from if_neg (fun h=>hc (Int.sign_neg_iff.mpr qN))]
  refine aE (d:=zd (gpR s x)) 1 rfl hp3 rfl (aR _) fun u11=>?_
  refine aH (d:=zd (gpR s x)) 2 rfl hp2 rfl qK (aA (d:=zd (gpR s x)) qM) ?_
  refine aE (d:=zd (gpR s x)) 2 rfl hp2 rfl (aR _) fun r12=>?_
  exact fin ⟨rfl,rfl⟩ (dS (dS (dS (dS (aD (fs':=[(r12,zd (gpR s x))]) qS)))))
def gpW (s:Int) (b:Bal):Int:=b.lo/2^far s*2^far s
def gpF (s:Int) (b:Bal):Int:=b.lo - gpW s b
def gpO (s:Int) (b:Bal):Int:=b.hi - gpW s b
def gpA (s:Int) (b:Bal):Int:=nrV s (gpF s b)
def gpB (s:Int) (b:Bal):Int:=nrV s (gpO s b)
def gpL1 (s:Int) (b:Bal):Int:=if gpB s b<gpA s b then gpB s b else gpA s b
def gpM1 (s:Int) (b:Bal):Int:=if gpB s b<gpA s b then gpA s b else gpB s b
def gpL (s:Int) (b:Bal):Int:=if gpF s b=0∨gpT s≤gpO s b then 0 else gpL1 s b
def gpH (s:Int):Int:=1*2^far (s - 1)
def gpX (s:Int) (b:Bal):Int:=if gpH s<gpF s b then gpH s+gpT s else gpH s
def gpM (s:Int) (b:Bal):Int:=if 0<s∧gpX s b≤gpO s b then gpH s else gpM1 s b
theorem gpF_sz {s:Int} {b:Bal} {a:Nat} (h:b.ok a):sz (gpF s b) (a+130):=(mN (h.slo.mono (show a≤a+129 by omega)) (fK (rT h.slo))).mono qN
theorem gpO_sz {s:Int} {b:Bal} {a:Nat} (h:b.ok a):sz (gpO s b) (a+130):=(mN (h.shi.mono (show a≤a+129 by omega)) (fK (rT h.slo))).mono qN
theorem gpH_sz (s:Int):sz (gpH s) 130:=(fK (dR 1 qE)).mono qE
theorem gpL_sz {s:Int} {b:Bal} {a:Nat} (h:b.ok a):sz (gpL s b) (a+261):=by
 unfold gpL gpL1; split
 ·exact iG _
 ·split
  ·exact (nrV_sz (gpO_sz h)).mono qN
  ·exact (nrV_sz (gpF_sz h)).mono qN
theorem sgnGe {x:Int} (h:0≤x.sign):0≤x:=by
 refine Int.not_lt.1 fun z=>?_
 rw [iI z] at h; exact absurd h qE
theorem sgnLe {x:Int} (h:x.sign≤0):x≤0:=by
 refine Int.not_lt.1 fun z=>?_
 rw [iH z] at h; exact absurd h qE
set_option maxHeartbeats 1600000 in
theorem pGap (v:Value) (b:Bal) (s:Int) (a:Nat) (hb:b.ok a) (ha:a≤10000000) (hs:0≤s∧s≤2048):aY Tryz.prog 59 [v,.int .i64 s] [(v,aN b.lo b.hi b.q)] (fun r os fs=>os=[]∧∃ x y,r=.tuple #[x,y,.int .i64 0]∧fs=[(x,zd (gpL s b)),(y,zd (gpM s b))]):=by
 refine uO Tryz.func59 qK rfl (Nat.le_of_ble_eq_true rfl) ?_
 refine kM (Y:=Value×Value×Value×Value×Value×Value×Value×Value) 8 (fun z=>([(4,z.2.2.2.2.2.1),(5,z.2.2.2.2.1),(6,.int .i64 0),(3,z.2.2.2.2.2.2.1),(7,z.2.2.2.2.2.2.2),(9,z.2.2.2.1),(10,z.2.2.1),(12,z.2.1),(13,z.1)],[bL z.1 2 1 (fun _=>zd (gpM1 s b)),bL z.2.1 2 1 (fun _=>zd (gpL1 s b)),bL z.2.2.1 2 1 (fun _=>zd (gpO s b)),bL z.2.2.2.1 2 1 (fun _=>zd (gpF s b)),bL z.2.2.2.2.1 2 1 (fun _=>zd 0),bL z.2.2.2.2.2.1 2 1 (fun _=>zd 0)],[(z.2.2.2.2.2.2.1,.ptr (.one (.int .i64 s))),(z.2.2.2.2.2.2.2,.ptr (zd (gpT s)))])) (fun z=>g9 z.1∧g9 z.2.1∧g9 z.2.2.1∧g9 z.2.2.2.1∧g9 z.2.2.2.2.1∧g9 z.2.2.2.2.2.1) qK ?_ ?_
 ·refine aQ (aA (d:=aN b.lo b.hi b.q) qM) fun p1 hp1=>?_
  refine oK (dC rfl) fun p2=>?_
  refine aI (d:=zd 0) fun p3 hp3=>?_
  refine aI (d:=zd 0) fun p4 hp4=>?_
  refine aE (d:=aN b.lo b.hi b.q) 2 rfl hp1 rfl (bR _ _ _) fun u1=>?_
  refine cH (vT u1 b a hb qN) ?_
  refine bF qM ?_
  refine aL rfl qN ?_
  refine bF qM ?_
  refine aL rfl qN ?_
  refine fN [1,0,2,3,4] [0,1,2,3,4] qK qK qK ?_
  refine bF qM ?_
  refine cG (fB 1 qE qE) fun u2=>?_
  refine cG (mZ u2 1 s 1 (dR 1 qE) qE) fun u3=>?_
  refine aI (d:=zd 0) fun p5 hp5=>?_
  refine aH (d:=zd (gpT s)) 0 rfl hp5 rfl qK (aA (d:=zd (gpT s)) qM) ?_
  refine fN [0,1,2,4,3,5,6,7] [0,1,2,3,4,5,6,7] qK qK qK ?_
  refine aF 3 rfl hp1 ?_
  refine aK (d:=zd b.lo) 3 rfl (aJ (aG _)) (aR _) fun u4=>?_
  refine bF qM ?_
  refine bF qM ?_
  refine cG (zShrN u4 b.lo s a hb.slo qN) fun u5=>?_
  refine cG (mZ u5 (b.lo/2^far s) s a (rT hb.slo) qN) fun u6=>?_
  refine aI (d:=zd 0) fun p6 hp6=>?_
  refine aH (d:=zd (gpW s b)) 0 rfl hp6 rfl qK (aA (d:=zd (gpW s b)) qM) ?_
  refine fN [0,1,2,4,5,6,3,7,8,9,10,11] [0,1,2,3,4,5,6,7,8,9,10,11] qK qK qK ?_
  refine aF 4 rfl hp1 ?_
  refine aK (d:=zd b.lo) 4 rfl (aJ (aG _)) (aR _) fun u7=>?_
  refine aE (d:=zd (gpW s b)) 0 rfl hp6 rfl (aR _) fun u8=>?_
  refine aF 4 rfl hp1 ?_
  refine aK (d:=zd b.hi) 4 rfl (aC (aJ (aG _))) (aR _) fun u9=>?_
  refine aE (d:=zd (gpW s b)) 0 rfl hp6 rfl (aR _) fun u10=>?_
  refine cG (tN u7 u8 _ _ (a+129) (a+129) (hb.slo.mono qN) (fK (rT hb.slo)) qN qN) fun u11=>?_
  refine cG (tN u9 u10 _ _ (a+129) (a+129) (hb.shi.mono qN) (fK (rT hb.slo)) qN qN) fun u12=>?_
  refine aI (d:=zd 0) fun p7 hp7=>?_
  refine aI (d:=zd 0) fun p8 hp8=>?_
  refine aH (d:=zd (gpF s b)) 1 rfl hp7 rfl qK (aA (d:=zd (gpF s b)) qM) ?_
  refine aH (d:=zd (gpO s b)) 0 rfl hp8 rfl qK (aA (d:=zd (gpO s b)) qM) ?_
  refine fN [0,1,3,4,2,5,6,7,8,9] [0,1,2,3,4,5,6,7,8,9] qK qK qK ?_
  refine aE (d:=zd (gpF s b)) 1 rfl hp7 rfl (aR _) fun u13=>?_
  refine aE (d:=zd (gpO s b)) 0 rfl hp8 rfl (aR _) fun u14=>?_
  refine qC (first:=[]) (cap:=[p2,p5]) (Seals.box 3 rfl hp5 rfl) (pNear u13 p2 p5 s (gpF s b) (a+130) (gpF_sz hb) qN) qS ?_
  rintro u15 _ _ ⟨rfl,rfl⟩
  refine qC (first:=[]) (cap:=[p2,p5]) (aT _ _) (pNear u14 p2 p5 s (gpO s b) (a+130) (gpO_sz hb) qN) qS ?_
  rintro u16 _ _ ⟨rfl,rfl⟩
  refine aI (d:=zd 0) fun p9 hp9=>?_
  refine aI (d:=zd 0) fun p10 hp10=>?_
  refine aH (d:=zd (gpA s b)) 1 rfl hp9 rfl qK (aA (d:=zd (gpA s b)) qM) ?_
  refine aH (d:=zd (gpB s b)) 0 rfl hp10 rfl qK (aA (d:=zd (gpB s b)) qM) ?_
  refine aE (d:=zd (gpA s b)) 1 rfl hp9 rfl (aR _) fun u17=>?_
  refine aE (d:=zd (gpB s b)) 0 rfl hp10 rfl (aR _) fun u18=>?_
  refine cH (mL u17 u18 _ _ (a+262) ((nrV_sz (gpF_sz hb)).mono qN) ((nrV_sz (gpO_sz hb)).mono qN) qN) ?_
  refine aO (0<(gpA s b - gpB s b).sign) rfl (fun hc=>?_) (fun hc=>?_)
  ·refine aE (d:=zd (gpB s b)) 0 rfl hp10 rfl (aR _) fun u19=>?_
   refine aE (d:=zd (gpA s b)) 1 rfl hp9 rfl (aR _) fun u20=>?_
   refine aH (d:=zd (gpB s b)) 1 rfl hp9 rfl qK (aA (d:=zd (gpB s b)) qM) ?_
   refine aH (d:=zd (gpA s b)) 0 rfl hp10 rfl qK (aA (d:=zd (gpA s b)) qM) ?_
   rw [show gpL1 s b=gpB s b from if_pos (by have:=Int.sign_pos_iff.mp hc; omega),show gpM1 s b=gpA s b from if_pos (by have:=Int.sign_pos_iff.mp hc; omega)]
   exact bB ⟨p10,p9,p8,p7,p4,p3,p2,p5⟩ ⟨hp10,hp9,hp8,hp7,hp4,hp3⟩ trivial qF (aM (aV 7 _ _) (aM (aV 4 _ _) (aD (fs':=[(p2,.ptr (.one (.int .i64 s))),(p5,.ptr (zd (gpT s)))]) qS)))
  ·rw [show gpL1 s b=gpA s b from if_neg (fun h=>hc (Int.sign_pos_iff.mpr qN)),show gpM1 s b=gpB s b from if_neg (fun h=>hc (Int.sign_pos_iff.mpr qN))]
   exact bB ⟨p10,p9,p8,p7,p4,p3,p2,p5⟩ ⟨hp10,hp9,hp8,hp7,hp4,hp3⟩ trivial qF (aM (aV 7 _ _) (aM (aV 4 _ _) (aD (fs':=[(p2,.ptr (.one (.int .i64 s))),(p5,.ptr (zd (gpT s)))]) qS)))
 rintro ⟨p10,p9,p8,p7,p4,p3,p2,p5⟩ ⟨hp10,hp9,hp8,hp7,hp4,hp3⟩
 dsimp only at hp10 hp9 hp8 hp7 hp4 hp3 ⊢
 refine kM (Y:=Unit) 1 (fun _=>([(4,p3),(5,p4),(6,.int .i64 0),(3,p2),(7,p5),(9,p7),(10,p8),(12,p9),(13,p10)],[bL p10 2 1 (fun _=>zd (gpM1 s b)),bL p9 2 1 (fun _=>zd (gpL s b)),bL p8 2 1 (fun _=>zd (gpO s b)),bL p7 2 1 (fun _=>zd (gpF s b)),bL p4 2 1 (fun _=>zd 0),bL p3 2 1 (fun _=>zd 0)],[(p2,.ptr (.one (.int .i64 s))),(p5,.ptr (zd (gpT s)))])) (fun _=>True) qK ?_ ?_
 ·refine aE (d:=zd (gpF s b)) 3 rfl hp7 rfl (aR _) fun u21=>?_
  refine cH (mY u21 _ (a+130) (gpF_sz hb) qN) ?_
  refine aO ((gpF s b).sign=0) rfl (fun hz=>?_) (fun hz=>?_)
  ·refine buildZ0 fun u22=>?_
   refine aH (d:=zd 0) 1 rfl hp9 rfl qK (aA (d:=zd 0) qM) ?_
   rw [show gpL s b=0 from if_pos (.inl (Int.sign_eq_zero_iff_zero.1 hz))]
   exact bB () trivial trivial qF (aD (fs':=[(p2,.ptr (.one (.int .i64 s))),(p5,.ptr (zd (gpT s)))]) qS)
  ·refine aE (d:=zd (gpO s b)) 2 rfl hp8 rfl (aR _) fun u22=>?_
   refine cS (d:=zd (gpT s)) qM (aR _) fun u23=>?_
   refine cH (mL u22 u23 _ _ (a+262) ((gpO_sz hb).mono qN) ((gpT_sz s).mono qN) qN) ?_
   refine aO (0≤(gpO s b - gpT s).sign) rfl (fun ht=>?_) (fun ht=>?_)
   ·refine buildZ0 fun u24=>?_
    refine aH (d:=zd 0) 1 rfl hp9 rfl qK (aA (d:=zd 0) qM) ?_
    rw [show gpL s b=0 from if_pos (.inr (by have:=sgnGe ht; omega))]
    exact bB () trivial trivial qF (aD (fs':=[(p2,.ptr (.one (.int .i64 s))),(p5,.ptr (zd (gpT s)))]) qS)
   ·rw [show gpL s b=gpL1 s b from if_neg (fun h=>h.elim (fun h=>hz (by rw [h]; rfl)) fun h=>ht (sgn_nn qN))]
    exact bB () trivial trivial qF (aD (fs':=[(p2,.ptr (.one (.int .i64 s))),(p5,.ptr (zd (gpT s)))]) qS)
 rintro ⟨⟩ -
 dsimp only
 refine kM (Y:=Unit) 1 (fun _=>([(4,p3),(5,p4),(6,.int .i64 0),(3,p2),(7,p5),(9,p7),(10,p8),(12,p9),(13,p10)],[bL p10 2 1 (fun _=>zd (gpM s b)),bL p9 2 1 (fun _=>zd (gpL s b)),bL p8 2 1 (fun _=>zd (gpO s b)),bL p7 2 1 (fun _=>zd (gpF s b)),bL p4 2 1 (fun _=>zd 0),bL p3 2 1 (fun _=>zd 0)],[(p2,.ptr (.one (.int .i64 s))),(p5,.ptr (zd (gpT s)))])) (fun _=>True) qK ?_ ?_
 ·refine bF qM ?_
  refine aO (0<s) rfl (fun hs=>?_) (fun hs=>?_)
  ·refine fN [1,2,0,3,4,5] [0,1,2,3,4,5] qK qK qK ?_
   refine bF qM ?_
   refine ar rfl qI ?_
   refine cG (fB 1 qE qE) fun u25=>?_
   refine cG (mZ u25 1 (s - 1) 1 (dR 1 qE) qE) fun u26=>?_
   refine aI (d:=zd 0) fun p11 hp11=>?_
   refine aH (d:=zd (gpH s)) 0 rfl hp11 rfl qK (aA (d:=zd (gpH s)) qM) ?_
   refine aE (d:=zd (gpF s b)) 4 rfl hp7 rfl (aR _) fun u27=>?_
   refine aE (d:=zd (gpH s)) 0 rfl hp11 rfl (aR _) fun u28=>?_
   refine cH (mL u27 u28 _ _ (a+262) ((gpF_sz hb).mono qN) ((gpH_sz s).mono qN) qN) ?_
   refine aO (0<(gpF s b - gpH s).sign) rfl (fun hh=>?_) (fun hh=>?_)
   ·have hx:gpX s b=gpH s+gpT s:=if_pos (by have:=Int.sign_pos_iff.mp hh; omega)
    refine aE (d:=zd (gpH s)) 0 rfl hp11 rfl (aR _) fun u29=>?_
    refine cS (d:=zd (gpT s)) qM (aR _) fun u30=>?_
    refine cG (zAddZ u29 u30 _ _ 130 130 (gpH_sz s) (gpT_sz s) qE qE) fun u31=>?_
    refine aH (d:=zd (gpH s+gpT s)) 0 rfl hp11 rfl qK (aA (d:=zd (gpH s+gpT s)) qM) ?_
    refine aE (d:=zd (gpH s+gpT s)) 0 rfl hp11 rfl (aR _) fun u32=>?_
    refine aE (d:=zd (gpO s b)) 3 rfl hp8 rfl (aR _) fun u33=>?_
    refine cH (mL u32 u33 _ _ (a+262) ((szAdd (gpH_sz s) (gpT_sz s)).mono qN) ((gpO_sz hb).mono qN) qN) ?_
    refine aO (((gpH s+gpT s) - gpO s b).sign≤0) rfl (fun hy=>?_) (fun hy=>?_)
    ·refine bC [1,2,0,3,4] [0,1,2,3,4] qK qK ?_
     refine bF qM ?_
     refine ar rfl qI ?_
     refine cG (fB 1 qE qE) fun u34=>?_
     refine cG (mZ u34 1 (s - 1) 1 (dR 1 qE) qE) fun u35=>?_
     refine aH (d:=zd (gpH s)) 1 rfl hp10 rfl qK (aA (d:=zd (gpH s)) qM) ?_
     rw [show gpM s b=gpH s from if_pos ⟨by omega,by rw [hx]; have:=sgnLe hy; omega⟩]
     exact bB () trivial trivial qF (dS (aD (fs':=[(p2,.ptr (.one (.int .i64 s))),(p5,.ptr (zd (gpT s)))]) qS))
    ·rw [show gpM s b=gpM1 s b from if_neg (fun h=>hy (sgn_np (by have:=h.2; rw [hx] at this; omega)))]
     exact bB () trivial trivial qF (dS (aD (fs':=[(p2,.ptr (.one (.int .i64 s))),(p5,.ptr (zd (gpT s)))]) qS))
   ·have hx:gpX s b=gpH s:=if_neg (fun h=>hh (Int.sign_pos_iff.mpr qN))
    refine aE (d:=zd (gpH s)) 0 rfl hp11 rfl (aR _) fun u29=>?_
    refine aE (d:=zd (gpO s b)) 3 rfl hp8 rfl (aR _) fun u30=>?_
    refine cH (mL u29 u30 _ _ (a+262) ((gpH_sz s).mono qN) ((gpO_sz hb).mono qN) qN) ?_
    refine aO ((gpH s - gpO s b).sign≤0) rfl (fun hy=>?_) (fun hy=>?_)
    ·refine bC [1,2,0,3,4] [0,1,2,3,4] qK qK ?_
     refine bF qM ?_
     refine ar rfl qI ?_
     refine cG (fB 1 qE qE) fun u31=>?_
     refine cG (mZ u31 1 (s - 1) 1 (dR 1 qE) qE) fun u32=>?_
     refine aH (d:=zd (gpH s)) 1 rfl hp10 rfl qK (aA (d:=zd (gpH s)) qM) ?_
     rw [show gpM s b=gpH s from if_pos ⟨by omega,by rw [hx]; have:=sgnLe hy; omega⟩]
     exact bB () trivial trivial qF (dS (aD (fs':=[(p2,.ptr (.one (.int .i64 s))),(p5,.ptr (zd (gpT s)))]) qS))
    ·rw [show gpM s b=gpM1 s b from if_neg (fun h=>hy (sgn_np (by have:=h.2; rw [hx] at this; omega)))]
     exact bB () trivial trivial qF (dS (aD (fs':=[(p2,.ptr (.one (.int .i64 s))),(p5,.ptr (zd (gpT s)))]) qS))
  ·rw [show gpM s b=gpM1 s b from if_neg (fun h=>hs h.1)]
   exact bB () trivial trivial qF (aD (fs':=[(p2,.ptr (.one (.int .i64 s))),(p5,.ptr (zd (gpT s)))]) qS)
 rintro ⟨⟩ -
 dsimp only
 refine SemC.of qK ?_
 refine eT [0,2,1,3,4] qK ?_
 refine cL 1 2 qK qK qK ?_ ?_
 ·refine ord_go [0,1,2,3,4] qK qK ?_
  refine aE (d:=zd (gpL s b)) 1 rfl hp9 rfl (aR _) fun u36=>?_
  refine aE (d:=zd (gpM s b)) 0 rfl hp10 rfl (aR _) fun u37=>?_
  refine aH (d:=zd (gpL s b)) 5 rfl hp3 rfl qK (aA (d:=zd (gpL s b)) qM) ?_
  refine aH (d:=zd (gpM s b)) 4 rfl hp4 rfl qK (aA (d:=zd (gpM s b)) qM) ?_
  refine aE (d:=zd (gpL s b)) 5 rfl hp3 rfl (aR _) fun r38=>?_
  refine aE (d:=zd (gpM s b)) 4 rfl hp4 rfl (aR _) fun r39=>?_
  exact fin ⟨rfl,r38,r39,rfl,rfl⟩ (dS (dS (dS (dS (dS (dS (aD (fs':=[(r38,zd (gpL s b)),(r39,zd (gpM s b))]) qS)))))))
 ·refine ord_go [0,2,1,3,4] qK qK ?_
  refine aE (d:=zd (gpL s b)) 1 rfl hp9 rfl (aR _) fun u36=>?_
  refine aH (d:=zd (gpL s b)) 5 rfl hp3 rfl qK (aA (d:=zd (gpL s b)) qM) ?_
  refine aE (d:=zd (gpM s b)) 0 rfl hp10 rfl (aR _) fun u37=>?_
  refine aH (d:=zd (gpM s b)) 4 rfl hp4 rfl qK (aA (d:=zd (gpM s b)) qM) ?_
  refine aE (d:=zd (gpL s b)) 5 rfl hp3 rfl (aR _) fun r38=>?_
  refine aE (d:=zd (gpM s b)) 4 rfl hp4 rfl (aR _) fun r39=>?_
  exact fin ⟨rfl,r38,r39,rfl,rfl⟩ (dS (dS (dS (dS (dS (dS (aD (fs':=[(r38,zd (gpL s b)),(r39,zd (gpM s b))]) qS)))))))
structure Lk7 where
 b:Bal
 k:Int
 e:Int
 s:Int
 l:Int
 m:Int
 h:Bool
def fY (x:Lk7):Dat:=.cat (aN x.b.lo x.b.hi x.b.q) (.cat (.one (.int .i64 x.k)) (.cat (.one (.int .i64 x.e)) (.cat (.one (.int .i64 x.s)) (.cat (zd x.l) (.cat (zd x.m) (.one (.bool x.h)))))))
def pS:Lk7:=⟨⟨0,0,0⟩,0,0,0,0,0,false⟩
theorem bool_rd (S:Nat→Prop) (w:World) (b:Bool):RdC S w (.one (.bool b)) [.bool b]:=⟨rfl,rfl⟩
theorem look0_rd (S:Nat→Prop) (w:World):RdC S w (fY pS) [.bool false,.slice none 0 0,.bool false,.slice none 0 0,.int .i64 0,.int .i64 0,.int .i64 0,.int .i64 0,.bool false,.slice none 0 0,.bool false,.slice none 0 0,.bool false] :=
 ⟨_,_,rfl,ball0_rd S w,_,_,rfl,mO S w 0,_,_,rfl,mO S w 0,_,_,rfl,mO S w 0,_,_,rfl,jX S w,_,_,rfl,jX S w,bool_rd S w false⟩
instance tzLook:iD Tryz.prog 44 (fY pS):=mQ infT44 fun S w=>look0_rd S w
theorem ld_look:oL Tryz.prog 44 13:=inferInstance
def lkB (B:Bal) (k q m:Int):Lk7:=⟨B,k,(fO B).1+k,q - 53+(fO B).1,gpL (q - 53+(fO B).1) (c8 B),gpM (q - 53+(fO B).1) (c8 B),decide (((bH (gpL (q - 53+(fO B).1) (c8 B)).natAbs:Nat):Int)≤q - 53+(fO B).1 - m)⟩
def lkA (B:Bal) (k:Int):Lk7:=⟨B,k,0,0,0,0,true⟩
theorem pLookA (p:Nat) (h1:4503599627370496≤p) (hp:p<9218868437227405312) (M:Nat) (hM:p%4503599627370496+4503599627370496=M) (X:Int) (hX:((p/4503599627370496:Nat):Int) - 1023 - 52=X) (j:Nat) (hj:Low (M:Nat) j) (hj4:j≤4000) (he:X≤1900) (f m:Int) (hm:1≤m∧m≤128) (B:Bal) (k:Int) (a:Nat) (hB:B.ok a) (ha:a≤10000000)
  (hA:(∀ u,aY Tryz.prog 57 [.int .i64 f,u,.int .i64 300] [(u,dyD ((M:Nat)/2^j) (X+(j:Nat)))] (fun r os fs=>os=[]∧∃ x,r=.tuple #[x,.int .i64 k,.int .i64 0]∧fs=[(x,aN B.lo B.hi B.q)]))) (hs:fO B=(0,false)) :
  aY Tryz.prog 30 [.int .i64 f,.int .u64 (p:Nat),.int .i64 m] [] (fun r os fs=>os=[]∧∃ x,r=.tuple #[x,.int .i64 0]∧fs=[(x,fY (lkA B k))]):=by
 refine mV Tryz.func30 ?_
 refine aI (d:=fY pS) fun p1 hp1=>?_
 refine aL rfl qN ?_
 refine aL rfl qN ?_
 refine cH (bNormal p h1 hp) ?_
 refine cF (bValueM p h1 hp M hM X hX j hj hj4 he) ?_
 rintro _ _ _ ⟨rfl,x1,rfl,rfl⟩
 refine aI (d:=dyD 0 0) fun p2 hp2=>?_
 refine aH (d:=dyD ((M:Nat)/2^j) (X+(j:Nat))) 0 rfl hp2 rfl qK (aA (d:=dyD ((M:Nat)/2^j) (X+(j:Nat))) qM) ?_
 refine aE (d:=dyD ((M:Nat)/2^j) (X+(j:Nat))) 0 rfl hp2 rfl (cB _ _) fun u1=>?_
 refine cF (hA u1) ?_
 rintro _ _ _ ⟨rfl,x2,rfl,rfl⟩
 refine aI (d:=aN 0 0 0) fun p3 hp3=>?_
 refine aH (d:=aN B.lo B.hi B.q) 0 rfl hp3 rfl qK (aA (d:=aN B.lo B.hi B.q) qM) ?_
 refine aL rfl qN ?_
 refine aE (d:=aN B.lo B.hi B.q) 0 rfl hp3 rfl (bR _ _ _) fun u2=>?_
 refine cH (pScale u2 B a hB qN) ?_
 rw [hs]
 refine aE (d:=aN B.lo B.hi B.q) 0 rfl hp3 rfl (bR _ _ _) fun u3=>?_
 refine dE [aN B.lo B.hi B.q,.one (.int .i64 k),.one (.int .i64 0),.one (.int .i64 0),zd 0,zd 0,.one (.bool true)] (by exact ⟨⟨aA qM,rfl⟩,⟨dC rfl,rfl⟩,fun S w=>mO S w 0,fun S w=>mO S w 0,fun S w=>jX S w,fun S w=>jX S w,⟨dC rfl,rfl⟩,trivial⟩) fun u9=>?_
 refine aH (d:=fY (lkA B k)) 2 rfl hp1 rfl qK (aA (d:=fY (lkA B k)) qM) ?_
 refine aE (d:=fY (lkA B k)) 2 rfl hp1 rfl ld_look fun r4=>?_
 exact fin ⟨rfl,r4,rfl,rfl⟩ (dS (dS (dS (aD (fs':=[(r4,fY (lkA B k))]) qS))))
set_option maxHeartbeats 1600000 in
theorem pLookB (p:Nat) (h1:4503599627370496≤p) (hp:p<9218868437227405312) (M:Nat) (hM:p%4503599627370496+4503599627370496=M) (X:Int) (hX:((p/4503599627370496:Nat):Int) - 1023 - 52=X) (j:Nat) (hj:Low (M:Nat) j) (hj4:j≤4000) (he:X≤1900) (f m:Int) (hm:1≤m∧m≤128) (B:Bal) (k:Int) (a:Nat) (hB:B.ok a) (ha:a≤10000000)
  (hA:(∀ u,aY Tryz.prog 57 [.int .i64 f,u,.int .i64 300] [(u,dyD ((M:Nat)/2^j) (X+(j:Nat)))] (fun r os fs=>os=[]∧∃ x,r=.tuple #[x,.int .i64 k,.int .i64 0]∧fs=[(x,aN B.lo B.hi B.q)]))) (n1:Int) (hs:fO B=(n1,true)) (hn : -4000≤n1∧n1≤4000) (C:Bal) (k' q n:Int) (hC:C.ok a) (hq:q=m+160 - min n1 0) (hn2:n=(fO C).1) (hk : -100000≤k'∧k'≤100000) (hS:0≤q - 53+n∧q - 53+n≤2048)
  (hA2:(∀ u,aY Tryz.prog 57 [.int .i64 f,u,.int .i64 q] [(u,dyD ((M:Nat)/2^j) (X+(j:Nat)))] (fun r os fs=>os=[]∧∃ x,r=.tuple #[x,.int .i64 k',.int .i64 0]∧fs=[(x,aN C.lo C.hi C.q)]))) :
  aY Tryz.prog 30 [.int .i64 f,.int .u64 (p:Nat),.int .i64 m] [] (fun r os fs=>os=[]∧∃ x,r=.tuple #[x,.int .i64 0]∧fs=[(x,fY (lkB C k' q m))]):=by
 have hbl:=bl_lt (gpL_sz (s:=q - 53+n) (pO hC)) (show a+261≤1000000000 by omega)
 rw [show lkB C k' q m=⟨C,k',n+k',q - 53+n,gpL (q - 53+n) (c8 C),gpM (q - 53+n) (c8 C),decide (((bH (gpL (q - 53+n) (c8 C)).natAbs:Nat):Int)≤q - 53+n - m)⟩ from by rw [hn2]; rfl]
 refine mV Tryz.func30 ?_
 refine aI (d:=fY pS) fun p1 hp1=>?_
 refine aL rfl qN ?_
 refine aL rfl qN ?_
 refine cH (bNormal p h1 hp) ?_
 refine cF (bValueM p h1 hp M hM X hX j hj hj4 he) ?_
 rintro _ _ _ ⟨rfl,x1,rfl,rfl⟩
 refine aI (d:=dyD 0 0) fun p2 hp2=>?_
 refine aH (d:=dyD ((M:Nat)/2^j) (X+(j:Nat))) 0 rfl hp2 rfl qK (aA (d:=dyD ((M:Nat)/2^j) (X+(j:Nat))) qM) ?_
 refine aE (d:=dyD ((M:Nat)/2^j) (X+(j:Nat))) 0 rfl hp2 rfl (cB _ _) fun u1=>?_
 refine cF (hA u1) ?_
 rintro _ _ _ ⟨rfl,x2,rfl,rfl⟩
 refine aI (d:=aN 0 0 0) fun p3 hp3=>?_
 refine aH (d:=aN B.lo B.hi B.q) 0 rfl hp3 rfl qK (aA (d:=aN B.lo B.hi B.q) qM) ?_
 refine aL rfl qN ?_
 refine aE (d:=aN B.lo B.hi B.q) 0 rfl hp3 rfl (bR _ _ _) fun u2=>?_
 refine cH (pScale u2 B a hB qN) ?_
 rw [hs]
 refine ar rfl qI ?_
 refine gJ ?_
 refine ar rfl qI ?_
 rw [← hq]
 refine aE (d:=dyD ((M:Nat)/2^j) (X+(j:Nat))) 1 rfl hp2 rfl (cB _ _) fun u3=>?_
 refine cF (hA2 u3) ?_
 rintro _ _ _ ⟨rfl,x3,rfl,rfl⟩
 refine aH (d:=aN C.lo C.hi C.q) 0 rfl hp3 rfl qK (aA (d:=aN C.lo C.hi C.q) qM) ?_
 refine aE (d:=aN C.lo C.hi C.q) 0 rfl hp3 rfl (bR _ _ _) fun u4=>?_
 refine cH (pScale u4 C a hC qN) ?_
 rw [← hn2]
 refine aE (d:=aN C.lo C.hi C.q) 0 rfl hp3 rfl (bR _ _ _) fun u5=>?_
 refine ar rfl qI ?_
 refine ar rfl qI ?_
 refine ar rfl qI ?_
 refine dE [aN C.lo C.hi C.q,.one (.int .i64 k'),.one (.int .i64 (n+k')),.one (.int .i64 (q - 53+n)),zd 0,zd 0,.one (.bool false)] (by exact ⟨⟨aA qM,rfl⟩,⟨dC rfl,rfl⟩,⟨dC rfl,rfl⟩,⟨dC rfl,rfl⟩,fun S w=>jX S w,fun S w=>jX S w,fun S w=>bool_rd S w false,trivial⟩) fun u19=>?_
 refine aI (d:=fY pS) fun p4 hp4=>?_
 refine aH (d:=(.cat (aN C.lo C.hi C.q) (.cat (.one (.int .i64 k')) (.cat (.one (.int .i64 (n+k'))) (.cat (.one (.int .i64 (q - 53+n))) (.cat (zd 0) (.cat (zd 0) (.one (.bool false))))))))) 0 rfl hp4 rfl qK (aA (d:=(.cat (aN C.lo C.hi C.q) (.cat (.one (.int .i64 k')) (.cat (.one (.int .i64 (n+k'))) (.cat (.one (.int .i64 (q - 53+n))) (.cat (zd 0) (.cat (zd 0) (.one (.bool false))))))))) qM) ?_
 refine bC [0,2,3,1,4,5,6,7,8,9,10,11,12] [0,1,2,3,4,5,6,9,10,7,11,12,8] qK qK ?_
 refine aE (d:=aN C.lo C.hi C.q) 1 rfl hp3 rfl (bR _ _ _) fun u6=>?_
 refine aF 0 rfl hp4 ?_
 refine aB (u:=.int .i64 (q - 53+n)) 0 rfl (aC (aC (aC (aJ (aG _))))) ?_
 refine cG (pPlus u6 C a hC qN) fun u7=>?_
 refine cF (pGap u7 (c8 C) (q - 53+n) a (pO hC) ha hS) ?_
 rintro _ _ _ ⟨rfl,x4,y4,rfl,rfl⟩
 refine aF 0 rfl hp4 ?_
 refine cP (d:=zd (gpL (q - 53+n) (c8 C))) 0 rfl hp4 (Rep.rk (Rep.rk (Rep.rk (Rep.rk (Rep.left (cD rfl)))))) (aA (d:=zd (gpL (q - 53+n) (c8 C))) qM) ?_
 refine aF 0 rfl hp4 ?_
 refine cP (d:=zd (gpM (q - 53+n) (c8 C))) 0 rfl hp4 (Rep.rk (Rep.rk (Rep.rk (Rep.rk (Rep.rk (Rep.left (cD rfl))))))) (aA (d:=zd (gpM (q - 53+n) (c8 C))) qM) ?_
 refine bC [0,1,3,4,5,6,2,7,8,9] [0,1,2,3,4,5,6,7,8,9] qK qK ?_
 refine aF 0 rfl hp4 ?_
 refine aK (d:=zd (gpL (q - 53+n) (c8 C))) 0 rfl (aC (aC (aC (aC (aJ (aG _)))))) (aR _) fun u8=>?_
 refine aF 0 rfl hp4 ?_
 refine aB (u:=.int .i64 (q - 53+n)) 0 rfl (aC (aC (aC (aJ (aG _))))) ?_
 refine ar rfl qI ?_
 refine cH (tO u8 _ (a+261) (gpL_sz (pO hC)) qN) ?_
 refine cmp_dec (decide (((bH (gpL (q - 53+n) (c8 C)).natAbs:Nat):Int)≤q - 53+n - m)) rfl rfl ?_
 refine aF 0 rfl hp4 ?_
 refine cP (d:=.one (.bool (decide (((bH (gpL (q - 53+n) (c8 C)).natAbs:Nat):Int)≤q - 53+n - m)))) 0 rfl hp4 (Rep.rk (Rep.rk (Rep.rk (Rep.rk (Rep.rk (Rep.rk (cD rfl))))))) (dC rfl) ?_
 refine aE (d:=(.cat (aN C.lo C.hi C.q) (.cat (.one (.int .i64 k')) (.cat (.one (.int .i64 (n+k'))) (.cat (.one (.int .i64 (q - 53+n))) (.cat (zd (gpL (q - 53+n) (c8 C))) (.cat (zd (gpM (q - 53+n) (c8 C))) (.one (.bool (decide (((bH (gpL (q - 53+n) (c8 C)).natAbs:Nat):Int)≤q - 53+n - m))))))))))) 0 rfl hp4 rfl ld_look fun u9=>?_
 refine aH (d:=(.cat (aN C.lo C.hi C.q) (.cat (.one (.int .i64 k')) (.cat (.one (.int .i64 (n+k'))) (.cat (.one (.int .i64 (q - 53+n))) (.cat (zd (gpL (q - 53+n) (c8 C))) (.cat (zd (gpM (q - 53+n) (c8 C))) (.one (.bool (decide (((bH (gpL (q - 53+n) (c8 C)).natAbs:Nat):Int)≤q - 53+n - m))))))))))) 3 rfl hp1 rfl qK (aA (d:=(.cat (aN C.lo C.hi C.q) (.cat (.one (.int .i64 k')) (.cat (.one (.int .i64 (n+k'))) (.cat (.one (.int .i64 (q - 53+n))) (.cat (zd (gpL (q - 53+n) (c8 C))) (.cat (zd (gpM (q - 53+n) (c8 C))) (.one (.bool (decide (((bH (gpL (q - 53+n) (c8 C)).natAbs:Nat):Int)≤q - 53+n - m))))))))))) qM) ?_
 refine aE (d:=(.cat (aN C.lo C.hi C.q) (.cat (.one (.int .i64 k')) (.cat (.one (.int .i64 (n+k'))) (.cat (.one (.int .i64 (q - 53+n))) (.cat (zd (gpL (q - 53+n) (c8 C))) (.cat (zd (gpM (q - 53+n) (c8 C))) (.one (.bool (decide (((bH (gpL (q - 53+n) (c8 C)).natAbs:Nat):Int)≤q - 53+n - m))))))))))) 3 rfl hp1 rfl ld_look fun r10=>?_
 exact fin ⟨rfl,r10,rfl,rfl⟩ (dS (dS (dS (dS (aD (fs':=[(r10,(.cat (aN C.lo C.hi C.q) (.cat (.one (.int .i64 k')) (.cat (.one (.int .i64 (n+k'))) (.cat (.one (.int .i64 (q - 53+n))) (.cat (zd (gpL (q - 53+n) (c8 C))) (.cat (zd (gpM (q - 53+n) (c8 C))) (.one (.bool (decide (((bH (gpL (q - 53+n) (c8 C)).natAbs:Nat):Int)≤q - 53+n - m)))))))))))]) qS)))))
end Go.Proofs.YtpbhjlljgbjjlaaGreat
