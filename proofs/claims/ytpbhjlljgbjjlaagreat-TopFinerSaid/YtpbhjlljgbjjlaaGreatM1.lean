/- Towards the statement, part 1 of 6: contracts of functions, and what they rest on. Conditions: each theorem names its own. -/
import Derived.WalkKit
import Derived.Maps.Range
import Derived.RangeFuncRecord
import Derived.Test.YtpbhjlljgbjjlaaGreatProg
set_option linter.unusedVariables false
set_option linter.unusedSimpArgs false
namespace Go.Proofs.YtpbhjlljgbjjlaaGreat
theorem qN {p:Prop} (h:p:=by omega):p:=h
theorem qK {p:Prop} (h:p:=by kernel_rfl):p:=h
theorem qE {p:Prop} (h:p:=by decide):p:=h
theorem qP {p:Prop} (h:p:=by simp):p:=h
open Go.RowKit
def fnc (r:Option Nat):Fence:={ Fence.wide with round:=r }
section
variable {P:Program} {Q:Exit→Act→World→Prop} {a:Act} {w:World}
theorem stepR_scope {b:Frame} {k:List Item} {cs:List Frame} {c:Code}:step P (lone (b.atR a (.code (.scope c)::k)) cs w)=.next (lone (b.atR a (.code c::.inScope c::k)) cs w) :=
 step_lone_go (by simp [stepG,stepG.exec,Frame.atR])
theorem stepR_inScope {b:Frame} {k:List Item} {cs:List Frame} {c:Code}:step P (lone (b.atR a (.inScope c::k)) cs w)=.next (lone (b.atR a k) cs w) :=
 step_lone_go (by simp [stepG,stepG.exec,Frame.atR])
theorem wpIn_scope {r:Option Nat} {c:Code} (h:c.wpIn (fnc r) 0 P (Exit.noGoto Q) a w):(Code.scope c).wpIn (fnc r) 0 P Q a w:=by
 intro b k cs hro hb hr
 obtain ⟨e,a₁,w₁,hq,harr⟩:=h b (.inScope c::k) cs hro hb hr
 have s0:StepsIn (Machine.fenced P (fnc r)) P (lone (b.atR a (.code (.scope c)::k)) cs w) (lone (b.atR a (.code c::.inScope c::k)) cs w):=.one (fenced_calm hb hr rfl) stepR_scope
 cases e with
 | normal=>exact ⟨.normal,a₁,w₁,hq,.of_steps s0 (StepsIn.trans harr (.one (fenced_calm hb hr rfl) stepR_inScope))⟩
 | exit id=>exact ⟨_,a₁,w₁,hq,.of_steps s0 ⟨fun k' hk=>harr.1 k' (by simp [exitTo,hk]),fun h1 h2=>harr.2 h1 (by simp [exitTo,h2])⟩⟩
 | goto l=>exact hq.elim
 | ret=>exact ⟨_,a₁,w₁,hq,.of_steps s0 harr⟩
 | panic ch=>exact ⟨_,a₁,w₁,hq,.of_steps s0 harr⟩
 | outgrown=>exact ⟨_,a₁,w₁,hq,.of_steps s0 harr⟩
def uponA (P:Program) (o:Oper) (a:Act) (next:Act→World→Prop) (Q:Exit→Act→World→Prop):Result Next→Prop
 | .ok (.value v) w'=>next (a.put o.dst v) w'
 | .ok .skip w'=>next (a.put o.dst undef) w'
 | .ok (.enter f args) w'=>Calls P f args w' fun
   | .returned v,w''=>next (a.put o.dst v) w''
   | .panicked chain,w''=>Q (.panic chain) a w''
   | .outgrown,_=>False
 | .ok (.round l f tmps assign body) w'=>RoundIn (fnc none) 0 P l f tmps assign body w' fun
   | .returned v,w''=>next (a.put o.dst v) w''
   | _,_=>False
 | _=>False
def Oper.wpA (P:Program) (o:Oper) (a:Act) (w:World) (next:Act→World→Prop) (Q:Exit→Act→World→Prop):Prop:=uponA P o a next Q ((execOp a.eval o).run P w)
theorem uponA_nodefer {o:Oper} {next:Act→World→Prop} (h:Oper.wpA P o a w next Q):∀ c,o.op≠.defer c:=by
 intro c hc
 unfold Oper.wpA at h
 unfold execOp at h
 rw [hc] at h
 simp only [Sem.run_bind] at h
 generalize (resolve a.eval c o.type).run P w=r at h
 cases r with
 | ok d w'=>simp [uponA] at h
 | halt x w'=>simp [uponA] at h
theorem Oper.wpA_in {o:Oper} {next:Act→World→Prop} (h:Oper.wpA P o a w next Q) (r:Option Nat):o.wpIn (fnc r) 0 P a w next Q:=by
 refine ⟨fun _ _=>trivial,?_⟩
 rw [Oper.semAt_eq _ _ _ (uponA_nodefer h)]
 unfold Oper.wpA at h
 generalize (execOp a.eval o).run P w=res at h
 match res,h with
 | .ok (.value v) w',h=>exact h
 | .ok .skip w',h=>exact h
 | .ok (.enter g args) w',h =>
  refine ⟨fun h=>by simp [fnc,Fence.wide] at h,?_⟩
  refine CallsIn.mono (callsIn_wide (n:=0 - 1).2 h) ?_
  intro e w'' he
  cases e with
  | returned v=>exact he
  | panicked c=>exact he
  | outgrown=>exact he.elim
 | .ok (.round l f tmps assign body) w',h =>
  refine ⟨fun h=>by simp [fnc,Fence.wide] at h,?_⟩
  refine RoundIn.mono (F:=fnc r) (n:=0 - 1) (R:=fun e w''=>match e,w'' with
   | .returned v,w''=>next (a.put o.dst v) w''
   | _,_=>False) h ?_
  intro e w'' he
  cases e with
  | returned v=>exact he
  | panicked c=>exact he.elim
  | outgrown=>exact he.elim
def dK (P:Program) (ops:Array Oper) (Q:Exit→Act→World→Prop):List Nat→Act→World→Prop
 | [],a,w=>Q .normal a w
 | i::rest,a,w =>
  match ops[i]? with
  | none=>dK P ops Q rest a w
  | some o =>
   if Region.wanted o (yielded ops a.tmps) then Oper.wpA P o a w (dK P ops Q rest) Q∨(False∧LetsOut Q)
   else dK P ops Q rest (a.put o.dst undef) w
theorem oper_mono {F:Fence} {n:Nat} {o:Oper} {K K':Act→World→Prop} (h:∀ a w,K a w→K' a w) (hh:o.wpIn F n P a w K Q):o.wpIn F n P a w K' Q:=by
 refine ⟨hh.1,?_⟩
 have h2:=hh.2
 generalize (o.semAt F.round a.eval).run P w=r at h2 ⊢
 match r,h2 with
 | .ok (.value v) w',h2=>exact h _ _ h2
 | .ok .skip w',h2=>exact h _ _ h2
 | .ok (.defer d) w',h2=>exact h _ _ h2
 | .ok (.enter g args) w',h2=>exact ⟨h2.1,CallsIn.mono h2.2 fun e w'' he=>by cases e <;> first | exact h _ _ he | exact he⟩
 | .ok (.row row args) w',h2=>exact ⟨h2.1,RowsIn.mono h2.2 fun v w'' he=>h _ _ he⟩
 | .ok (.round l f tmps assign body) w',h2=>exact ⟨h2.1,RoundIn.mono h2.2 fun e w'' he=>by cases e <;> first | exact h _ _ he | exact he⟩
 | .halt (.panic v) w',h2=>exact h2
theorem m4 {ops:Array Oper} (r:Option Nat):∀ (l:List Nat) (a:Act) (w:World),dK P ops Q l a w→wpOpsIn (fnc r) 0 P ops Q l a w
 | [],_,_,h=>h
 | i::rest,a,w,h=>by
  unfold dK at h
  unfold wpOpsIn
  cases ho:ops[i]? with
  | none=>simp only [ho] at h ⊢; exact m4 r rest a w h
  | some o =>
   simp only [ho] at h ⊢
   split at h
   ·rename_i hw
    rw [if_pos hw]
    rcases h with h | h
    ·exact oper_mono (fun a w h=>m4 r rest a w h) (Oper.wpA_in h r)
    ·exact h.1.elim
   ·rename_i hw
    rw [if_neg hw]
    exact ⟨fun _ _=>trivial,m4 r rest _ w h⟩
theorem sT {r:Option Nat} {id:Nat} {ops:Array Oper} (h:∀ t,dK P ops Q (Region.schedule (P.follows .mixedOrders) ops t) a { w with drawn:=w.drawn+1 }):(Code.region id ops true).wpIn (fnc r) 0 P Q a w :=
 wpIn_region_draw fun t=>m4 r _ a _ (h t)
def iY (P:Program) (ops:Array Oper) (Q:Exit→Act→World→Prop):List Oper→Act→World→Prop
 | [],a,w=>Q .normal a w
 | o::rest,a,w =>
  if Region.wanted o (yielded ops a.tmps) then Oper.wpA P o a w (iY P ops Q rest) Q∨(False∧LetsOut Q) else iY P ops Q rest (a.put o.dst undef) w
theorem wpOpsA_list {ops:Array Oper} (l:List Oper):∀ k,(∀ j,l[j]? = ops[k+j]?)→dK P ops Q (List.range' k l.length)=iY P ops Q l:=by
 induction l with
 | nil=>intro k _; funext a w; simp [dK,iY]
 | cons o l ih =>
  intro k h
  funext a w
  have h0:ops[k]? = some o:=by have:=h 0; simpa using this.symm
  have ih':=ih (k+1) (fun j=>by have:=h (j+1); simpa [Nat.add_comm,Nat.add_left_comm,Nat.add_assoc] using this)
  simp only [List.length_cons,List.range'_succ,dK,h0,iY,ih']
theorem wpR_list {r:Option Nat} {id:Nat} {ops:Array Oper} (h:iY P ops Q ops.toList a w):(Code.region id ops false).wpIn (fnc r) 0 P Q a w :=
 wpIn_region (m4 r _ a w (by rw [List.range_eq_range',← Array.length_toList,wpOpsA_list ops.toList 0 qP]; exact h))
end
inductive Dat where
 | one (v:Value)
 | sl (size n:Nat) (e:Nat→Dat)
 | ptr (d:Dat)
 | cat (a b:Dat)
 /-- A map of n entries,none of which is written any more. -/
 | mp (n:Nat) (k:Nat→Value) (e:Nat→Dat)
 /-- The record of a loop over a function (in a thing that is eW). -/
 | lp (r:Loop)
def oA:Dat→List Value→Value
 | .cat _ _,cs=>.agg cs.toArray
 | _,cs=>cs.headD undef
def Stp (es:Array MapEntry) (clock:Nat):Prop:=(∀ x∈es.toList,x.born<clock)∧(es.toList.map (·.born)).Nodup
def CellsAt (S:Nat→Prop) (w:World) (r o:Nat) (cs:List Value):Prop :=
 ∀ j,j<cs.length→S r∧w.cell? ⟨r,o+j,none⟩=cs[j]?
def RdC (S:Nat→Prop) (w:World):Dat→List Value→Prop
 | .one v,cs=>cs=[v]∧v.oneCell'=true
 | .sl size n e,cs=>∃ a c,cs=[.slice a n c]∧n≤c∧c≤maxLen∧(a=none→n=0∧c=0)∧(∀ b,a=some b→0<n→b.spot=none) ∧
   ∀ i,i<n→∃ b cs',a=some b∧RdC S w (e i) cs'∧cs'.length=size∧CellsAt S w b.block (b.off+i*size) cs'
 | .ptr d,cs=>∃ r o cs',cs=[.pointer (some ⟨r,o,none⟩)]∧RdC S w d cs'∧CellsAt S w r o cs'
 | .cat a b,cs=>∃ c1 c2,cs=c1++c2∧RdC S w a c1∧RdC S w b c2
 | .mp n k e,cs=>∃ r es clock,cs=[.map (some r)]∧S r∧w.heap[r]? = some (.map es clock)∧Stp es clock∧es.size=n∧n≤maxLen ∧
   ∀ i,i<n→∃ x cs',es[i]? = some x∧x.key=k i∧RdC S w (e i) cs'∧x.val=oA (e i) cs'
 | .lp _,_=>False
def lF (S:Nat→Prop) (w w':World):Prop:=∀ b,S b→w'.heap[b]? = w.heap[b]?
theorem CellsAt.mono {S S':Nat→Prop} {w w':World} {r o:Nat} {cs:List Value} (h:CellsAt S w r o cs) (ha:lF S w w') (hs:∀ b,S b→S' b):CellsAt S' w' r o cs :=
 fun j hj=>let ⟨h1,h2⟩:=h j hj; ⟨hs _ h1,(World.cell?_of_block (w:=w) (ha r h1)).trans h2⟩
theorem RdC.mono {S S':Nat→Prop} {w w':World} (ha:lF S w w') (hs:∀ b,S b→S' b) :
  ∀ (d:Dat) (cs:List Value),RdC S w d cs→RdC S' w' d cs
 | .one _,_,h=>h
 | .sl size n e,cs,⟨a,c,h1,h2,h3,h4,h5,h6⟩ =>
  ⟨a,c,h1,h2,h3,h4,h5,fun i hi=>let ⟨b,cs',k1,k2,k3,k4⟩:=h6 i hi; ⟨b,cs',k1,RdC.mono ha hs (e i) cs' k2,k3,k4.mono ha hs⟩⟩
 | .ptr d,cs,⟨r,o,cs',h1,h2,h3⟩=>⟨r,o,cs',h1,RdC.mono ha hs d cs' h2,h3.mono ha hs⟩
 | .cat a b,cs,⟨c1,c2,h1,h2,h3⟩=>⟨c1,c2,h1,RdC.mono ha hs a c1 h2,RdC.mono ha hs b c2 h3⟩
 | .mp n k e,cs,⟨r,es,clock,h1,h2,h3,h4,h5,h6,h7⟩=>⟨r,es,clock,h1,hs r h2,(ha r h2).trans h3,h4,h5,h6,fun i hi =>
   let ⟨x,cs',k1,k2,k3,k4⟩:=h7 i hi; ⟨x,cs',k1,k2,RdC.mono ha hs (e i) cs' k3,k4⟩⟩
 | .lp _,_,h=>h.elim
def Rd (S:Nat→Prop) (w:World) (v:Value) (d:Dat):Prop:=∃ cs,RdC S w d cs∧v=oA d cs
theorem Rd.mono {S S':Nat→Prop} {w w':World} (ha:lF S w w') (hs:∀ b,S b→S' b) {v:Value} {d:Dat} (h:Rd S w v d):Rd S' w' v d :=
 let ⟨cs,h1,h2⟩:=h; ⟨cs,h1.mono ha hs,h2⟩
abbrev bA:=Value×Dat
def HF (S:Nat→Prop) (w:World) (fs:List bA):Prop:=∀ F,F∈fs→Rd S w F.1 F.2
theorem HF.mono {S S':Nat→Prop} {w w':World} (ha:lF S w w') (hs:∀ b,S b→S' b) {fs:List bA} (h:HF S w fs):HF S' w' fs :=
 fun F hF=>(h F hF).mono ha hs
structure Own where
 m:Nat
 v:Nat→Value
 size:Nat
 n:Nat→Nat
 e:Nat→Nat→Dat
def lR:Value→Option Nat
 | .slice (some a) _ _=>some a.block
 | .pointer (some a)=>some a.block
 | .map (some r)=>some r
 | _=>none
def Unfz (k:Nat) (fz:Nat×Nat):Prop:=fz.1=fz.2∨k≤fz.1
def RowAt (w:World) (r:Nat) (cur:Array Value) (t:TypeId):Prop:=∃ fz,w.heap[r]? = some (.cells cur t fz)∧Unfz cur.size fz
theorem RowAt.to {w w':World} {r:Nat} {cur:Array Value} {t:TypeId} (h:RowAt w r cur t) (e:w'.heap[r]? = w.heap[r]?):RowAt w' r cur t:=let ⟨z,h1,h2⟩:=h; ⟨z,e.trans h1,h2⟩
theorem RowAt.cell {w w':World} {r:Nat} {cur:Array Value} {t:TypeId} (h:RowAt w r cur t) (e:w'.heap[r]? = w.heap[r]?) (k:Nat):w'.cell? ⟨r,k,none⟩=cur[k]? := by
 obtain ⟨z,h1,_⟩:=h
 simp [World.cell?,e,h1]
theorem RowAt.inj {w:World} {r:Nat} {cur cur':Array Value} {t t':TypeId} (h:RowAt w r cur t) (h':RowAt w r cur' t'):cur=cur'∧t=t':=by
 obtain ⟨z,h1,_⟩:=h
 obtain ⟨z',h2,_⟩:=h'
 rw [h1] at h2
 simp only [Option.some.injEq,Obj.cells.injEq] at h2
 exact ⟨h2.1,h2.2.1⟩
theorem RowAt.lt {w:World} {r:Nat} {cur:Array Value} {t:TypeId} (h:RowAt w r cur t):r<w.heap.size:=let ⟨_,h1,_⟩:=h; (Array.getElem?_eq_some_iff.1 h1).1
def OwnRow (S:Nat→Prop) (B:Nat) (w:World) (r size n cap:Nat) (e:Nat→Dat):Prop :=
 B≤r∧n≤cap∧cap≤maxLen∧∃ cur t,RowAt w r cur t∧cur.size=cap*size ∧
  ∀ i,i<n→∃ cs,RdC S w (e i) cs∧cs.length=size∧∀ j,j<size→cur[i*size+j]? = cs[j]?
def Ents (S:Nat→Prop) (w:World) (es:Array MapEntry) (n:Nat) (k:Nat→Value) (e:Nat→Dat):Prop :=
 es.size=n∧∀ i,i<n→∃ x,es[i]? = some x∧x.key=k i∧∃ cs,RdC S w (e i) cs∧x.val=oA (e i) cs
def OwnObj (S:Nat→Prop) (B:Nat) (w:World) (v:Value) (e:Nat→Dat):Prop :=
 ∃ n k d,e 0=.mp n k d ∧
 ((∃ r es clock,v=.map (some r)∧B≤r∧w.heap[r]? = some (.map es clock)∧Stp es clock∧n≤maxLen∧Ents S w es n k d) ∨
 (∃ r b since seen last es clock,v=.pointer (some ⟨r,0,none⟩)∧B≤r∧((w.heap[r]? = some (.mapIter (some b) since seen last)∧S b∧w.heap[b]? = some (.map es clock)∧Stp es clock ∧
  (∀ x∈es.toList,x.born<since)∧since≤last∧since≤clock∧Ents S w (leftOf es seen) n k d ∧
  (∀ c,e 1=.one (.tuple c)→∃ (x:MapEntry) (s0:Array Nat),x∈es.toList∧seen=s0.push x.born∧c = #[x.key,x.val]∧last=clock)∧(∀ l,e 1≠.lp l)) ∨
  ∃ l,w.heap[r]? = some (.loop l)∧e 1=.lp l)))
def OwnVal (S:Nat→Prop) (B:Nat) (w:World) (v:Value) (size n:Nat) (e:Nat→Dat):Prop :=
 (v=.slice none 0 0∧n=0) ∨
 (∃ r cap,v=.slice (some ⟨r,0,none⟩) n cap∧OwnRow S B w r size n cap e) ∨
 (∃ r,v=.pointer (some ⟨r,0,none⟩)∧n=1∧OwnRow S B w r size 1 1 e) ∨
 (n=0∧size=0∧OwnObj S B w v e)
def Own.has (o:Own) (b:Nat):Prop:=∃ i,i<o.m∧lR (o.v i)=some b
def eW:List Own→Nat→Prop
 | [],_=>False
 | o::os,b=>o.has b∨eW os b
def Good (A:Nat→Prop) (os:List Own) (w:World) (b:Nat):Prop:=b<w.heap.size∧¬ A b∧¬ eW os b
def Apart:List Own→Prop
 | []=>True
 | o::os=>(∀ i j b,i<o.m→j<o.m→lR (o.v i)=some b→lR (o.v j)=some b→i=j)∧(∀ b,o.has b→¬ eW os b)∧Apart os
structure Ctx where
 A:Nat→Prop
 B:Nat
 w0:World
 /-- Blocks that hold what they hold (the marks of loops over functions,what was made ahead of its turn); and those among them that are the activation's marks. -/
 M:Nat→Obj→Prop
 D:(Nat→Prop)×List Deferred
def noM:(Nat→Prop)×List Deferred:=(fun _=>False,[])
def noO:Nat→Obj→Prop:=fun _ _=>False
def kQ:Obj:=.deferred (some [])
structure Holds (G:Ctx) (os:List Own) (fs:List bA) (w:World):Prop where
 low:∀ b,G.A b→b<w.heap.size∧¬ eW os b
 size:G.B≤w.heap.size
 below:Below G.B G.w0 w
 apart:Apart os
 own:∀ o,o∈os→∀ i,i<o.m→OwnVal (Good G.A os w) G.B w (o.v i) o.size (o.n i) (o.e i)
 facts:HF (Good G.A os w) w fs
 kept:∀ b o,G.M b o→G.B≤b∧w.heap[b]? = some o∧¬ eW os b
theorem dY {os:List Own} {b:Nat}:eW os b↔∃ o,o∈os∧o.has b:=by
 induction os with
 | nil=>simp [eW]
 | cons o os ih=>simp [eW,ih]
theorem OwnRow.mono {S S':Nat→Prop} {B:Nat} {w w':World} {r size n cap:Nat} {e:Nat→Dat} (ha:lF S w w') (hs:∀ b,S b→S' b)
  (hr:w'.heap[r]? = w.heap[r]?) (h:OwnRow S B w r size n cap e):OwnRow S' B w' r size n cap e:=by
 obtain ⟨h1,h2,h3,cur,t,h4,h5,h6⟩:=h
 exact ⟨h1,h2,h3,cur,t,h4.to hr,h5,fun i hi=>let ⟨cs,k1,k2,k3⟩:=h6 i hi; ⟨cs,k1.mono ha hs,k2,k3⟩⟩
theorem Ents.mono {S S':Nat→Prop} {w w':World} (ha:lF S w w') (hs:∀ b,S b→S' b) {es:Array MapEntry} {n:Nat} {k:Nat→Value} {e:Nat→Dat} (h:Ents S w es n k e):Ents S' w' es n k e :=
 ⟨h.1,fun i hi=>let ⟨x,h1,h2,cs,h3,h4⟩:=h.2 i hi; ⟨x,h1,h2,cs,h3.mono ha hs,h4⟩⟩
theorem OwnObj.mono {S S':Nat→Prop} {B:Nat} {w w':World} {v:Value} {e:Nat→Dat} (ha:lF S w w') (hs:∀ b,S b→S' b)
  (hr:∀ r,lR v=some r→w'.heap[r]? = w.heap[r]?) (h:OwnObj S B w v e):OwnObj S' B w' v e:=by
 obtain ⟨n,k,d,he,h⟩:=h
 refine ⟨n,k,d,he,?_⟩
 rcases h with ⟨r,es,clock,rfl,h1,h2,h3,h4,h5⟩ | ⟨r,b,since,seen,last,es,clock,rfl,h1,⟨h2,h3,h4,h5,h6,h7,h7',h8,h9⟩ | ⟨l,h2,h3⟩⟩
 ·exact .inl ⟨r,es,clock,rfl,h1,(hr r rfl).trans h2,h3,h4,h5.mono ha hs⟩
 ·exact .inr ⟨r,b,since,seen,last,es,clock,rfl,h1,.inl ⟨(hr r rfl).trans h2,hs b h3,(ha b h3).trans h4,h5,h6,h7,h7',h8.mono ha hs,h9⟩⟩
 ·exact .inr ⟨r,b,since,seen,last,es,clock,rfl,h1,.inr ⟨l,(hr r rfl).trans h2,h3⟩⟩
theorem OwnObj.blk {S:Nat→Prop} {B:Nat} {w:World} {v:Value} {e:Nat→Dat} (h:OwnObj S B w v e) {r:Nat} (hr:lR v=some r):B≤r∧r<w.heap.size:=by
 obtain ⟨n,k,d,_,h⟩:=h
 rcases h with ⟨r',es,clock,rfl,h1,h2,_⟩ | ⟨r',b,since,seen,last,es,clock,rfl,h1,⟨h2,_⟩ | ⟨l,h2,_⟩⟩
 ·simp only [lR,Option.some.injEq] at hr; subst hr; exact ⟨h1,(Array.getElem?_eq_some_iff.1 h2).1⟩
 ·simp only [lR,Option.some.injEq] at hr; subst hr; exact ⟨h1,(Array.getElem?_eq_some_iff.1 h2).1⟩
 ·simp only [lR,Option.some.injEq] at hr; subst hr; exact ⟨h1,(Array.getElem?_eq_some_iff.1 h2).1⟩
theorem OwnVal.mono {S S':Nat→Prop} {B:Nat} {w w':World} {v:Value} {size n:Nat} {e:Nat→Dat} (ha:lF S w w') (hs:∀ b,S b→S' b)
  (hr:∀ r,lR v=some r→w'.heap[r]? = w.heap[r]?) (h:OwnVal S B w v size n e):OwnVal S' B w' v size n e:=by
 rcases h with h | ⟨r,cap,rfl,h⟩ | ⟨r,rfl,hn,h⟩ | ⟨hn,hz,h⟩
 ·exact .inl h
 ·exact .inr (.inl ⟨r,cap,rfl,h.mono ha hs (hr r rfl)⟩)
 ·exact .inr (.inr (.inl ⟨r,rfl,hn,h.mono ha hs (hr r rfl)⟩))
 ·exact .inr (.inr (.inr ⟨hn,hz,h.mono ha hs hr⟩))
theorem OwnVal.blk {S:Nat→Prop} {B:Nat} {w:World} {v:Value} {size n:Nat} {e:Nat→Dat} (h:OwnVal S B w v size n e) {r:Nat} (hr:lR v=some r) :
  B≤r∧r<w.heap.size:=by
 rcases h with ⟨rfl,_⟩ | ⟨r',cap,rfl,h⟩ | ⟨r',rfl,_,h⟩ | ⟨_,_,h⟩
 ·simp [lR] at hr
 ·simp only [lR,Option.some.injEq] at hr
  subst hr
  obtain ⟨h1,_,_,cur,t,h4,_⟩:=h
  exact ⟨h1,h4.lt⟩
 ·simp only [lR,Option.some.injEq] at hr
  subst hr
  obtain ⟨h1,_,_,cur,t,h4,_⟩:=h
  exact ⟨h1,h4.lt⟩
 ·exact h.blk hr
theorem Holds.owned_lt {G:Ctx} {os:List Own} {fs:List bA} {w:World} (h:Holds G os fs w) {b:Nat} (hb:eW os b):G.B≤b∧b<w.heap.size:=by
 obtain ⟨o,ho,i,hi,hv⟩:=dY.1 hb
 exact (h.own o ho i hi).blk hv
theorem Holds.grow {G:Ctx} {os:List Own} {fs:List bA} {w w':World} (h:Holds G os fs w) (hb:Below w.heap.size w w'):Holds G os fs w':=by
 have hg:∀ b,Good G.A os w b→Good G.A os w' b:=fun b ⟨h1,h2⟩=>⟨Nat.lt_of_lt_of_le h1 hb.size,h2⟩
 have ha:lF (Good G.A os w) w w':=fun b hb'=>hb.block b hb'.1
 exact ⟨fun b hA=>let ⟨h1,h2⟩:=h.low b hA; ⟨Nat.lt_of_lt_of_le h1 hb.size,h2⟩,Nat.le_trans h.size hb.size,h.below.trans (hb.mono h.size),h.apart,
  fun o ho i hi=>(h.own o ho i hi).mono ha hg fun r hr=>hb.block r ((h.own o ho i hi).blk hr).2,h.facts.mono ha hg,
  fun b o hm=>let ⟨h1,h2,h3⟩:=h.kept b o hm; ⟨h1,(hb.block b (Array.getElem?_eq_some_iff.1 h2).1).trans h2,h3⟩⟩
theorem Holds.weaken_facts {G:Ctx} {os:List Own} {fs fs':List bA} {w:World} (h:Holds G os fs w) (hf:∀ F,F∈fs'→F∈fs):Holds G os fs' w :=
 { h with facts:=fun F hF=>h.facts F (hf F hF) }
theorem Holds.keptS {G:Ctx} {os os':List Own} {fs:List bA} {w w':World} (h:Holds G os fs w) (hb:Below w.heap.size w w') (ho:∀ b,eW os' b→eW os b∨w.heap.size≤b) :
  ∀ b o,G.M b o→G.B≤b∧w'.heap[b]? = some o∧¬ eW os' b:=fun b o hm=>by
 obtain ⟨k1,k2,k3⟩:=h.kept b o hm
 have hlt:b<w.heap.size:=(Array.getElem?_eq_some_iff.1 k2).1
 exact ⟨k1,(hb.block b hlt).trans k2,fun hh=>(ho b hh).elim k3 fun h=>absurd hlt (Nat.not_lt.2 h)⟩
theorem Holds.lowS {G:Ctx} {os os':List Own} {fs:List bA} {w w':World} (h:Holds G os fs w) (hb:w.heap.size≤w'.heap.size) (ho:∀ b,eW os' b→eW os b∨w.heap.size≤b) :
  ∀ b,G.A b→b<w'.heap.size∧¬ eW os' b:=fun b hA=>by
 obtain ⟨h1,h2⟩:=h.low b hA
 exact ⟨Nat.lt_of_lt_of_le h1 hb,fun hh=>(ho b hh).elim h2 fun h=>absurd h1 (Nat.not_lt.2 h)⟩
abbrev Fr:=List (Nat×Value)
def look:Fr→Nat→Option Value
 | [],_=>none
 | (k,v)::r,t=>match Nat.beq k t with
  | true=>some v
  | false=>look r t
def Marks (M:Nat→Prop) (base ds:List Deferred):Prop:=∃ rs:List Nat,rs.Nodup∧(∀ r,r∈rs→M r)∧ds=(rs.map fun r=>{ target:=.collected r,args := #[] })++base
theorem Marks.nil {M:Nat→Prop}:Marks M [] []:=⟨[],List.nodup_nil,fun _ h=>by simp at h,rfl⟩
def Ext (G G':Ctx):Prop:=∃ (X:Nat→Prop) (M:Nat→Obj→Prop) (D:Nat→Prop),G'=⟨G.A,G.B,G.w0,M,(D,G.D.2)⟩∧(∀ b o,M b o↔G.M b o∨(X b∧o=kQ))∧(∀ b,D b↔G.D.1 b∨X b)∧∀ b o,X b→¬ G.M b o
theorem Ext.refl (G:Ctx):Ext G G:=⟨fun _=>False,G.M,G.D.1,rfl,fun _ _=>by simp,fun _=>by simp,fun _ _ h=>h.elim⟩
theorem Ext.trans {G G' G'':Ctx} (h:Ext G G') (h':Ext G' G''):Ext G G'':=by
 obtain ⟨X,M,D,rfl,h1,h2,h3⟩:=h
 obtain ⟨X',M',D',rfl,k1,k2,k3⟩:=h'
 refine ⟨fun b=>X b∨X' b,M',D',rfl,fun b o=>?_,fun b=>?_,fun b o hb hm=>?_⟩
 ·rw [k1 b o]; show M b o∨(X' b∧o=kQ)↔_; rw [h1 b o,or_assoc,or_and_right]
 ·rw [k2 b]; show D b∨X' b↔_; rw [h2 b,or_assoc]
 ·rcases hb with hb | hb
  ·exact h3 b o hb hm
  ·exact k3 b o hb ((h1 b o).2 (.inl hm))
structure Knows (G:Ctx) (N:Nat) (f:Fr) (a:Act):Prop where
 defers:Marks (fun b=>G.D.1 b∧G.M b kQ) G.D.2 a.defers
 size:a.tmps.size=N
 holds:∀ t v,look f t=some v→a.tmps[t]? = some v
def jS (f:Fr):Option Tmp→Value→Fr
 | none,_=>f
 | some d,v=>(d,v)::f
def rM (N:Nat):Option Tmp→Bool
 | none=>true
 | some d=>Nat.blt d N
theorem Knows.put {G:Ctx} {N:Nat} {f:Fr} {a:Act} (h:Knows G N f a) {d:Option Tmp} (hd:rM N d=true) (v:Value):Knows G N (jS f d v) (a.put d v):=by
 cases d with
 | none=>exact h
 | some d =>
  have hd':d<N:=by simpa [rM] using hd
  refine ⟨by simpa [Act.put] using h.defers,by simp [Act.put,h.size],fun t u ht=>?_⟩
  simp only [jS,look] at ht
  simp only [Act.put,Array.getElem?_setIfInBounds,h.size]
  cases hb:Nat.beq d t with
  | true =>
   have:d=t:=Nat.eq_of_beq_eq_true hb
   subst this
   simp only [hb,Option.some.injEq] at ht
   simp [hd',ht]
  | false =>
   have:d≠t:=fun e=>by subst e; simp at hb
   simp only [hb] at ht
   simp [this,h.holds t u ht]
def ev (f:Fr):Operand→Option Value
 | .tmp t=>look f t
 | .const v=>some v
 | .global g=>some (.pointer (some ⟨g,0,none⟩))
 | .func g=>some (.func (.func g) #[] #[])
def evs (f:Fr):List Operand→Option (List Value)
 | []=>some []
 | x::r=>match ev f x,evs f r with
  | some v,some vs=>some (v::vs)
  | _,_=>none
theorem Knows.ev {G:Ctx} {N:Nat} {f:Fr} {a:Act} (h:Knows G N f a) {x:Operand} {v:Value} (hx:ev f x=some v):a.eval x=v:=by
 cases x with
 | tmp t=>simp only [Act.eval,Array.getD_eq_getD_getElem?,h.holds t v hx,Option.getD_some]
 | const u=>simpa [Go.Proofs.YtpbhjlljgbjjlaaGreat.ev,Act.eval] using hx
 | global g=>simpa [Go.Proofs.YtpbhjlljgbjjlaaGreat.ev,Act.eval] using hx
 | func g=>simpa [Go.Proofs.YtpbhjlljgbjjlaaGreat.ev,Act.eval] using hx
theorem Knows.evs {G:Ctx} {N:Nat} {f:Fr} {a:Act} (h:Knows G N f a):∀ {xs:List Operand} {vs:List Value},evs f xs=some vs→xs.map a.eval=vs
 | [],vs,hx=>by simp only [Go.Proofs.YtpbhjlljgbjjlaaGreat.evs,Option.some.injEq] at hx; simp [← hx]
 | x::r,vs,hx=>by
  simp only [Go.Proofs.YtpbhjlljgbjjlaaGreat.evs] at hx
  cases h1:Go.Proofs.YtpbhjlljgbjjlaaGreat.ev f x with
  | none=>simp [h1] at hx
  | some v =>
   cases h2:Go.Proofs.YtpbhjlljgbjjlaaGreat.evs f r with
   | none=>simp [h1,h2] at hx
   | some us =>
    simp only [h1,h2,Option.some.injEq] at hx
    subst hx
    simp [h.ev h1,h.evs h2]
def nthV:List Value→Nat→Option Value
 | [],_=>none
 | v::_,0=>some v
 | _::r,n+1=>nthV r n
theorem nthV_eq:∀ (l:List Value) (n:Nat),nthV l n=l[n]?
 | [],_=>by simp [nthV]
 | _::_,0=>by simp [nthV]
 | _::r,n+1=>by simp [nthV,nthV_eq r n]
def detv (f:Fr):Op→Option Value
 | .move x=>ev f x
 | .assign x=>ev f x
 | .pick c a b=>match ev f c with
  | some (.bool true)=>ev f a
  | some (.bool false)=>ev f b
  | _=>none
 | .unOp .not _ x=>match ev f x with
  | some (.bool b)=>some (.bool (!b))
  | _=>none
 | .extract x i=>match ev f x with
  | some (.tuple vs)=>nthV vs.toList i
  | _=>none
 | .makeFunc fn a b=>match evs f a.toList,evs f b.toList with
  | some x,some y=>some (.func fn x.toArray y.toArray)
  | _,_=>none
 | .nilCheck x=>match ev f x with
  | some (.pointer (some a))=>some (.pointer (some a))
  | _=>none
 | _=>none
abbrev cE:=Value→List Own→List bA→Prop
def Det (P:Program) (s:Sem Next) (os:List Own) (fs:List bA) (K:cE):Prop :=
 ∀ G w,Holds G os fs w→∃ v fs',(∀ w',Below w.heap.size w w'→s.run P w'=.ok (.value v) w')∧K v os fs'∧Holds G os fs' w
def Comes1 (P:Program) (R:Value→World→Prop):Result Next→Prop
 | .ok (.value v) w'=>R v w'
 | .ok .skip w'=>R undef w'
 | .ok (.enter g args) w'=>Calls P g args w' fun e w''=>∃ v,e=.returned v∧R v w''
 | .ok (.round l g tmps assign body) w'=>RoundIn (fnc none) 0 P l g tmps assign body w' fun e w''=>∃ v,e=.returned v∧R v w''
 | _=>False
def Grw (P:Program) (s:Sem Next) (os:List Own) (fs:List bA) (K:cE):Prop :=
 ∀ G w,Holds G os fs w→Comes1 P (fun v w'=>Below w.heap.size w w'∧∃ os' fs',K v os' fs'∧Holds G os' fs' w') (s.run P w)
def Dyn (P:Program) (s:Sem Next) (os:List Own) (fs:List bA) (K:cE):Prop :=
 ∀ G w,Holds G os fs w→Comes1 P (fun v w'=>∃ os' fs',K v os' fs'∧Holds G os' fs' w') (s.run P w)
theorem Comes1.mono {P:Program} {R R':Value→World→Prop} (h:∀ v w,R v w→R' v w):∀ {r:Result Next},Comes1 P R r→Comes1 P R' r:=by
 intro r hr
 match r,hr with
 | .ok (.value v) w',hr=>exact h _ _ hr
 | .ok .skip w',hr=>exact h _ _ hr
 | .ok (.enter g args) w',hr=>exact Calls.mono hr fun e w'' ⟨v,he,hv⟩=>⟨v,he,h _ _ hv⟩
 | .ok (.round l g tmps assign body) w',hr=>exact RoundIn.mono hr fun e w'' ⟨v,he,hv⟩=>⟨v,he,h _ _ hv⟩
theorem Det.grw {P:Program} {s:Sem Next} {os:List Own} {fs:List bA} {K:cE} (h:Det P s os fs K):Grw P s os fs K:=by
 intro G w hw
 obtain ⟨v,fs',h1,h2,h3⟩:=h G w hw
 rw [h1 w (Below.refl _ _)]
 exact ⟨Below.refl _ _,os,fs',h2,h3⟩
theorem Grw.dyn {P:Program} {s:Sem Next} {os:List Own} {fs:List bA} {K:cE} (h:Grw P s os fs K):Dyn P s os fs K :=
 fun G w hw=>(h G w hw).mono fun _ _ h=>h.2
def iF (x:Option Value) (k:Value→Prop):Prop :=
 match x with
 | some v=>k v
 | none=>False
def tQ (x:Option (List Value)) (k:List Value→Prop):Prop :=
 match x with
 | some v=>k v
 | none=>False
def val (s:Sem Value):Sem Next:=do pure (.value (← s))
def unt (s:Sem Unit):Sem Next:=do s; pure .skip
structure pC (P:Program) (op:BinOp) (t:TypeId) (x y:Operand) (a b:Value) (os:List Own) (fs:List bA) (K:cE):Prop where
 out:Det P (val (do eqGuard op t x y a b; binOp op t a b)) os fs K
structure pB (P:Program) (t:TypeId) (a:Value) (os:List Own) (fs:List bA) (K:cE):Prop where
 out:Det P (val (Instr.loadAt t a)) os fs K
structure oT (P:Program) (t:TypeId) (a x:Value) (os:List Own) (fs:List bA) (K:cE):Prop where
 out:Dyn P (unt (Instr.storeAt t a x)) os fs K
def DetA (P:Program) (s:Sem Next) (os:List Own) (fs:List bA) (K:cE):Prop :=
 ∀ G w,Holds G os fs w→∃ v fs',(∀ w',True→s.run P w'=.ok (.value v) w')∧K v os fs'∧Holds G os fs' w
theorem DetA.det {P:Program} {s:Sem Next} {os:List Own} {fs:List bA} {K:cE} (h:DetA P s os fs K):Det P s os fs K:=fun G w hw =>
 let ⟨v,fs',h1,h2,h3⟩:=h G w hw
 ⟨v,fs',fun w' _=>h1 w' trivial,h2,h3⟩
structure FieldAddrK (P:Program) (t:TypeId) (a:Value) (k:Nat) (os:List Own) (fs:List bA) (K:cE):Prop where
 outA:DetA P (val (Instr.fieldAt t a k)) os fs K
theorem FieldAddrK.out {P:Program} {t:TypeId} {a:Value} {k:Nat} {os:List Own} {fs:List bA} {K:cE} (h:FieldAddrK P t a k os fs K):Det P (val (Instr.fieldAt t a k)) os fs K:=h.outA.det
structure FieldK (P:Program) (t:TypeId) (a:Value) (k:Nat) (os:List Own) (fs:List bA) (K:cE):Prop where
 out:Det P (val (Instr.field t a k)) os fs K
structure jE (P:Program) (t:TypeId) (a i:Value) (os:List Own) (fs:List bA) (K:cE):Prop where
 out:Det P (val (Instr.indexAt t a i)) os fs K
structure IndexK (P:Program) (t:TypeId) (a i:Value) (os:List Own) (fs:List bA) (K:cE):Prop where
 out:Det P (val (Instr.index t a i)) os fs K
structure oU (P:Program) (t:TypeId) (a:Value) (l h m:Option Value) (os:List Own) (fs:List bA) (K:cE):Prop where
 out:Det P (val (Instr.sliceAt t a l h m)) os fs K
structure ConvK (P:Program) (d:Bool) (s t:TypeId) (a:Value) (os:List Own) (fs:List bA) (K:cE):Prop where
 out:Dyn P (val (convert s t a)) os fs K
 det:d=true→Nat.beq s t=false→Det P (val (convert s t a)) os fs K
structure UnK (P:Program) (op:UnOp) (a:Value) (os:List Own) (fs:List bA) (K:cE):Prop where
 out:Det P (val (Op.unary op a)) os fs K
structure oV (P:Program) (t:TypeId) (ps:List (Nat×Value)) (os:List Own) (fs:List bA) (K:cE):Prop where
 out:Det P (val (Instr.build t ps.toArray)) os fs K
structure LenK (P:Program) (ts:List TypeId) (ty:TypeId) (a:Value) (os:List Own) (fs:List bA) (K:cE):Prop where
 out:Det P (val (Builtin.len_ ts.toArray ty #[a])) os fs K
structure MaxK (P:Program) (mx:Bool) (ts:List TypeId) (ty:TypeId) (a:List Value) (os:List Own) (fs:List bA) (K:cE):Prop where
 out:Det P (val (match mx with | true=>Builtin.max_ ts.toArray ty a.toArray | false=>Builtin.min_ ts.toArray ty a.toArray)) os fs K
structure AllocK (P:Program) (t:TypeId) (os:List Own) (fs:List bA) (K:cE):Prop where
 out:Grw P (val (Instr.alloc t true (.tuple #[]))) os fs K
 /-- It may have been made ahead of its turn: whatever block holds the noughts,it is one's own now. -/
 any:∃ z:Array Value,(∀ w,(val (Instr.alloc t true (.tuple #[]))).run P w=.ok (.value (.pointer (some ⟨w.heap.size,0,none⟩))) (w.alloc (.cells z t))) ∧
  ∀ (A:Nat→Prop) (B:Nat) (w0:World) (M:Nat→Obj→Prop) (D:(Nat→Prop)×List Deferred) (w:World) (r:Nat),B≤r→¬ A r→(∀ o,¬ M r o)→w.heap[r]? = some (.cells z t) →
   Holds ⟨fun b=>A b∨b=r,B,w0,M,D⟩ os fs w→∃ os' fs',K (.pointer (some ⟨r,0,none⟩)) os' fs'∧Holds ⟨A,B,w0,M,D⟩ os' fs' w
structure BoxK (P:Program) (t:TypeId) (a:Value) (os:List Own) (fs:List bA) (K:cE):Prop where
 out:Grw P (val (Instr.box t a)) os fs K
structure BuildSliceK (P:Program) (t:TypeId) (n:Nat) (ps:List (Nat×Value)) (os:List Own) (fs:List bA) (K:cE):Prop where
 out:Grw P (val (Instr.buildSlice t n ps.toArray)) os fs K
structure MakeK (P:Program) (t:TypeId) (l c:Value) (os:List Own) (fs:List bA) (K:cE):Prop where
 out:Grw P (val (Instr.makeSlice t l c)) os fs K
structure AppendK (P:Program) (ts:List TypeId) (ty:TypeId) (a b:Value) (os:List Own) (fs:List bA) (K:cE):Prop where
 out:Dyn P (val (Builtin.append_ ts.toArray ty #[a,b])) os fs K
structure CopyK (P:Program) (ts:List TypeId) (ty:TypeId) (a b:Value) (os:List Own) (fs:List bA) (K:cE):Prop where
 out:Dyn P (val (Builtin.copy_ ts.toArray ty #[a,b])) os fs K
structure MapMakeK (P:Program) (t:TypeId) (os:List Own) (fs:List bA) (K:cE):Prop where
 out:Grw P (val (Instr.makeMap t none)) os fs K
structure MapPutK (P:Program) (t:TypeId) (m k x:Value) (os:List Own) (fs:List bA) (K:cE):Prop where
 out:Dyn P (unt (Instr.mapUpdate t m k x)) os fs K
structure MapGetK (P:Program) (t:TypeId) (m k:Value) (ok:Bool) (os:List Own) (fs:List bA) (K:cE):Prop where
 out:Det P (val (Instr.lookup t m k ok)) os fs K
structure RangeK (P:Program) (t:TypeId) (m:Value) (os:List Own) (fs:List bA) (K:cE):Prop where
 out:Grw P (val (Instr.range t m)) os fs K
structure NextK (P:Program) (it:Value) (b:Bool) (ty:TypeId) (os:List Own) (fs:List bA) (K:cE):Prop where
 out:Dyn P (val (Instr.next it b ty)) os fs K
structure EntryK (P:Program) (it:Value) (os:List Own) (fs:List bA) (K:cE):Prop where
 out:Dyn P (val (Instr.entry it)) os fs K
structure CallK (P:Program) (d:Bool) (fv:Value) (args:List Value) (os:List Own) (fs:List bA) (K:cE):Prop where
 out:Dyn P (do let x ← Deferred.ofValue fv args.toArray; invoke x.target x.args) os fs K
 grw:d=true→Grw P (do let x ← Deferred.ofValue fv args.toArray; invoke x.target x.args) os fs K
def evParts (f:Fr):List (Nat×Operand)→Option (List (Nat×Value))
 | []=>some []
 | (i,x)::r=>match ev f x,evParts f r with
  | some v,some vs=>some ((i,v)::vs)
  | _,_=>none
theorem Knows.evParts {G:Ctx} {N:Nat} {f:Fr} {a:Act} (h:Knows G N f a):∀ {xs:List (Nat×Operand)} {vs:List (Nat×Value)},evParts f xs=some vs→(xs.map fun (i,x)=>(i,a.eval x))=vs
 | [],vs,hx=>by simp only [Go.Proofs.YtpbhjlljgbjjlaaGreat.evParts,Option.some.injEq] at hx; simp [← hx]
 | (i,x)::r,vs,hx=>by
  simp only [Go.Proofs.YtpbhjlljgbjjlaaGreat.evParts] at hx
  cases h1:Go.Proofs.YtpbhjlljgbjjlaaGreat.ev f x with
  | none=>simp [h1] at hx
  | some v =>
   cases h2:Go.Proofs.YtpbhjlljgbjjlaaGreat.evParts f r with
   | none=>simp [h1,h2] at hx
   | some us =>
    simp only [h1,h2,Option.some.injEq] at hx
    subst hx
    simp only [List.map_cons,h.ev h1,h.evParts h2]
def withP (x:Option (List (Nat×Value))) (k:List (Nat×Value)→Prop):Prop :=
 match x with
 | some v=>k v
 | none=>False
def evOpt (f:Fr):Option Operand→Option (Option Value)
 | none=>some none
 | some x=>match ev f x with
  | some v=>some (some v)
  | none=>none
theorem Knows.evOpt {G:Ctx} {N:Nat} {f:Fr} {a:Act} (h:Knows G N f a) {x:Option Operand} {v:Option Value} (hx:evOpt f x=some v):x.map a.eval=v:=by
 cases x with
 | none=>simpa [Go.Proofs.YtpbhjlljgbjjlaaGreat.evOpt] using hx
 | some x =>
  simp only [Go.Proofs.YtpbhjlljgbjjlaaGreat.evOpt] at hx
  cases h1:Go.Proofs.YtpbhjlljgbjjlaaGreat.ev f x with
  | none=>simp [h1] at hx
  | some u=>simp only [h1,Option.some.injEq] at hx; subst hx; simp [h.ev h1]
def withO (x:Option (Option Value)) (k:Option Value→Prop):Prop :=
 match x with
 | some v=>k v
 | none=>False
def isC:Op→Bool
 | .call _=>true
 | _=>false
structure OthK (P:Program) (d:Bool) (f:Fr) (ty:TypeId) (op:Op) (os:List Own) (fs:List bA) (K:cE):Prop where
 out:∃ s:Sem Next,(∀ (e:Operand→Value) (o:Oper),o.op=op→o.type=ty→(∀ x v,x∈op.operands.toList→ev f x=some v→e x=v)→execOp e o=s)∧Dyn P s os fs K∧(d=true→Grw P s os fs K)∧(isC op=false→Det P s os fs K)
def DoK (P:Program) (d:Bool) (f:Fr) (ty:TypeId) (os:List Own) (fs:List bA) (K:cE):Op→Prop
 | .binOp op t x y _=>iF (ev f x) fun a=>iF (ev f y) fun b=>pC P op t x y a b os fs K
 | .load t x=>iF (ev f x) fun a=>pB P t a os fs K
 | .store t x y=>iF (ev f x) fun a=>iF (ev f y) fun b=>oT P t a b os fs K
 | .fieldAddr t x k=>iF (ev f x) fun a=>FieldAddrK P t a k os fs K
 | .field t x k=>iF (ev f x) fun a=>FieldK P t a k os fs K
 | .indexAddr t x y=>iF (ev f x) fun a=>iF (ev f y) fun b=>jE P t a b os fs K
 | .index t x y=>iF (ev f x) fun a=>iF (ev f y) fun b=>IndexK P t a b os fs K
 | .slice t x l h m=>iF (ev f x) fun a=>withO (evOpt f l) fun l=>withO (evOpt f h) fun h=>withO (evOpt f m) fun m=>oU P t a l h m os fs K
 | .convert s t x=>iF (ev f x) fun a=>ConvK P d s t a os fs K
 | .unOp op _ x=>iF (ev f x) fun a=>UnK P op a os fs K
 | .build t ps=>withP (evParts f ps.toList) fun ps=>oV P t ps os fs K
 | .buildSlice t n ps=>withP (evParts f ps.toList) fun ps=>BuildSliceK P t n ps os fs K
 | .alloc t=>AllocK P t os fs K
 | .box t x=>iF (ev f x) fun a=>BoxK P t a os fs K
 | .makeSlice t x y=>iF (ev f x) fun a=>iF (ev f y) fun b=>MakeK P t a b os fs K
 | .makeMap t none=>MapMakeK P t os fs K
 | .mapUpdate t m k x=>iF (ev f m) fun a=>iF (ev f k) fun b=>iF (ev f x) fun c=>MapPutK P t a b c os fs K
 | .lookup t m k ok=>iF (ev f m) fun a=>iF (ev f k) fun b=>MapGetK P t a b ok os fs K
 | .range t m=>iF (ev f m) fun a=>RangeK P t a os fs K
 | .next it b=>iF (ev f it) fun a=>NextK P a b ty os fs K
 | .entry it=>iF (ev f it) fun a=>EntryK P a os fs K
 | .call c=>match c.callee with
  | .value g=>iF (ev f g) fun g=>tQ (evs f c.args.toList) fun vs=>CallK P d g vs os fs K
  | .builtin .len=>tQ (evs f c.args.toList) fun vs=>match vs with
   | [a]=>LenK P c.argTypes.toList ty a os fs K
   | _=>False
  | .builtin .append=>tQ (evs f c.args.toList) fun vs=>match vs with
   | [a,b]=>AppendK P c.argTypes.toList ty a b os fs K
   | _=>False
  | .builtin .copy=>tQ (evs f c.args.toList) fun vs=>match vs with
   | [a,b]=>CopyK P c.argTypes.toList ty a b os fs K
   | _=>False
  | .builtin .max=>tQ (evs f c.args.toList) fun vs=>MaxK P true c.argTypes.toList ty vs os fs K
  | .builtin .min=>tQ (evs f c.args.toList) fun vs=>MaxK P false c.argTypes.toList ty vs os fs K
  | _=>OthK P d f ty (.call c) os fs K
 | .move _=>False
 | .assign _=>False
 | .pick _ _ _=>False
 | .extract _ _=>False
 | .nilCheck _=>False
 | op=>OthK P d f ty op os fs K
theorem bE {x:Option Value} {k:Value→Prop} (h:iF x k):∃ v,x=some v∧k v:=by
 cases x with
 | none=>exact h.elim
 | some v=>exact ⟨v,rfl,h⟩
theorem eJ {x:Option (List Value)} {k:List Value→Prop} (h:tQ x k):∃ v,x=some v∧k v:=by
 cases x with
 | none=>exact h.elim
 | some v=>exact ⟨v,rfl,h⟩
theorem n5 {x:Option (List (Nat×Value))} {k:List (Nat×Value)→Prop} (h:withP x k):∃ v,x=some v∧k v:=by
 cases x with
 | none=>exact h.elim
 | some v=>exact ⟨v,rfl,h⟩
theorem j7 {x:Option (Option Value)} {k:Option Value→Prop} (h:withO x k):∃ v,x=some v∧k v:=by
 cases x with
 | none=>exact h.elim
 | some v=>exact ⟨v,rfl,h⟩
theorem fI {α β:Type} (xs:Array α) (g:α→β) (l:List β) (h:xs.toList.map g=l):xs.map g=l.toArray :=
 Array.toList_inj.1 (by rw [Array.toList_map,h])
theorem detv_sound {G:Ctx} {N:Nat} {f:Fr} {a:Act} {o:Oper} {v:Value} (P:Program) (hk:Knows G N f a) (h:detv f o.op=some v) (w:World) :
  (execOp a.eval o).run P w=.ok (.value v) w:=by
 unfold execOp
 unfold detv at h
 split at h
 ·rename_i x hop; simp only [hop,hk.ev h]; rfl
 ·rename_i x hop; simp only [hop,hk.ev h]; rfl
 ·rename_i c x y hop
  split at h
  ·rename_i hc; simp only [hop,hk.ev hc,hk.ev h]; rfl
  ·rename_i hc; simp only [hop,hk.ev hc,hk.ev h]; rfl
  ·cases h
 ·rename_i t x hop
  split at h
  ·rename_i b hb; simp only [Option.some.injEq] at h; subst h; simp only [hop,hk.ev hb]; rfl
  ·cases h
 ·rename_i x i hop
  split at h
  ·rename_i vs hb
   rw [nthV_eq] at h
   have h':vs[i]? = some v:=by simpa using h
   simp only [hop,hk.ev hb,Instr.extract,h']; rfl
  ·cases h
 ·rename_i fn x y hop
  split at h
  ·rename_i u1 u2 h1 h2
   simp only [Option.some.injEq] at h
   subst h
   simp only [hop,fI _ _ _ (hk.evs h1),fI _ _ _ (hk.evs h2)]; rfl
  ·cases h
 ·rename_i x hop
  split at h
  ·rename_i b hb; simp only [Option.some.injEq] at h; subst h; simp only [hop,hk.ev hb]; rfl
  ·cases h
 ·cases h
theorem DoK.sound {G:Ctx} {P:Program} {N:Nat} {d:Bool} {f:Fr} {a:Act} {os:List Own} {fs:List bA} {K:cE} (hk:Knows G N f a) (o:Oper)
  (h:DoK P d f o.type os fs K o.op):Dyn P (execOp a.eval o) os fs K:=by
 have oth:OthK P d f o.type o.op os fs K→Dyn P (execOp a.eval o) os fs K:=fun h=>by
  obtain ⟨s,h1,h2,_⟩:=h.out
  rw [h1 a.eval o rfl rfl fun x v _ hx=>hk.ev hx]; exact h2
 unfold execOp at oth ⊢
 unfold DoK at h
 split at h
 ·rename_i hop; obtain ⟨x,h1,h⟩:=bE h; obtain ⟨y,h2,h⟩:=bE h
  simp only [hop,hk.ev h1,hk.ev h2]; exact h.out.grw.dyn
 ·rename_i hop; obtain ⟨x,h1,h⟩:=bE h
  simp only [hop,hk.ev h1]; exact h.out.grw.dyn
 ·rename_i hop; obtain ⟨x,h1,h⟩:=bE h; obtain ⟨y,h2,h⟩:=bE h
  simp only [hop,hk.ev h1,hk.ev h2]; exact h.out
 ·rename_i hop; obtain ⟨x,h1,h⟩:=bE h
  simp only [hop,hk.ev h1]; exact h.out.grw.dyn
 ·rename_i hop; obtain ⟨x,h1,h⟩:=bE h
  simp only [hop,hk.ev h1]; exact h.out.grw.dyn
 ·rename_i hop; obtain ⟨x,h1,h⟩:=bE h; obtain ⟨y,h2,h⟩:=bE h
  simp only [hop,hk.ev h1,hk.ev h2]; exact h.out.grw.dyn
 ·rename_i hop; obtain ⟨x,h1,h⟩:=bE h; obtain ⟨y,h2,h⟩:=bE h
  simp only [hop,hk.ev h1,hk.ev h2]; exact h.out.grw.dyn
 ·rename_i hop; obtain ⟨x,h1,h⟩:=bE h; obtain ⟨y,h2,h⟩:=j7 h; obtain ⟨z,h3,h⟩:=j7 h; obtain ⟨u,h4,h⟩:=j7 h
  simp only [hop,hk.ev h1,hk.evOpt h2,hk.evOpt h3,hk.evOpt h4]; exact h.out.grw.dyn
 ·rename_i hop; obtain ⟨x,h1,h⟩:=bE h
  simp only [hop,hk.ev h1]; exact h.out
 ·rename_i hop; obtain ⟨x,h1,h⟩:=bE h
  simp only [hop,hk.ev h1]; exact h.out.grw.dyn
 ·rename_i hop; obtain ⟨x,h1,h⟩:=n5 h
  simp only [hop,fI _ _ _ (hk.evParts h1)]; exact h.out.grw.dyn
 ·rename_i hop; obtain ⟨x,h1,h⟩:=n5 h
  simp only [hop,fI _ _ _ (hk.evParts h1)]; exact h.out.dyn
 ·rename_i hop; simp only [hop]; exact h.out.dyn
 ·rename_i hop; obtain ⟨x,h1,h⟩:=bE h
  simp only [hop,hk.ev h1]; exact h.out.dyn
 ·rename_i hop; obtain ⟨x,h1,h⟩:=bE h; obtain ⟨y,h2,h⟩:=bE h
  simp only [hop,hk.ev h1,hk.ev h2]; exact h.out.dyn
 ·rename_i hop; simp only [hop,Option.map_none]; exact h.out.dyn
 ·rename_i hop; obtain ⟨x,h1,h⟩:=bE h; obtain ⟨y,h2,h⟩:=bE h; obtain ⟨z,h3,h⟩:=bE h
  simp only [hop,hk.ev h1,hk.ev h2,hk.ev h3]; exact h.out
 ·rename_i hop; obtain ⟨x,h1,h⟩:=bE h; obtain ⟨y,h2,h⟩:=bE h
  simp only [hop,hk.ev h1,hk.ev h2]; exact h.out.grw.dyn
 ·rename_i hop; obtain ⟨x,h1,h⟩:=bE h
  simp only [hop,hk.ev h1]; exact h.out.dyn
 ·rename_i hop; obtain ⟨x,h1,h⟩:=bE h
  simp only [hop,hk.ev h1]; exact h.out
 ·rename_i hop; obtain ⟨x,h1,h⟩:=bE h
  simp only [hop,hk.ev h1]; exact h.out
 ·rename_i c hop
  simp only [hop]
  split at h
  ·rename_i hc; obtain ⟨x,h1,h⟩:=bE h; obtain ⟨y,h2,h⟩:=eJ h
   simp only [resolve,hc,hk.ev h1,fI _ _ _ (hk.evs h2)]
   exact h.out
  ·rename_i hc; obtain ⟨y,h2,h⟩:=eJ h
   split at h
   ·simp only [resolve,hc,fI _ _ _ (hk.evs h2)]
    exact h.out.grw.dyn
   ·exact h.elim
  ·rename_i hc; obtain ⟨y,h2,h⟩:=eJ h
   split at h
   ·simp only [resolve,hc,fI _ _ _ (hk.evs h2)]
    exact h.out
   ·exact h.elim
  ·rename_i hc; obtain ⟨y,h2,h⟩:=eJ h
   split at h
   ·simp only [resolve,hc,fI _ _ _ (hk.evs h2)]
    exact h.out
   ·exact h.elim
  ·rename_i hc; obtain ⟨y,h2,h⟩:=eJ h
   simp only [resolve,hc,fI _ _ _ (hk.evs h2)]
   exact h.out.grw.dyn
  ·rename_i hc; obtain ⟨y,h2,h⟩:=eJ h
   simp only [resolve,hc,fI _ _ _ (hk.evs h2)]
   exact h.out.grw.dyn
  ·simp only [hop] at oth; exact oth h
 ·exact h.elim
 ·exact h.elim
 ·exact h.elim
 ·exact h.elim
 ·exact h.elim
 ·exact oth h
abbrev iX:=Exit→Fr→List Own→List bA→Prop
abbrev jD:=Fr→List Own→List bA→Prop
def oC:List Oper→Nat→Option Oper
 | [],_=>none
 | v::_,0=>some v
 | _::r,n+1=>oC r n
theorem f9:∀ (l:List Oper) (n:Nat),oC l n=l[n]?
 | [],_=>by simp [oC]
 | _::_,0=>by simp [oC]
 | _::r,n+1=>by simp [oC,f9 r n]
def sameB:Bool→Bool→Bool
 | true,true=>true
 | false,false=>true
 | _,_=>false
def gd (all:List Oper) (f:Fr):Option (Nat×Bool)→Option Bool
 | none=>some true
 | some (j,want)=>match oC all j with
  | none=>none
  | some o=>match o.dst with
   | none=>none
   | some t=>match look f t with
    | some (.bool b)=>some (sameB b want)
    | some (.tuple _)=>some false
    | _=>none
theorem gd_sound {G:Ctx} {N:Nat} {f:Fr} {a:Act} {ops:Array Oper} {o:Oper} {b:Bool} (hk:Knows G N f a) (h:gd ops.toList f o.guard=some b) :
  Region.wanted o (yielded ops a.tmps)=b:=by
 unfold gd at h
 unfold Region.wanted
 split at h
 ·rename_i hg; simp only [hg]; simpa using h
 ·rename_i j want hg
  simp only [hg]
  split at h
  ·cases h
  ·rename_i o' ho
   split at h
   ·cases h
   ·rename_i t ht
    rw [f9] at ho
    have ho':ops[j]? = some o':=by simpa using ho
    split at h
    ·rename_i b' hb
     simp only [yielded,ho',Option.bind_some,ht,hk.holds _ _ hb]
     cases b' <;> cases want <;> simp_all [sameB]
    ·rename_i vs hb
     simp only [yielded,ho',Option.bind_some,ht,hk.holds _ _ hb]
     simpa using h
    ·cases h
def orF (x:Option Bool) (y z:Prop):Prop :=
 match x with
 | some true=>y
 | some false=>z
 | none=>False
def orV (x:Option Value) (k:Value→Prop) (z:Prop):Prop :=
 match x with
 | some v=>k v
 | none=>z
noncomputable def VCops (P:Program) (d:Bool) (all:List Oper) (l:List Oper):Fr→List Own→List bA→jD→Prop :=
 @List.rec Oper (fun _=>Fr→List Own→List bA→jD→Prop) (fun f os fs K=>K f os fs)
  (fun o _ ih f os fs K=>orF (gd all f o.guard)
   (orV (detv f o.op) (fun v=>ih (jS f o.dst v) os fs K) (DoK P d f o.type os fs (fun v os fs=>ih (jS f o.dst v) os fs K) o.op))
   (ih (jS f o.dst undef) os fs K)) l
theorem kC (P:Program) (d:Bool) (all:List Oper) (o:Oper) (r:List Oper) (f:Fr) (os:List Own) (fs:List bA) (K:jD) :
  VCops P d all (o::r) f os fs K=orF (gd all f o.guard)
   (orV (detv f o.op) (fun v=>VCops P d all r (jS f o.dst v) os fs K) (DoK P d f o.type os fs (fun v os fs=>VCops P d all r (jS f o.dst v) os fs K) o.op))
   (VCops P d all r (jS f o.dst undef) os fs K):=rfl
def Qhat (N:Nat) (G:Ctx) (Q:iX) (e:Exit) (a:Act) (w:World):Prop :=
 ∃ G',Ext G G'∧∃ f os fs,Knows G' N f a∧Holds G' os fs w∧Q e f os fs
theorem Qhat.ext {N:Nat} {G G':Ctx} {Q:iX} {e:Exit} {a:Act} {w:World} (h:Ext G G'):Qhat N G' Q e a w→Qhat N G Q e a w:=fun ⟨G2,h2,h3⟩=>⟨G2,h.trans h2,h3⟩
def eO (N:Nat):List Oper→Bool
 | []=>true
 | o::r=>rM N o.dst&&eO N r
theorem VCops.sound {P:Program} {N:Nat} {ops:Array Oper} {d:Bool} {G:Ctx} {Q:iX} :
  ∀ (l:List Oper) (f:Fr) (os:List Own) (fs:List bA),eO N l=true→VCops P d ops.toList l f os fs (Q .normal) →
   ∀ (a:Act) (w:World),Knows G N f a→Holds G os fs w→iY P ops (Qhat N G Q) l a w
 | [],f,os,fs,_,h,a,w,hk,hw=>⟨G,Ext.refl G,f,os,fs,hk,hw,h⟩
 | o::r,f,os,fs,hd,h,a,w,hk,hw=>by
  simp only [eO,Bool.and_eq_true] at hd
  rw [kC] at h
  unfold iY
  cases hg:gd ops.toList f o.guard with
  | none=>simp only [hg,orF] at h
  | some b =>
   rw [gd_sound hk hg]
   cases b with
   | false =>
    simp only [hg,orF] at h
    exact VCops.sound r _ os fs hd.2 h _ w (hk.put hd.1 _) hw
   | true =>
    simp only [hg,orF] at h
    simp only [if_true]
    left
    unfold Oper.wpA
    cases hv:detv f o.op with
    | some v =>
     simp only [hv,orV] at h
     rw [detv_sound P hk hv w]
     exact VCops.sound r _ os fs hd.2 h _ w (hk.put hd.1 _) hw
    | none =>
     simp only [hv,orV] at h
     have:=DoK.sound (P:=P) (d:=d) hk o h G w hw
     generalize (execOp a.eval o).run P w=res at this
     match res,this with
     | .ok (.value v) w',⟨os',fs',h1,h2⟩=>exact VCops.sound r _ os' fs' hd.2 h1 _ w' (hk.put hd.1 _) h2
     | .ok .skip w',⟨os',fs',h1,h2⟩=>exact VCops.sound r _ os' fs' hd.2 h1 _ w' (hk.put hd.1 _) h2
     | .ok (.enter g args) w',hc =>
      refine Calls.mono hc ?_
      rintro e w'' ⟨v,rfl,os',fs',h1,h2⟩
      exact VCops.sound r _ os' fs' hd.2 h1 _ w'' (hk.put hd.1 _) h2
     | .ok (.round l g tmps assign body) w',hc =>
      refine RoundIn.mono hc ?_
      rintro e w'' ⟨v,rfl,os',fs',h1,h2⟩
      exact VCops.sound r _ os' fs' hd.2 h1 _ w'' (hk.put hd.1 _) h2
structure DrawK (P:Program) (N id:Nat) (ops:List Oper) (f:Fr) (os:List Own) (fs:List bA) (K:jD):Prop where
 out:∀ (G:Ctx) (Q:iX),Q .normal=K→∀ (r:Option Nat) a w,Knows G N f a→Holds G os fs w→(Code.region id ops.toArray true).wpIn (fnc r) 0 P (Qhat N G Q) a w
def noR:Code→Bool
 | .seq a b=>noR a&&noR b
 | .cond _ a b=>noR a&&noR b
 | .block _ c=>noR c
 | .loop c=>noR c
 | .scope c=>noR c
 | .rangeFunc _ _ _ _=>false
 | _=>true
def FitR (r:Option Nat) (c:Code):Prop:=r=none∨noR c=true
structure OverK (P:Program) (N:Nat) (g:Operand) (ps:Array Tmp) (assign body:Code) (f:Fr) (os:List Own) (fs:List bA) (Q:iX):Prop where
 out:∀ (G:Ctx) a w,Knows G N f a→Holds G os fs w→(Code.rangeFunc g ps assign body).wpIn (fnc none) 0 P (Qhat N G Q) a w
structure LoopK (P:Program) (N:Nat) (c:Code) (f:Fr) (os:List Own) (fs:List bA) (Q:iX):Prop where
 out:∀ (G:Ctx) (r:Option Nat),FitR r c→∀ a w,Knows G N f a→Holds G os fs w→(Code.loop c).wpIn (fnc r) 0 P (Qhat N G Q) a w
def thenQ (next:jD) (Q:iX):iX
 | .normal=>next
 | e=>Q e
def blockQ (id:Nat) (Q:iX):iX
 | .exit id'=>match Nat.beq id' id with
  | true=>Q .normal
  | false=>Q (.exit id')
 | e=>Q e
def scopeQ (Q:iX):iX
 | .goto _=>fun _ _ _=>False
 | e=>Q e
def Bsel (b:Bool) (x y:Prop):Prop :=
 match b with
 | true=>x
 | false=>y
def withB (x:Option Value) (k:Bool→Prop):Prop :=
 match x with
 | some (.bool b)=>k b
 | _=>False
noncomputable def VC (P:Program) (N:Nat) (c:Code):Fr→List Own→List bA→iX→Prop :=
 @Code.rec (fun _=>Fr→List Own→List bA→iX→Prop)
  (fun f os fs Q=>Q .normal f os fs)
  (fun id ops d f os fs Q=>Bsel d (DrawK P N id ops.toList f os fs (Q .normal)) (VCops P false ops.toList ops.toList f os fs (Q .normal)))
  (fun _ _ a b f os fs Q=>a f os fs (thenQ (fun f os fs=>b f os fs Q) Q))
  (fun c _ _ a b f os fs Q=>withB (ev f c) fun t=>Bsel t (a f os fs Q) (b f os fs Q))
  (fun id _ c f os fs Q=>c f os fs (blockQ id Q))
  (fun c _ f os fs Q=>LoopK P N c f os fs Q)
  (fun g ps assign body _ _ f os fs Q=>OverK P N g ps assign body f os fs Q)
  (fun id f os fs Q=>Q (.exit id) f os fs)
  (fun _ c f os fs Q=>c f os fs (scopeQ Q))
  (fun _ f os fs Q=>Q .normal f os fs)
  (fun _ _ _ _ _=>False)
  (fun f os fs Q=>Q .ret f os fs)
  (fun _ _ _ _ _=>False) c
def fH (N:Nat):Code→Bool
 | .region _ ops _=>eO N ops.toList
 | .seq a b=>fH N a&&fH N b
 | .cond _ a b=>fH N a&&fH N b
 | .block _ c=>fH N c
 | .loop c=>fH N c
 | .scope c=>fH N c
 | _=>true
theorem VC.soundR {P:Program} {N:Nat} {r:Option Nat} :
  ∀ (c:Code) (G:Ctx) (f:Fr) (os:List Own) (fs:List bA) (Q:iX),fH N c=true→FitR r c→VC P N c f os fs Q →
   ∀ (a:Act) (w:World),Knows G N f a→Holds G os fs w→c.wpIn (fnc r) 0 P (Qhat N G Q) a w
 | .skip,G,f,os,fs,Q,_,_,h,a,w,hk,hw=>wpIn_skip ⟨G,Ext.refl G,f,os,fs,hk,hw,h⟩
 | .region id ops d,G,f,os,fs,Q,hd,_,h,a,w,hk,hw=>by
  cases d with
  | true=>exact h.out G Q rfl r a w hk hw
  | false=>exact wpR_list (VCops.sound _ f os fs hd h a w hk hw)
 | .seq x y,G,f,os,fs,Q,hd,hr,h,a,w,hk,hw=>by
  simp only [fH,Bool.and_eq_true] at hd
  have hr1:FitR r x:=hr.imp id fun h=>by simp only [noR,Bool.and_eq_true] at h; exact h.1
  have hr2:FitR r y:=hr.imp id fun h=>by simp only [noR,Bool.and_eq_true] at h; exact h.2
  refine wpIn_seq (wpIn_mono (VC.soundR x G f os fs _ hd.1 hr1 h a w hk hw) ?_)
  rintro e a' w' ⟨G',hx,f',os',fs',hk',hw',hq⟩
  cases e with
  | normal=>exact wpIn_mono (VC.soundR y G' f' os' fs' Q hd.2 hr2 hq a' w' hk' hw') fun _ _ _ h=>h.ext hx
  | exit id=>exact ⟨G',hx,f',os',fs',hk',hw',hq⟩
  | goto l=>exact ⟨G',hx,f',os',fs',hk',hw',hq⟩
  | ret=>exact ⟨G',hx,f',os',fs',hk',hw',hq⟩
  | panic ch=>exact ⟨G',hx,f',os',fs',hk',hw',hq⟩
  | outgrown=>exact ⟨G',hx,f',os',fs',hk',hw',hq⟩
 | .cond c x y,G,f,os,fs,Q,hd,hr,h,a,w,hk,hw=>by
  simp only [fH,Bool.and_eq_true] at hd
  have hr1:FitR r x:=hr.imp id fun h=>by simp only [noR,Bool.and_eq_true] at h; exact h.1
  have hr2:FitR r y:=hr.imp id fun h=>by simp only [noR,Bool.and_eq_true] at h; exact h.2
  replace h:withB (ev f c) (fun t=>Bsel t (VC P N x f os fs Q) (VC P N y f os fs Q)):=h
  unfold withB at h
  split at h
  ·rename_i b hb
   refine wpIn_cond (hk.ev hb) ?_
   cases b with
   | true=>exact VC.soundR x G f os fs Q hd.1 hr1 h a w hk hw
   | false=>exact VC.soundR y G f os fs Q hd.2 hr2 h a w hk hw
  ·exact h.elim
 | .block id c,G,f,os,fs,Q,hd,hr,h,a,w,hk,hw=>by
  refine wpIn_block (wpIn_mono (VC.soundR c G f os fs _ hd hr h a w hk hw) ?_)
  rintro e a' w' ⟨G',hx,f',os',fs',hk',hw',hq⟩
  cases e with
  | exit id' =>
   simp only [blockQ] at hq
   cases hb:Nat.beq id' id with
   | true =>
    simp only [hb] at hq
    simp only [Exit.inBlock,Nat.eq_of_beq_eq_true hb,if_true]
    exact ⟨G',hx,f',os',fs',hk',hw',hq⟩
   | false =>
    simp only [hb] at hq
    have:id'≠id:=fun e=>by subst e; simp at hb
    simp only [Exit.inBlock,this,if_false]
    exact ⟨G',hx,f',os',fs',hk',hw',hq⟩
  | normal=>exact ⟨G',hx,f',os',fs',hk',hw',hq⟩
  | goto l=>exact ⟨G',hx,f',os',fs',hk',hw',hq⟩
  | ret=>exact ⟨G',hx,f',os',fs',hk',hw',hq⟩
  | panic ch=>exact ⟨G',hx,f',os',fs',hk',hw',hq⟩
  | outgrown=>exact ⟨G',hx,f',os',fs',hk',hw',hq⟩
 | .loop c,G,f,os,fs,Q,_,hr,h,a,w,hk,hw=>h.out G r hr a w hk hw
 | .exit id,G,f,os,fs,Q,_,_,h,a,w,hk,hw=>wpIn_exit ⟨G,Ext.refl G,f,os,fs,hk,hw,h⟩
 | .scope c,G,f,os,fs,Q,hd,hr,h,a,w,hk,hw=>by
  refine wpIn_scope (wpIn_mono (VC.soundR c G f os fs _ hd hr h a w hk hw) ?_)
  rintro e a' w' ⟨G',hx,f',os',fs',hk',hw',hq⟩
  cases e with
  | goto l=>exact hq.elim
  | exit id'=>exact ⟨G',hx,f',os',fs',hk',hw',hq⟩
  | normal=>exact ⟨G',hx,f',os',fs',hk',hw',hq⟩
  | ret=>exact ⟨G',hx,f',os',fs',hk',hw',hq⟩
  | panic ch=>exact ⟨G',hx,f',os',fs',hk',hw',hq⟩
  | outgrown=>exact ⟨G',hx,f',os',fs',hk',hw',hq⟩
 | .label _,G,f,os,fs,Q,_,_,h,a,w,hk,hw=>wpIn_label ⟨G,Ext.refl G,f,os,fs,hk,hw,h⟩
 | .ret,G,f,os,fs,Q,_,_,h,a,w,hk,hw=>wpIn_ret ⟨G,Ext.refl G,f,os,fs,hk,hw,h⟩
 | .goto _,_,_,_,_,_,_,_,h,_,_,_,_=>h.elim
 | .refuse _,_,_,_,_,_,_,_,h,_,_,_,_=>h.elim
 | .rangeFunc g ps x y,G,f,os,fs,Q,_,hr,h,a,w,hk,hw=>by
  rcases hr with rfl | h0
  ·exact h.out G a w hk hw
  ·simp [noR] at h0
def bookO:Obj→Prop
 | .deferred _=>True
 | _=>False
theorem cell_put {w:World} {r:Nat} {o o':Obj} (hr:w.heap[r]? = some o) (ho:bookO o) {p:Addr} {v:Value} (h:w.cell? p=some v):(w.putObj r o').cell? p=some v:=by
 have hne:p.block≠r:=fun e=>by
  rw [← e] at hr
  unfold World.cell? at h
  rw [hr] at h
  cases o <;> simp_all [bookO]
 rw [World.cell?_of_block (World.putObj_heap_other hne)]
 exact h
theorem CellsAt.put {S S':Nat→Prop} {w:World} {r:Nat} {o o':Obj} (hr:w.heap[r]? = some o) (ho:bookO o) (hs:∀ b,S b→S' b) {q off:Nat} {cs:List Value} (h:CellsAt S w q off cs):CellsAt S' (w.putObj r o') q off cs :=
 fun j hj=>by
  obtain ⟨h1,h2⟩:=h j hj
  refine ⟨hs _ h1,?_⟩
  obtain ⟨v,hv⟩:∃ v,cs[j]? = some v:=⟨cs[j],by simp [hj]⟩
  rw [hv] at h2 ⊢
  exact cell_put hr ho h2
theorem RdC.put {S S':Nat→Prop} {w:World} {r:Nat} {o o':Obj} (hr:w.heap[r]? = some o) (ho:bookO o) (hs:∀ b,S b→S' b) :
  ∀ (d:Dat) (cs:List Value),RdC S w d cs→RdC S' (w.putObj r o') d cs
 | .one _,_,h=>h
 | .sl _ _ e,_,⟨a,c,h1,h2,h3,h4,h5,h6⟩ =>
  ⟨a,c,h1,h2,h3,h4,h5,fun i hi=>let ⟨b,cs',k1,k2,k3,k4⟩:=h6 i hi; ⟨b,cs',k1,RdC.put hr ho hs (e i) cs' k2,k3,k4.put hr ho hs⟩⟩
 | .ptr d,_,⟨q,off,cs',h1,h2,h3⟩=>⟨q,off,cs',h1,RdC.put hr ho hs d cs' h2,h3.put hr ho hs⟩
 | .cat a b,_,⟨c1,c2,h1,h2,h3⟩=>⟨c1,c2,h1,RdC.put hr ho hs a c1 h2,RdC.put hr ho hs b c2 h3⟩
 | .mp _ _ e,_,⟨q,es,clock,h1,h2,h3,h4,h5,h6,h7⟩=>by
  refine ⟨q,es,clock,h1,hs q h2,?_,h4,h5,h6,fun i hi=>let ⟨x,cs',k1,k2,k3,k4⟩:=h7 i hi; ⟨x,cs',k1,k2,RdC.put hr ho hs (e i) cs' k3,k4⟩⟩
  rw [World.putObj_heap_other (fun e=>by rw [e] at h3; rw [hr] at h3; simp only [Option.some.injEq] at h3; rw [h3] at ho; exact ho)]
  exact h3
 | .lp _,_,h=>h.elim
theorem Holds.turn {A:Nat→Prop} {B:Nat} {w0:World} {M M':Nat→Obj→Prop} {D D':(Nat→Prop)×List Deferred} {os:List Own} {fs:List bA} {w:World} (h:Holds ⟨A,B,w0,M,D⟩ os fs w) {r:Nat} {o o':Obj} (hr:w.heap[r]? = some o) (ho:bookO o)
  (hB:B≤r) (hM:∀ b x,M' b x→M b x∧b≠r):Holds ⟨A,B,w0,M',D'⟩ os fs (w.putObj r o'):=by
 have good:∀ b,Good A os w b→Good A os (w.putObj r o') b:=fun b ⟨h1,h2,h3⟩=>⟨by rw [World.putObj_size]; exact h1,h2,h3⟩
 have other:∀ b x,w.heap[b]? = some x→¬ bookO x→(w.putObj r o').heap[b]? = some x:=fun b x hx hn=>by
  rw [World.putObj_heap_other (fun e=>by rw [e] at hx; rw [hr] at hx; simp only [Option.some.injEq] at hx; rw [hx] at ho; exact hn ho)]
  exact hx
 refine ⟨h.lowS (by rw [World.putObj_size]; exact Nat.le_refl _) (fun _=>.inl),by rw [World.putObj_size]; exact h.size,h.below.trans ⟨rfl,rfl,rfl,by rw [World.putObj_size]; exact Nat.le_refl _,fun k hk=>World.putObj_heap_other (by have:k<B:=hk; omega)⟩,h.apart,
  fun x hx i hi=>?_,fun F hF=>?_,fun b x hb=>?_⟩
 ·have row:∀ {q size n cap},OwnRow (Good A os w) B w q size n cap (x.e i)→OwnRow (Good A os (w.putObj r o')) B (w.putObj r o') q size n cap (x.e i):=fun ⟨b1,b2,b3,cur,t,b4,b5,b6⟩ =>
   ⟨b1,b2,b3,cur,t,(let ⟨z,g1,g2⟩:=b4; ⟨z,other _ _ g1 (fun h=>h),g2⟩),b5,fun j hj=>let ⟨cs,c1,c2⟩:=b6 j hj; ⟨cs,c1.put hr ho good _ _,c2⟩⟩
  rcases h.own x hx i hi with h1 | ⟨q,cap,h1,h2⟩ | ⟨q,h1,h2,h3⟩ | ⟨h0,hz,n,k,d,he,h1⟩
  ·exact .inl h1
  ·exact .inr (.inl ⟨q,cap,h1,row h2⟩)
  ·exact .inr (.inr (.inl ⟨q,h1,h2,row h3⟩))
  ·have ents:∀ {es:Array MapEntry},Ents (Good A os w) w es n k d→Ents (Good A os (w.putObj r o')) (w.putObj r o') es n k d:=fun hE =>
    ⟨hE.1,fun j hj=>let ⟨y,k1,k2,cs,k3,k4⟩:=hE.2 j hj; ⟨y,k1,k2,cs,k3.put hr ho good _ _,k4⟩⟩
   rcases h1 with ⟨q,es,clock,rfl',h1,h2,h3,h4,h5⟩ | ⟨q,b,since,seen,last,es,clock,rfl',h1,⟨h2,h3,h4,h5,h6,h7,h7',h8,h9⟩ | ⟨l,h2,h3⟩⟩
   ·exact .inr (.inr (.inr ⟨h0,hz,n,k,d,he,.inl ⟨q,es,clock,rfl',h1,other _ _ h2 (fun h=>h),h3,h4,ents h5⟩⟩))
   ·exact .inr (.inr (.inr ⟨h0,hz,n,k,d,he,.inr ⟨q,b,since,seen,last,es,clock,rfl',h1,.inl ⟨other _ _ h2 (fun h=>h),good b h3,other _ _ h4 (fun h=>h),h5,h6,h7,h7',ents h8,h9⟩⟩⟩))
   ·exact .inr (.inr (.inr ⟨h0,hz,n,k,d,he,.inr ⟨q,b,since,seen,last,es,clock,rfl',h1,.inr ⟨l,other _ _ h2 (fun h=>h),h3⟩⟩⟩))
 ·obtain ⟨cs,h1,h2⟩:=h.facts F hF
  exact ⟨cs,h1.put hr ho good _ _,h2⟩
 ·obtain ⟨hm,hne⟩:=hM b x hb
  obtain ⟨k1,k2,k3⟩:=h.kept b x hm
  exact ⟨k1,by rw [World.putObj_heap_other hne]; exact k2,k3⟩
theorem sA {P:Program} {fn:Func} {tmps:Array Value} {R:Ending→World→Prop} {A:Nat→Prop} {B:Nat} {w0:World} {M0:Nat→Obj→Prop} {D0:(Nat→Prop)×List Deferred} {os:List Own} {fs:List bA}
  (hR:∀ w,Holds ⟨A,B,w0,M0,D0⟩ os fs w→∃ v,(results fn tmps).run P w=.ok v w∧R (.returned v) w) :
  ∀ (rs:List Nat),rs.Nodup→(∀ r o,r∈rs→¬ M0 r o)→∀ w,Holds ⟨A,B,w0,fun r o=>M0 r o∨(r∈rs∧o=kQ),D0⟩ os fs w→LeavesInM (fnc none) 0 P fn tmps R (rs.map fun r=>{ target:=.collected r,args := #[] }) .returning w
 | [],_,_,w,hw=>by
  have hw':Holds ⟨A,B,w0,M0,D0⟩ os fs w:=⟨hw.low,hw.size,hw.below,hw.apart,hw.own,hw.facts,fun b o hb=>hw.kept b o (.inl hb)⟩
  exact hR w hw'
 | r::rs,hnd,hdj,w,hw=>by
  rw [List.nodup_cons] at hnd
  obtain ⟨k1,k2,k3⟩:=hw.kept r _ (.inr ⟨List.mem_cons_self .., rfl⟩)
  refine ⟨by simp,.inl ⟨r,w.putObj r (.deferred none),rfl,run_takeDeferred k2,?_⟩⟩
  refine sA hR rs hnd.2 (fun x o hx=>hdj x o (List.mem_cons_of_mem _ hx)) _ ?_
  refine hw.turn k2 trivial k1 fun b o hb=>?_
  rcases hb with hb | hb
  ·exact ⟨.inl hb,fun e=>hdj r o (List.mem_cons_self ..) (e ▸ hb)⟩
  ·exact ⟨.inr ⟨List.mem_cons_of_mem _ hb.1,hb.2⟩,fun e=>hnd.1 (e ▸ hb.1)⟩
structure aY (P:Program) (g:FuncId) (args:List Value) (fs:List bA) (R:Value→List Own→List bA→Prop):Prop where
 enter:∀ (av:Array Value) (w:World),(callFunc g av).run P w=.ok (.enter g av) w
 calls:∀ (A:Nat→Prop) (w:World),(∀ b,A b→b<w.heap.size)→HF (fun b=>b<w.heap.size∧¬ A b) w fs →
  Calls P g args.toArray w fun e w'=>∃ v os' fs',e=.returned v∧R v os' fs'∧Holds ⟨A,w.heap.size,w,noO,noM⟩ os' fs' w'
theorem jH {os os':List Own} {b:Nat}:eW (os++os') b↔eW os b∨eW os' b:=by
 induction os with
 | nil=>simp [eW]
 | cons o os ih=>simp only [List.cons_append,eW,ih,or_assoc]
theorem Apart.append {os os':List Own} (h:Apart os) (h':Apart os') (hd:∀ b,eW os b→¬ eW os' b):Apart (os++os'):=by
 induction os with
 | nil=>exact h'
 | cons o os ih =>
  obtain ⟨h1,h2,h3⟩:=h
  refine ⟨h1,fun b hb hb'=>?_,ih h3 fun b hb=>hd b (.inr hb)⟩
  rcases jH.1 hb' with h | h
  ·exact h2 b hb h
  ·exact hd b (.inl hb) h
theorem OwnVal.mono_B {S:Nat→Prop} {B B':Nat} {w:World} {v:Value} {size n:Nat} {e:Nat→Dat} (hB:B'≤B) (h:OwnVal S B w v size n e):OwnVal S B' w v size n e:=by
 rcases h with h | ⟨r,cap,h1,h2,h3⟩ | ⟨r,h1,h2,h3,h4⟩ | ⟨hn,hz,n,k,d,he,h⟩
 ·exact .inl h
 ·exact .inr (.inl ⟨r,cap,h1,Nat.le_trans hB h2,h3⟩)
 ·exact .inr (.inr (.inl ⟨r,h1,h2,Nat.le_trans hB h3,h4⟩))
 ·rcases h with ⟨r,es,clock,h0,h1,h2⟩ | ⟨r,b,since,seen,last,es,clock,h0,h1,h2⟩
  ·exact .inr (.inr (.inr ⟨hn,hz,n,k,d,he,.inl ⟨r,es,clock,h0,Nat.le_trans hB h1,h2⟩⟩))
  ·exact .inr (.inr (.inr ⟨hn,hz,n,k,d,he,.inr ⟨r,b,since,seen,last,es,clock,h0,Nat.le_trans hB h1,h2⟩⟩))
theorem HF.append {S:Nat→Prop} {w:World} {fs fs':List bA} (h:HF S w fs) (h':HF S w fs'):HF S w (fs++fs') :=
 fun F hF=>(List.mem_append.1 hF).elim (h F) (h' F)
theorem Holds.join {G:Ctx} {os os':List Own} {fs fs':List bA} {w w':World} (h:Holds G os fs w)
  (h':Holds ⟨fun b=>G.A b∨eW os b,w.heap.size,w,noO,noM⟩ os' fs' w'):Holds G (os'++os) (fs'++fs) w':=by
 have hb:=h'.below
 have hlt':∀ b,eW os' b→w.heap.size≤b:=fun b hb=>(h'.owned_lt hb).1
 have hg:∀ b,Good G.A os w b→Good G.A (os'++os) w' b:=fun b ⟨h1,h2,h3⟩ =>
  ⟨Nat.lt_of_lt_of_le h1 hb.size,h2,fun ho=>(jH.1 ho).elim (fun h=>absurd (hlt' b h) (Nat.not_le.2 h1)) h3⟩
 have hg':∀ b,Good (fun b=>G.A b∨eW os b) os' w' b→Good G.A (os'++os) w' b:=fun b ⟨h1,h2,h3⟩ =>
  ⟨h1,fun h=>h2 (.inl h),fun ho=>(jH.1 ho).elim h3 fun h=>h2 (.inr h)⟩
 have ha:lF (Good G.A os w) w w':=fun b hb'=>hb.block b hb'.1
 have ha':lF (Good (fun b=>G.A b∨eW os b) os' w') w' w':=fun _ _=>rfl
 refine ⟨h.lowS hb.size (fun b ho=>(jH.1 ho).elim (fun h=>.inr (hlt' b h)) .inl),Nat.le_trans h.size hb.size,h.below.trans (hb.mono h.size),h'.apart.append h.apart fun b hb1 hb2=>?_,fun o ho i hi=>?_,?_,fun b x hm=>?_⟩
 ·exact absurd (h.owned_lt hb2).2 (Nat.not_lt.2 (hlt' b hb1))
 ·rcases List.mem_append.1 ho with ho | ho
  ·exact ((h'.own o ho i hi).mono ha' hg' fun r _=>rfl).mono_B h.size
  ·exact (h.own o ho i hi).mono ha hg fun r hr=>hb.block r ((h.own o ho i hi).blk hr).2
 ·exact (h'.facts.mono ha' hg').append (h.facts.mono ha hg)
 ·obtain ⟨k1,k2,k3⟩:=h.kept b x hm
  have hlt:b<w.heap.size:=(Array.getElem?_eq_some_iff.1 k2).1
  exact ⟨k1,(hb.block b hlt).trans k2,fun ho=>(jH.1 ho).elim (fun h=>absurd (hlt' b h) (Nat.not_le.2 hlt)) k3⟩
def Seals (os:List Own) (fs:List bA) (os':List Own) (fs':List bA):Prop:=∀ G w,Holds G os fs w→Holds G os' fs' w
theorem Seals.refl (os:List Own) (fs:List bA):Seals os fs os fs:=fun _ _ h=>h
theorem Seals.trans {a b c:List Own} {x y z:List bA} (h:Seals a x b y) (h':Seals b y c z):Seals a x c z:=fun G w hw=>h' G w (h G w hw)
def Sub (fs' fs:List bA):Prop:=∀ F,F∈fs'→F∈fs
theorem Sub.nil (fs:List bA):Sub [] fs:=fun _ h=>by cases h
theorem Sub.cons {F:bA} {fs' fs:List bA} (h:F∈fs) (h':Sub fs' fs):Sub (F::fs') fs:=fun X hX=>by
 rcases List.mem_cons.1 hX with rfl | hX
 ·exact h
 ·exact h' X hX
theorem Seals.sub {os:List Own} {fs fs':List bA} (h:Sub fs' fs):Seals os fs os fs':=fun _ _ hw=>hw.weaken_facts h
theorem qC {P:Program} {d:Bool} {g:FuncId} {first cap:List Value} {args:List Value} {os os₁:List Own} {fs fs₁ cfs:List bA} {K:cE} {R:Value→List Own→List bA→Prop}
  (hs:Seals os fs os₁ fs₁) (hm:aY P g (first++args++cap) cfs R) (hsub:Sub cfs fs₁)
  (k:∀ v os' fs',R v os' fs'→K v (os'++os₁) (fs'++fs₁)):CallK P d (.func (.func g) first.toArray cap.toArray) args os fs K:=by
 have key:Grw P (do let x ← Deferred.ofValue (.func (.func g) first.toArray cap.toArray) args.toArray; invoke x.target x.args) os fs K:=by
  intro G w hw0
  have hw:=hs G w hw0
  have hrun:(do let x ← Deferred.ofValue (.func (.func g) first.toArray cap.toArray) args.toArray; invoke x.target x.args:Sem Next).run P w =
    .ok (.enter g (first++args++cap).toArray) w:=by
   simp only [Deferred.ofValue,pure_bind,invoke,List.append_toArray]
   exact hm.enter _ w
  rw [hrun]
  refine Calls.mono (hm.calls (fun b=>G.A b∨eW os₁ b) w (fun b hb=>?_) ?_) ?_
  ·rcases hb with hb | hb
   ·exact (hw.low b hb).1
   ·exact (hw.owned_lt hb).2
  ·refine (hw.weaken_facts hsub).facts.mono (fun _ _=>rfl) fun b ⟨h1,h2,h3⟩=>⟨h1,fun h=>h.elim h2 h3⟩
  ·rintro e w' ⟨v,os',fs',rfl,hr,hh⟩
   exact ⟨v,rfl,hh.below,os'++os₁,fs'++fs₁,k v os' fs' hr,hw.join hh⟩
 exact ⟨key.dyn,fun _=>key⟩
theorem bN {P:Program} {d:Bool} {g:FuncId} {args:List Value} {os os₁:List Own} {fs fs₁ cfs:List bA} {K:cE} {R:Value→List Own→List bA→Prop}
  (hm:aY P g args cfs R) (hs:Seals os fs os₁ fs₁) (hsub:Sub cfs fs₁)
  (k:∀ v os' fs',R v os' fs'→K v (os'++os₁) (fs'++fs₁)):CallK P d (.func (.func g) #[] #[]) args os fs K :=
 qC (first:=[]) (cap:=[]) hs (by simpa using hm) hsub k
def tup:List Value→Value
 | [v]=>v
 | vs=>.tuple vs.toArray
structure FinK (R:Value→List Own→List bA→Prop) (v:Value) (os:List Own) (fs:List bA):Prop where
 out:∃ os' fs',R v os' fs'∧Seals os fs os' fs'
theorem fin {R:Value→List Own→List bA→Prop} {v:Value} {os os':List Own} {fs fs':List bA} (h:R v os' fs') (hs:Seals os fs os' fs'):FinK R v os fs:=⟨os',fs',h,hs⟩
def RetK (P:Program) (f:Fr) (R:Value→List Own→List bA→Prop):List ResultVar→List Value→List Own→List bA→Prop
 | [],acc,os,fs=>FinK R (tup acc) os fs
 | .tmp t::r,acc,os,fs=>iF (look f t) fun v=>RetK P f R r (acc++[v]) os fs
 | .cell t ty::r,acc,os,fs=>iF (look f t) fun p=>pB P ty p os fs fun v os fs=>RetK P f R r (acc++[v]) os fs
def resOf (tmps:Array Value):ResultVar→Sem Value
 | .tmp t=>pure (tmps.getD t undef)
 | .cell a t=>do loadVar t (← asAddr (tmps.getD a undef))
theorem sure_as {P:Program} {t:TypeId} {v u:Value} {w:World} (h:(val (Instr.loadAt t v)).run P w=.ok (.value u) w) :
  (do loadVar t (← asAddr v):Sem Value).run P w=.ok u w:=by
 have hs:(Instr.loadAt t v).run P w=.ok u w:=by
  simp only [val,Sem.run_bind,Sem.run_pure] at h
  generalize (Instr.loadAt t v).run P w=r at h
  cases r with
  | ok x w'=>simp only [Result.andThen_ok,Result.ok.injEq,Go.Next.value.injEq] at h; rw [h.1,h.2]
  | halt x w'=>simp at h
 rw [← hs]
 cases v with
 | pointer a =>
  cases a with
  | none=>simp [Instr.loadAt,Instr.sureAddr] at hs
  | some a=>rfl
 | _=>simp [Instr.loadAt,Instr.sureAddr] at hs
theorem RetK.sound {P:Program} {N:Nat} {f:Fr} {R:Value→List Own→List bA→Prop} {G:Ctx} {a:Act} {w:World} (hk:Knows G N f a) :
  ∀ (rs:List ResultVar) (acc:List Value) (os:List Own) (fs:List bA),RetK P f R rs acc os fs→Holds G os fs w →
   ∃ vs os' fs',(rs.mapM (resOf a.tmps)).run P w=.ok vs w∧R (tup (acc++vs)) os' fs'∧Holds G os' fs' w
 | [],acc,os,fs,⟨⟨os',fs',h1,h2⟩⟩,hw=>⟨[],os',fs',rfl,by simpa using h1,h2 G w hw⟩
 | .tmp t::r,acc,os,fs,h,hw=>by
  obtain ⟨v,h1,h⟩:=bE h
  obtain ⟨vs,os',fs',h2,h3,h4⟩:=RetK.sound hk r _ os fs h hw
  refine ⟨v::vs,os',fs',?_,by simpa using h3,h4⟩
  have hv:a.tmps.getD t undef=v:=by simp [Array.getD_eq_getD_getElem?,hk.holds t v h1]
  rw [List.mapM_cons]
  simp only [resOf,Sem.run_bind,Sem.run_pure,Result.andThen_ok,h2,hv]
 | .cell t ty::r,acc,os,fs,h,hw=>by
  obtain ⟨p,h1,h⟩:=bE h
  obtain ⟨v,fs1,g1,g2,g3⟩:=h.out G w hw
  obtain ⟨vs,os',fs',h2,h3,h4⟩:=RetK.sound hk r _ os fs1 g2 g3
  refine ⟨v::vs,os',fs',?_,by simpa using h3,h4⟩
  have hv:a.tmps.getD t undef=p:=by simp [Array.getD_eq_getD_getElem?,hk.holds t p h1]
  have hl:=sure_as (g1 w (Below.refl _ _))
  rw [List.mapM_cons]
  have hr:(resOf a.tmps (.cell t ty)).run P w=.ok v w:=by simp only [resOf,hv]; exact hl
  rw [Sem.run_bind,hr]
  simp only [Result.andThen_ok,Sem.run_bind,h2,Sem.run_pure]
theorem uD {P:Program} {fn:Func} {tmps:Array Value} {w:World} {vs:List Value} (h:(fn.results.toList.mapM (resOf tmps)).run P w=.ok vs w) :
  (results fn tmps).run P w=.ok (tup vs) w:=by
 have e:results fn tmps=(do let vs ← fn.results.mapM (resOf tmps); pure (if h:vs.size=1 then vs[0] else .tuple vs)):=by
  have hx:(fun | .tmp t=>pure (tmps.getD t undef) | .cell a t=>do loadVar t (← asAddr (tmps.getD a undef)):ResultVar→Sem Value)=resOf tmps:=by
   funext x; cases x <;> rfl
  unfold results
  rw [← hx]
  rfl
 rw [e,Array.mapM_eq_mapM_toList,Sem.run_bind,Sem.run_map,h]
 simp only [Result.andThen_ok,Sem.run_pure]
 congr 1
 match vs with
 | []=>rfl
 | [v]=>rfl
 | v::u::r=>rfl
def retQ (P:Program) (fn:Func) (R:Value→List Own→List bA→Prop):iX
 | .normal=>fun f os fs=>RetK P f R fn.results.toList [] os fs
 | .ret=>fun f os fs=>RetK P f R fn.results.toList [] os fs
 | _=>fun _ _ _=>False
def argF:Nat→List Value→Fr
 | _,[]=>[]
 | n,v::r=>(n,v)::argF (n+1) r
theorem look_argF (args:List Value):∀ (n t:Nat) (v:Value),look (argF n args) t=some v→n≤t∧args[t - n]? = some v:=by
 induction args with
 | nil=>intro n t v h; simp [argF,look] at h
 | cons x r ih =>
  intro n t v h
  simp only [argF,look] at h
  cases hb:Nat.beq n t with
  | true =>
   have:n=t:=Nat.eq_of_beq_eq_true hb
   subst this
   simp only [hb,Option.some.injEq] at h
   simp [h]
  | false =>
   have hne:n≠t:=fun e=>by subst e; simp at hb
   simp only [hb] at h
   obtain ⟨h1,h2⟩:=ih (n+1) t v h
   refine ⟨by omega,?_⟩
   have:t - n=(t - (n+1))+1:=by omega
   rw [this]; simpa using h2
theorem rI {A:Nat→Prop} {w:World} {fn:Func} {args:List Value} (hn:args.length≤fn.ntmps) :
  Knows ⟨A,w.heap.size,w,noO,noM⟩ fn.ntmps (argF 0 args) { tmps:=args.toArray++Array.replicate (fn.ntmps - args.toArray.size) undef,defers:=[] }:=by
 refine ⟨Marks.nil,by simp; omega,fun t v ht=>?_⟩
 obtain ⟨_,h2⟩:=look_argF args 0 t v ht
 have h2':args[t]? = some v:=by simpa using h2
 have hlt:t<args.length:=(List.getElem?_eq_some_iff.1 h2').1
 rw [Array.getElem?_append_left (by simpa using hlt)]
 simpa using h2'
theorem uV {A:Nat→Prop} {B:Nat} {w0:World} {M:Nat→Obj→Prop} {fn:Func} {args:List Value} (hn:args.length≤fn.ntmps) :
  Knows ⟨A,B,w0,M,noM⟩ fn.ntmps (argF 0 args) { tmps:=args.toArray++Array.replicate (fn.ntmps - args.toArray.size) undef,defers:=[] }:=by
 refine ⟨Marks.nil,by simp; omega,fun t v ht=>?_⟩
 obtain ⟨_,h2⟩:=look_argF args 0 t v ht
 have h2':args[t]? = some v:=by simpa using h2
 have hlt:t<args.length:=(List.getElem?_eq_some_iff.1 h2').1
 rw [Array.getElem?_append_left (by simpa using hlt)]
 simpa using h2'
theorem leave {P:Program} {fn:Func} {R:Value→List Own→List bA→Prop} {G:Ctx} {R':Ending→World→Prop}
  (hR:∀ v w,(∃ os fs,R v os fs∧Holds G os fs w)→R' (.returned v) w) {e:Exit} {a:Act} {w:World} (h:Qhat fn.ntmps ⟨G.A,G.B,G.w0,G.M,noM⟩ (retQ P fn R) e a w):bodyPostM (fnc none) 0 P fn R' e a w:=by
 obtain ⟨G',⟨X,M,D,rfl,hM,hD,hX⟩,f,os,fs,hk,hw,hq⟩:=h
 have fin:RetK P f R fn.results.toList [] os fs→LeavesInM (fnc none) 0 P fn a.tmps R' a.defers .returning w:=fun hq=>by
  obtain ⟨rs,h1,h2,h3⟩:=hk.defers
  have hXr:∀ r,r∈rs→X r:=fun r hr=>((hD r).1 (h2 r hr).1).elim (fun h=>h.elim) id
  rw [h3.trans (List.append_nil _)]
  have hw':Holds ⟨G.A,G.B,G.w0,fun r o=>G.M r o∨(r∈rs∧o=kQ),G.D⟩ os fs w:=⟨hw.low,hw.size,hw.below,hw.apart,hw.own,hw.facts,fun b o hb=>hw.kept b o ((hM b o).2 (hb.imp id fun h=>⟨hXr b h.1,h.2⟩))⟩
  refine sA (os:=os) (fs:=fs) (fun w1 hw1=>?_) rs h1 (fun r o hr=>hX r o (hXr r hr)) w hw'
  have hk0:Knows ⟨G.A,G.B,G.w0,G.M,noM⟩ fn.ntmps f { a with defers:=[] }:=⟨Marks.nil,hk.size,hk.holds⟩
  obtain ⟨vs,os1,fs1,g1,g2,g3⟩:=RetK.sound hk0 _ _ _ _ hq ⟨hw1.low,hw1.size,hw1.below,hw1.apart,hw1.own,hw1.facts,hw1.kept⟩
  exact ⟨_,uD g1,hR _ _ ⟨os1,fs1,by simpa using g2,g3.low,g3.size,g3.below,g3.apart,g3.own,g3.facts,g3.kept⟩⟩
 cases e with
 | normal=>exact fin hq
 | ret=>exact fin hq
 | exit id=>exact hq.elim
 | goto l=>exact hq.elim
 | panic ch=>exact hq.elim
 | outgrown=>exact hq.elim
theorem Holds.own0 {G:Ctx} {os:List Own} {fs:List bA} {w:World} (h:Holds G os fs w) (D:(Nat→Prop)×List Deferred):Holds ⟨G.A,G.B,G.w0,G.M,D⟩ os fs w:=⟨h.low,h.size,h.below,h.apart,h.own,h.facts,h.kept⟩
theorem jZ {P:Program} {g:FuncId} {fn:Func} {c:Code} {args:List Value} {K:Value→List Own→List bA→Prop} {G:Ctx} {w:World} {R':Ending→World→Prop}
  (hf:P.funcs[g]? = some fn) (hb:fn.body=some c)
  (h:c.wpIn (fnc none) 0 P (Qhat fn.ntmps ⟨G.A,G.B,G.w0,G.M,noM⟩ (retQ P fn K)) { tmps:=args.toArray++Array.replicate (fn.ntmps - args.toArray.size) undef,defers:=[] } w)
  (hR:∀ v w,(∃ os fs,K v os fs∧Holds G os fs w)→R' (.returned v) w):Calls P g args.toArray w R' :=
 callsIn_wide.1 (callsIn_of_wp_marks (F:=fnc none) (n:=0) hf hb trivial (wpIn_mono h fun _ _ _ hq=>leave hR hq) rfl)
theorem mE {A:Nat→Prop} {w:World} {fs:List bA} (hA:∀ b,A b→b<w.heap.size) (hfs:HF (fun b=>b<w.heap.size∧¬ A b) w fs) (D:(Nat→Prop)×List Deferred):Holds ⟨A,w.heap.size,w,noO,D⟩ [] fs w :=
 ⟨fun b h=>⟨hA b h,fun h=>h⟩,Nat.le_refl _,Below.refl _ _,trivial,fun o ho=>(by cases ho),hfs.mono (fun _ _=>rfl) fun b ⟨h1,h2⟩=>⟨h1,h2,fun h=>h⟩,fun _ _ h=>h.elim⟩
theorem meets_wp {P:Program} {g:FuncId} {fn:Func} {c:Code} {args:List Value} {fs:List bA} {R:Value→List Own→List bA→Prop}
  (hf : P.funcs[g]? = some fn) (hname : (fn.name == "runtime.NumGoroutine") = false) (hb : fn.body = some c) (hn : args.length ≤ fn.ntmps)
  (h:∀ G (a:Act) w,Knows G fn.ntmps (argF 0 args) a→Holds G [] fs w→c.wpIn (fnc none) 0 P (Qhat fn.ntmps G (retQ P fn R)) a w):aY P g args fs R:=by
 refine ⟨fun av w=>?_,fun A w hA hfs=>?_⟩
 ·simp only [callFunc,Sem.run_bind,run_program,Result.andThen_ok,hf,hname,hb]
  rfl
 ·exact jZ (G:=⟨A,w.heap.size,w,noO,noM⟩) hf hb (h _ _ w (rI hn) (mE hA hfs noM)) fun v w1 ⟨os1,fs1,h1,h2⟩=>⟨v,os1,fs1,rfl,h1,h2⟩
theorem meets_of_vc {P:Program} {g:FuncId} {fn:Func} {c:Code} {args:List Value} {fs:List bA} {R:Value→List Own→List bA→Prop}
  (hf : P.funcs[g]? = some fn) (hname : (fn.name == "runtime.NumGoroutine") = false) (hb : fn.body = some c) (hok : fH fn.ntmps c = true) (hn : args.length ≤ fn.ntmps)
  (h:VC P fn.ntmps c (argF 0 args) [] fs (retQ P fn R)):aY P g args fs R :=
 meets_wp hf hname hb hn fun G a w hk hw=>VC.soundR (r:=none) c G _ [] fs _ hok (.inl rfl) h a w hk hw
theorem uX {P:Program} {g:FuncId} {fn:Func} {c:Code} {args:List Value} {os:List Own} {fs:List bA} {K:cE}
  (hf : P.funcs[g]? = some fn) (hname : (fn.name == "runtime.NumGoroutine") = false) (hb : fn.body = some c) (hn : args.length ≤ fn.ntmps)
  (h:∀ G (a:Act) w,Knows G fn.ntmps (argF 0 args) a→Holds G os fs w→c.wpIn (fnc none) 0 P (Qhat fn.ntmps G (retQ P fn K)) a w):CallK P false (.func (.func g) #[] #[]) args os fs K:=by
 refine ⟨fun G w hw=>?_,fun h=>by cases h⟩
 have hrun:(do let x ← Deferred.ofValue (.func (.func g) #[] #[]) args.toArray; invoke x.target x.args:Sem Next).run P w=.ok (.enter g args.toArray) w:=by
  simp only [Deferred.ofValue,pure_bind,invoke,Array.empty_append,Array.append_empty]
  simp only [callFunc,Sem.run_bind,run_program,Result.andThen_ok,hf,hname,hb]
  rfl
 rw [hrun]
 exact jZ (G:=G) hf hb (h _ _ w (uV hn) (hw.own0 noM)) fun v w1 ⟨os1,fs1,h1,h2⟩=>⟨v,rfl,os1,fs1,h1,h2⟩
theorem vK {P:Program} {g:FuncId} {fn:Func} {c:Code} {args:List Value} {os:List Own} {fs:List bA} {K:cE}
  (hf : P.funcs[g]? = some fn) (hname : (fn.name == "runtime.NumGoroutine") = false) (hb : fn.body = some c) (hok : fH fn.ntmps c = true) (hn : args.length ≤ fn.ntmps)
  (h:VC P fn.ntmps c (argF 0 args) os fs (retQ P fn K)):CallK P false (.func (.func g) #[] #[]) args os fs K :=
 uX hf hname hb hn fun G a w hk hw=>VC.soundR (r:=none) c G _ os fs _ hok (.inl rfl) h a w hk hw
def SubF:Fr→Fr→Prop
 | [],_=>True
 | (t,v)::r,f=>look f t=some v∧SubF r f
theorem SubF.look {f' f:Fr} (h:SubF f' f):∀ t v,look f' t=some v→look f t=some v:=by
 induction f' with
 | nil=>intro t v h; simp [Go.Proofs.YtpbhjlljgbjjlaaGreat.look] at h
 | cons p r ih =>
  obtain ⟨k,u⟩:=p
  intro t v hl
  simp only [Go.Proofs.YtpbhjlljgbjjlaaGreat.look] at hl
  cases hb:Nat.beq k t with
  | true =>
   have:k=t:=Nat.eq_of_beq_eq_true hb
   subst this
   simp only [hb,Option.some.injEq] at hl
   exact hl ▸ h.1
  | false=>simp only [hb] at hl; exact ih h.2 t v hl
theorem Knows.sub {G:Ctx} {N:Nat} {f f':Fr} {a:Act} (h:Knows G N f a) (hs:SubF f' f):Knows G N f' a:=⟨h.defers,h.size,fun t v ht=>h.holds t v (hs.look t v ht)⟩
structure AtK {X:Type} (I:X→Fr×List Own×List bA) (ok:X→Prop) (f:Fr) (os:List Own) (fs:List bA) (Y:X→Prop):Prop where
 out:∃ x,ok x∧Y x∧SubF (I x).1 f∧Seals os fs (I x).2.1 (I x).2.2
theorem bB {X:Type} {I:X→Fr×List Own×List bA} {ok:X→Prop} {f:Fr} {os:List Own} {fs:List bA} {Y:X→Prop} (x:X) (h1:ok x) (h2:Y x) (h3:SubF (I x).1 f) (h4:Seals os fs (I x).2.1 (I x).2.2) :
  AtK I ok f os fs Y:=⟨x,h1,h2,h3,h4⟩
def roundQ {X:Type} (I:X→Fr×List Own×List bA) (ok:X→Prop) (m:X→Nat) (x:X) (Q:iX):iX
 | .normal=>fun f os fs=>AtK I ok f os fs fun y=>m y<m x
 | e=>Q e
theorem bD {P:Program} {N:Nat} {c:Code} {f:Fr} {os:List Own} {fs:List bA} {Q:iX} {X:Type} (I:X→Fr×List Own×List bA) (ok:X→Prop) (m:X→Nat)
  (hc:fH N c=true) (h0:AtK I ok f os fs fun _=>True)
  (round:∀ x,ok x→VC P N c (I x).1 (I x).2.1 (I x).2.2 (roundQ I ok m x Q)):LoopK P N c f os fs Q:=by
 refine ⟨fun G r hr a w hk hw=>?_⟩
 obtain ⟨⟨x0,hx0,_,h1,h2⟩⟩:=h0
 have key:∀ (n:Nat) (x:X),m x=n→ok x→∀ G' a w,Ext G G'→Knows G' N (I x).1 a→Holds G' (I x).2.1 (I x).2.2 w→∀ (b:Frame) (k:List Item) (cs:List Frame),b.roundOf=(fnc r).round→(fnc r).fn b.fn→(fnc r).room (cs.length+1+0) →
   ∃ e a' w',Qhat N G Q e a' w'∧ArrivesIn (Machine.fenced P (fnc r)) P (lone (b.atR a (.code c::.inLoop c::k)) cs w) b k cs e a' w':=by
  intro n
  induction n using Nat.strongRecOn with
  | _ n ih =>
   intro x hn hx G' a w hG hk hw b k cs hro hb hrm
   obtain ⟨e,a₁,w₁,⟨G1,hG1,f1,os1,fs1,hk1,hw1,hq⟩,harr⟩:=VC.soundR (r:=r) c G' _ _ _ _ hc hr (round x hx) a w hk hw b (.inLoop c::k) cs hro hb hrm
   cases e with
   | normal =>
    obtain ⟨⟨y,hy,hlt,g1,g2⟩⟩:=hq
    obtain ⟨e₂,a₂,w₂,hq₂,harr₂⟩:=ih (m y) (hn ▸ hlt) y rfl hy G1 a₁ w₁ (hG.trans hG1) (hk1.sub g1) (g2 G1 w₁ hw1) b k cs hro hb hrm
    exact ⟨e₂,a₂,w₂,hq₂,.of_steps (StepsIn.trans harr (.one (fenced_calm hb hrm rfl) stepR_inLoop)) harr₂⟩
   | exit id=>exact ⟨_,a₁,w₁,⟨G1,hG.trans hG1,f1,os1,fs1,hk1,hw1,hq⟩,.pass (x:=.inLoop c) rfl (fun _ _=>.inl qP) harr⟩
   | goto l=>exact ⟨_,a₁,w₁,⟨G1,hG.trans hG1,f1,os1,fs1,hk1,hw1,hq⟩,.pass (x:=.inLoop c) rfl (fun _ _=>.inl qP) harr⟩
   | ret=>exact ⟨_,a₁,w₁,⟨G1,hG.trans hG1,f1,os1,fs1,hk1,hw1,hq⟩,.pass (x:=.inLoop c) rfl (fun _ _=>.inl qP) harr⟩
   | panic ch=>exact ⟨_,a₁,w₁,⟨G1,hG.trans hG1,f1,os1,fs1,hk1,hw1,hq⟩,.pass (x:=.inLoop c) rfl (fun _ _=>.inl qP) harr⟩
   | outgrown=>exact ⟨_,a₁,w₁,⟨G1,hG.trans hG1,f1,os1,fs1,hk1,hw1,hq⟩,.pass (x:=.inLoop c) rfl (fun _ _=>.inl qP) harr⟩
 intro b k cs hro hb hrm
 obtain ⟨e,a',w',hq,harr⟩:=key _ x0 rfl hx0 G a w (Ext.refl G) (hk.sub h1) (h2 G w hw) b k cs hro hb hrm
 exact ⟨e,a',w',hq,.of_steps (.one (fenced_calm hb hrm rfl) stepR_loop) harr⟩
theorem aD {os:List Own} {fs fs':List bA} (h:Sub fs' fs):Seals os fs os fs':=Seals.sub h
theorem aM {a b c:List Own} {x y z:List bA} (h:Seals a x b y) (h':Seals b y c z):Seals a x c z:=Seals.trans h h'
theorem aT (os:List Own) (fs:List bA):Seals os fs os fs:=Seals.refl os fs
theorem aX {F:bA} {fs' fs:List bA} (h:F∈fs) (h':Sub fs' fs):Sub (F::fs') fs:=Sub.cons h h'
theorem bP (fs:List bA):Sub [] fs:=Sub.nil fs
class lG (P:Program) (t:TypeId):Prop where
 und:∃ d,P.underlying t=some d∧(match d with | .struct _ | .array _ _=>False | _=>True)
 size:(P.info? t).map (·.size)=some 1
def aggD:TypeDesc→Bool
 | .struct _=>true
 | .array _ _=>true
 | _=>false
class oL (P:Program) (t:TypeId) (n:outParam Nat):Prop where
 und:∃ d,P.underlying t=some d∧aggD d=true
 size:(P.info? t).map (·.size)=some n
class TSl (P:Program) (t:TypeId) (e:outParam TypeId) (size:outParam Nat):Prop where
 und:P.underlying t=some (.slice e)
 size:(P.info? e).map (·.size)=some size
class iU (P:Program) (t:TypeId) (k:Nat) (off:outParam Nat):Prop where
 und:∃ fs f,P.underlying t=some (.struct fs)∧fs[k]? = some f∧f.offset=off∧∃ n,(P.info? f.type).map (·.size)=some (n+1)
theorem dB {P:Program} {t:TypeId} {n:Nat} (h:(P.info? t).map (·.size)=some n) (w:World):(sizeOf t).run P w=.ok n w:=by
 cases hi:P.info? t with
 | none=>simp [hi] at h
 | some i=>simp [hi] at h; simp [sizeOf,typeInfo,hi,h]
theorem pM {P:Program} {t:TypeId} (h:lG P t) (w:World):(isAgg t).run P w=.ok false w:=by
 obtain ⟨d,hd,hm⟩:=h.und
 cases d <;> first | exact hm.elim | simp [isAgg,run_underlying hd]
theorem pN {P:Program} {t:TypeId} {n:Nat} (h:oL P t n) (w:World):(isAgg t).run P w=.ok true w:=by
 obtain ⟨d,hd,hm⟩:=h.und
 cases d <;> first | (simp [aggD] at hm; done) | simp [isAgg,run_underlying hd]
def Dat.cells:Dat→Nat
 | .cat a b=>a.cells+b.cells
 | _=>1
theorem RdC.length {S:Nat→Prop} {w:World}:∀ {d:Dat} {cs:List Value},RdC S w d cs→cs.length=d.cells
 | .one _,cs,h=>by simp [h.1,Dat.cells]
 | .sl .., cs,⟨a,c,h,_⟩=>by simp [h,Dat.cells]
 | .ptr _,cs,⟨r,o,cs',h,_⟩=>by simp [h,Dat.cells]
 | .cat a b,cs,⟨c1,c2,h,h1,h2⟩=>by simp [h,Dat.cells,RdC.length h1,RdC.length h2]
 | .mp .., cs,⟨r,es,clock,h,_⟩=>by simp [h,Dat.cells]
 | .lp _,_,h=>h.elim
def gX (P:Program) (t:TypeId):Dat→Prop
 | .cat a b=>oL P t (a.cells+b.cells)
 | _=>lG P t
theorem eI (r o j:Nat):(⟨r,o,none⟩:Addr).add j=⟨r,o+j,none⟩:=by unfold Addr.add; split <;> simp_all
theorem lM {P:Program} {t:TypeId} {S:Nat→Prop} {w0 w:World} {d:Dat} {cs:List Value} {r o:Nat} (ht:gX P t d) (hd:RdC S w0 d cs)
  (hc:∀ j,j<cs.length→w.cell? ⟨r,o+j,none⟩=cs[j]?):(Instr.loadAt t (.pointer (some ⟨r,o,none⟩))).run P w=.ok (oA d cs) w:=by
 have one:lG P t→∀ v,cs=[v]→(Instr.loadAt t (.pointer (some ⟨r,o,none⟩))).run P w=.ok v w:=fun ht v hv=>by
  have h:=hc 0 (by simp [hv])
  simp only [Nat.add_zero,hv,List.getElem?_cons_zero] at h
  simp [Instr.loadAt,Instr.sureAddr,loadVar,pM ht,h]
 cases d with
 | one v=>obtain ⟨h1,_⟩:=hd; subst h1; exact one ht v rfl
 | sl size n e=>obtain ⟨a,c,h1,_⟩:=hd; subst h1; exact one ht _ rfl
 | ptr d=>obtain ⟨r',o',cs',h1,_⟩:=hd; subst h1; exact one ht _ rfl
 | mp n k e=>obtain ⟨r',es,clock,h1,_⟩:=hd; subst h1; exact one ht _ rfl
 | lp l=>exact False.elim hd
 | cat a b =>
  have hl:=RdC.length hd
  have ht':oL P t cs.length:=by rw [hl]; exact ht
  have hlc:=run_loadCells_list (P:=P) w ⟨r,o,none⟩ cs (fun j v hv=>by
   have hj:j<cs.length:=(List.getElem?_eq_some_iff.1 hv).1
   rw [eI,hc j hj,hv])
  simp [Instr.loadAt,Instr.sureAddr,loadVar,pN ht',dB ht'.size,hlc,oA]
theorem dH {P:Program} {s:Sem Value} {v:Value} {w:World} (h:s.run P w=.ok v w):(val s).run P w=.ok (.value v) w:=by
 simp [val,h]
theorem Rd.ptr {S:Nat→Prop} {w:World} {p:Value} {d:Dat} (h:Rd S w p (.ptr d)):∃ r o cs,p=.pointer (some ⟨r,o,none⟩)∧RdC S w d cs∧CellsAt S w r o cs:=by
 obtain ⟨cs,⟨r,o,cs',h1,h2,h3⟩,rfl⟩:=h
 exact ⟨r,o,cs',by simp [oA,h1],h2,h3⟩
theorem Rd.sl {S:Nat→Prop} {w:World} {v:Value} {size n:Nat} {e:Nat→Dat} (h:Rd S w v (.sl size n e)) :
  ∃ a c,v=.slice a n c∧n≤c∧c≤maxLen∧(a=none→n=0∧c=0)∧(∀ b,a=some b→0<n→b.spot=none) ∧
   ∀ i,i<n→∃ b cs',a=some b∧RdC S w (e i) cs'∧cs'.length=size∧CellsAt S w b.block (b.off+i*size) cs':=by
 obtain ⟨cs,⟨a,c,h1,h2⟩,rfl⟩:=h
 exact ⟨a,c,by simp [oA,h1],h2⟩
theorem Rd.one {S:Nat→Prop} {w:World} {v u:Value} (h:Rd S w v (.one u)):v=u:=by
 obtain ⟨cs,⟨h1,_⟩,rfl⟩:=h
 simp [oA,h1]
theorem Rd.mk_ptr {S:Nat→Prop} {w:World} {r o:Nat} {d:Dat} {cs:List Value} (h:RdC S w d cs) (hc:CellsAt S w r o cs):Rd S w (.pointer (some ⟨r,o,none⟩)) (.ptr d) :=
 ⟨[.pointer (some ⟨r,o,none⟩)],⟨r,o,cs,rfl,h,hc⟩,rfl⟩
theorem Holds.put {G:Ctx} {os:List Own} {fs:List bA} {w:World} {v:Value} {d:Dat} (h:Holds G os fs w) (hd:Rd (Good G.A os w) w v d):Holds G os ((v,d)::fs) w :=
 ⟨h.low,h.size,h.below,h.apart,h.own,fun F hF=>by
  rcases List.mem_cons.1 hF with rfl | hF
  ·exact hd
  ·exact h.facts F hF,h.kept⟩
theorem CellsAt.later {S:Nat→Prop} {w w':World} {r o:Nat} {cs:List Value} (h:CellsAt S w r o cs) (hS:∀ b,S b→b<w.heap.size) (hb:Below w.heap.size w w') :
  ∀ j,j<cs.length→w'.cell? ⟨r,o+j,none⟩=cs[j]? := fun j hj =>
 let ⟨h1,h2⟩:=h j hj; (hb.cell (p:=⟨r,o+j,none⟩) (hS r h1)).trans h2
theorem Good.lt {A:Nat→Prop} {os:List Own} {w:World}:∀ b,Good A os w b→b<w.heap.size:=fun _ h=>h.1
theorem cS {P:Program} {t:TypeId} {p:Value} {d:Dat} {os:List Own} {fs:List bA} {K:cE} (hm:(p,.ptr d)∈fs) (ht:gX P t d)
  (k:∀ v,K v os ((v,d)::fs)):pB P t p os fs K:=by
 refine ⟨fun G w hw=>?_⟩
 obtain ⟨r,o,cs,rfl,h2,h3⟩:=(hw.facts _ hm).ptr
 exact ⟨oA d cs,_,fun w' hb=>dH (lM ht h2 (h3.later Good.lt hb)),k _,hw.put ⟨cs,h2,rfl⟩⟩
theorem bF {P:Program} {t:TypeId} {p u:Value} {os:List Own} {fs:List bA} {K:cE} [lG P t] (hm:(p,.ptr (.one u))∈fs)
  (k:K u os fs):pB P t p os fs K:=by
 refine ⟨fun G w hw=>?_⟩
 obtain ⟨r,o,cs,rfl,h2,h3⟩:=(hw.facts _ hm).ptr
 have:oA (.one u) cs=u:=by simp [oA,h2.1]
 exact ⟨u,fs,fun w' hb=>dH (this ▸ lM (d:=.one u) (show lG P t from inferInstance) h2 (h3.later Good.lt hb)),k,hw⟩
def Part (off:Nat) (d d':Dat):Prop:=∀ S w cs,RdC S w d cs→∃ pre cs' post,cs=pre++(cs'++post)∧pre.length=off∧RdC S w d' cs'
theorem Part.refl (d:Dat):Part 0 d d:=fun _ _ cs h=>⟨[],cs,[],by simp,rfl,h⟩
theorem Part.left {off:Nat} {a b d:Dat} (h:Part off a d):Part off (.cat a b) d:=fun S w cs ⟨c1,c2,e,h1,h2⟩ =>
 let ⟨pre,cs',post,e1,e2,e3⟩:=h S w c1 h1; ⟨pre,cs',post++c2,by simp [e,e1],e2,e3⟩
theorem Part.right {off:Nat} {a b d:Dat} (h:Part off b d):Part (a.cells+off) (.cat a b) d:=fun S w cs ⟨c1,c2,e,h1,h2⟩ =>
 let ⟨pre,cs',post,e1,e2,e3⟩:=h S w c2 h2; ⟨c1++pre,cs',post,by simp [e,e1],by simp [e2,RdC.length h1],e3⟩
theorem CellsAt.part {S:Nat→Prop} {w:World} {r o:Nat} {pre cs post:List Value} (h:CellsAt S w r o (pre++(cs++post))):CellsAt S w r (o+pre.length) cs:=fun j hj=>by
 obtain ⟨h1,h2⟩:=h (pre.length+j) (by simp; omega)
 refine ⟨h1,?_⟩
 rw [Nat.add_assoc,h2,List.getElem?_append_right qN,Nat.add_sub_cancel_left,List.getElem?_append_left hj]
theorem mF {P:Program} {t:TypeId} {k off:Nat} (ht:iU P t k off) (r o:Nat) (w:World) :
  (Instr.fieldAt t (.pointer (some ⟨r,o,none⟩)) k).run P w=.ok (.pointer (some ⟨r,o+off,none⟩)) w:=by
 obtain ⟨fs,f,h1,h2,h3,n,h4⟩:=ht.und
 simp [Instr.fieldAt,run_underlying h1,h2,Instr.sureAddr,fieldPlace,dB h4,h3,eI]
theorem gV {P:Program} {t:TypeId} {k off:Nat} {p:Value} {d d':Dat} {os:List Own} {fs:List bA} {K:cE} [ht:iU P t k off] (hm:(p,.ptr d)∈fs) (hp:Part off d d')
  (k':∀ q,K q os ((q,.ptr d')::fs)):FieldAddrK P t p k os fs K:=by
 refine ⟨fun G w hw=>?_⟩
 obtain ⟨r,o,cs,rfl,h2,h3⟩:=(hw.facts _ hm).ptr
 obtain ⟨pre,cs',post,rfl,rfl,e3⟩:=hp _ _ _ h2
 exact ⟨_,_,fun w' hb=>dH (mF ht r o w'),k' _,hw.put (Rd.mk_ptr e3 h3.part)⟩
theorem o6 {P:Program} {t e:TypeId} {size:Nat} (ht:TSl P t e size) (b:Addr) (n c:Nat) (k:IntKind) (i:Int) (h0:0≤i) (h1:i<n) (w:World) :
  (Instr.indexAt t (.slice (some b) n c) (.int k i)).run P w=.ok (.pointer (some (b.add (i.toNat*size)))) w:=by
 simp [Instr.indexAt,asIntOf,run_underlying ht.und,h0,h1,dB ht.size]
theorem aZ {P:Program} {t e:TypeId} {size n:Nat} {v:Value} {el:Nat→Dat} {k:IntKind} {i:Int} {os:List Own} {fs:List bA} {K:cE} [ht:TSl P t e size]
  (hm:(v,.sl size n el)∈fs) (j:Nat) (hj:i=(j:Int)) (hlt:j<n) (k':∀ p,K p os ((p,.ptr (el j))::fs)):jE P t v (.int k i) os fs K:=by
 refine ⟨fun G w hw=>?_⟩
 subst hj
 obtain ⟨a,c,rfl,h2,h3,h4,h5,h6⟩:=(hw.facts _ hm).sl
 obtain ⟨b,cs,rfl,g1,g2,g3⟩:=h6 j hlt
 have hb:b=⟨b.block,b.off,none⟩:=by have:=h5 b rfl qN; cases b; simp_all
 refine ⟨.pointer (some ⟨b.block,b.off+j*size,none⟩),_,fun w' _=>dH ?_,k' _,hw.put (Rd.mk_ptr g1 g3)⟩
 rw [o6 ht b n c k j qN qN w',hb,eI]
 rfl
theorem aS {P:Program} {t e ty:TypeId} {size size' n:Nat} {v:Value} {el:Nat→Dat} {os:List Own} {fs:List bA} {K:cE} [ht:TSl P t e size']
  (hm:(v,.sl size n el)∈fs) (k:n≤9223372036854775807→K (.int .i64 n) os fs):LenK P [t] ty v os fs K:=by
 refine ⟨fun G w hw=>?_⟩
 obtain ⟨a,c,rfl,h2,h3,_⟩:=(hw.facts _ hm).sl
 exact ⟨_,fs,fun w' _=>dH (by simp [Builtin.len_,run_underlying ht.und,goInt]),k (by unfold maxLen at h3; omega),hw⟩
theorem len_val {P:Program} {t e ty:TypeId} {size n c:Nat} {a:Option Addr} {os:List Own} {fs:List bA} {K:cE} [ht:TSl P t e size]
  (k:K (.int .i64 n) os fs):LenK P [t] ty (.slice a n c) os fs K:=by
 refine ⟨fun G w hw=>?_⟩
 exact ⟨_,fs,fun w' _=>dH (by simp [Builtin.len_,run_underlying ht.und,goInt]),k,hw⟩
theorem dD {P:Program} {s:Sem Value} {os:List Own} {fs:List bA} {K:cE} (v:Value) (h:∀ w,s.run P w=.ok v w) (k:K v os fs):Det P (val s) os fs K :=
 fun _ _ hw=>⟨v,fs,fun w' _=>dH (h w'),k,hw⟩
def cmpZ:BinOp→Int→Int→Option Bool
 | .eql,x,y=>some (decide (x=y))
 | .neq,x,y=>some (decide (x≠y))
 | .lss,x,y=>some (decide (x<y))
 | .leq,x,y=>some (decide (x≤y))
 | .gtr,x,y=>some (decide (y<x))
 | .geq,x,y=>some (decide (y≤x))
 | _,_,_=>none
theorem mJ {P:Program} {op:BinOp} {t:TypeId} {x y:Operand} {k:IntKind} {a b:Int} {r:Bool} (h:cmpZ op a b=some r) (w:World) :
  (do eqGuard op t x y (.int k a) (.int k b); binOp op t (.int k a) (.int k b):Sem Value).run P w=.ok (.bool r) w:=by
 cases op <;> simp only [cmpZ,Option.some.injEq,reduceCtorEq] at h <;> subst h <;>
  simp [eqGuard,binOp,Op.intCmp] <;> rfl
theorem aO {P:Program} {op:BinOp} {t:TypeId} {x y:Operand} {k:IntKind} {a b:Int} {os:List Own} {fs:List bA} {K:cE} (p:Prop) [Decidable p]
  (h:cmpZ op a b=some (decide p)) (h1:p→K (.bool true) os fs) (h2:¬ p→K (.bool false) os fs):pC P op t x y (.int k a) (.int k b) os fs K:=by
 by_cases hp:p
 ·exact .mk <| dD (.bool true) (fun w=>by have:=mJ (P:=P) (t:=t) (x:=x) (y:=y) (k:=k) h w; rw [this]; simp [hp]) (h1 hp)
 ·exact .mk <| dD (.bool false) (fun w=>by have:=mJ (P:=P) (t:=t) (x:=x) (y:=y) (k:=k) h w; rw [this]; simp [hp]) (h2 hp)
theorem bG {P:Program} {op:BinOp} {t:TypeId} {x y:Operand} {k:IntKind} {a b:Int} {os:List Own} {fs:List bA} {K:cE} {p:Prop} [Decidable p]
  (h:cmpZ op a b=some (decide p)) (hp:p) (h1:K (.bool true) os fs):pC P op t x y (.int k a) (.int k b) os fs K :=
 aO p h (fun _=>h1) (fun h=>absurd hp h)
theorem aL {P:Program} {op:BinOp} {t:TypeId} {x y:Operand} {k:IntKind} {a b:Int} {os:List Own} {fs:List bA} {K:cE} {p:Prop} [Decidable p]
  (h:cmpZ op a b=some (decide p)) (hp:¬ p) (h1:K (.bool false) os fs):pC P op t x y (.int k a) (.int k b) os fs K :=
 aO p h (fun h=>absurd h hp) (fun _=>h1)
def inK:IntKind→Int→Prop
 | .i64,n => -9223372036854775808≤n∧n≤9223372036854775807
 | .u64,n=>0≤n∧n<18446744073709551616
 | .u8,n=>0≤n∧n<256
 | .u32,n=>0≤n∧n<4294967296
 | _,_=>False
theorem bT {k:IntKind} {n:Int} (h:inK k n):k.wrap n=n:=by
 cases k <;> simp only [inK] at h <;> simp [IntKind.wrap,IntKind.bits,IntKind.signed] <;> omega
def arZ:BinOp→Int→Int→Option Int
 | .add,x,y=>some (x+y)
 | .sub,x,y=>some (x - y)
 | .mul,x,y=>some (x*y)
 | _,_,_=>none
theorem bin_ar_run {P:Program} {op:BinOp} {t:TypeId} {x y:Operand} {k:IntKind} {a b n:Int} (h:arZ op a b=some n) (w:World) :
  (do eqGuard op t x y (.int k a) (.int k b); binOp op t (.int k a) (.int k b):Sem Value).run P w=.ok (.int k (k.wrap n)) w:=by
 cases op <;> simp only [arZ,Option.some.injEq,reduceCtorEq] at h <;> subst h <;> simp [eqGuard,binOp,Op.intArith]
theorem ar {P:Program} {op:BinOp} {t:TypeId} {x y:Operand} {k:IntKind} {a b n:Int} {os:List Own} {fs:List bA} {K:cE}
  (h:arZ op a b=some n) (hin:inK k n) (h1:K (.int k n) os fs):pC P op t x y (.int k a) (.int k b) os fs K :=
 .mk <| dD _ (fun w=>by rw [bin_ar_run h w,bT hin]) h1
theorem dQ {P:Program} {op:BinOp} {t:TypeId} {x y:Operand} {k:IntKind} {a b n:Int} {os:List Own} {fs:List bA} {K:cE}
  (h:arZ op a b=some n) (m:Int) (hm:k.wrap n=m) (h1:K (.int k m) os fs):pC P op t x y (.int k a) (.int k b) os fs K :=
 .mk <| dD _ (fun w=>by rw [bin_ar_run h w,hm]) h1
theorem gH {P:Program} {t:TypeId} {x y:Operand} {k:IntKind} {a b:Int} {os:List Own} {fs:List bA} {K:cE} (ha:0≤a) (hb:0<b) (hin:inK k (a/b))
  (h1:K (.int k (a/b)) os fs):pC P .quo t x y (.int k a) (.int k b) os fs K :=
 .mk <| dD _ (fun w=>by
  have hb':b≠0:=by omega
  simp [eqGuard,binOp,Op.intDiv,hb',Int.tdiv_eq_ediv_of_nonneg ha,bT hin]) h1
theorem sZ {P:Program} {t:TypeId} {x y:Operand} {k:IntKind} {a b:Int} {os:List Own} {fs:List bA} {K:cE} (ha:0≤a) (hb:0<b)
  (h1:K (.int k (a%b)) os fs):pC P .rem t x y (.int k a) (.int k b) os fs K :=
 .mk <| dD _ (fun w=>by
  have hb':b≠0:=by omega
  simp [eqGuard,binOp,Op.intDiv,hb',Int.tmod_eq_emod_of_nonneg ha]) h1
theorem oQ {P:Program} {t:TypeId} (ht:P.underlying t=some .bool) (a b:Bool) (w:World):(Op.equal t (.bool a) (.bool b)).run P w=.ok (a==b) w:=by
 have h:∀ d,(Op.equalIn (d+1) t (.bool a) (.bool b)).run P w=.ok (a==b) w:=fun d=>by
  rw [Op.equalIn,Sem.run_bind,run_underlying ht]; rfl
 exact h 9999
theorem sI {P:Program} {t:TypeId} {x y:Operand} (ht:P.underlying t=some .bool) (a b:Bool) (w:World) :
  (do eqGuard .eql t x y (.bool a) (.bool b); binOp .eql t (.bool a) (.bool b):Sem Value).run P w=.ok (.bool (a==b)) w:=by
 have h:(binOp .eql t (.bool a) (.bool b))=(do pure (.bool (← Op.equal t (.bool a) (.bool b)))):=rfl
 have hg:(eqGuard .eql t x y (.bool a) (.bool b)).run P w=.ok () w:=rfl
 rw [Sem.run_bind,hg,Result.andThen_ok,h,Sem.run_bind,oQ ht,Result.andThen_ok,Sem.run_pure]
theorem nV {P:Program} {t:TypeId} {x y:Operand} (ht:P.underlying t=some .bool) (a b:Bool) (w:World) :
  (do eqGuard .neq t x y (.bool a) (.bool b); binOp .neq t (.bool a) (.bool b):Sem Value).run P w=.ok (.bool (!(a==b))) w:=by
 have h:(binOp .neq t (.bool a) (.bool b))=(do pure (.bool (!(← Op.equal t (.bool a) (.bool b))))):=rfl
 have hg:(eqGuard .neq t x y (.bool a) (.bool b)).run P w=.ok () w:=rfl
 rw [Sem.run_bind,hg,Result.andThen_ok,h,Sem.run_bind,oQ ht,Result.andThen_ok,Sem.run_pure]
class TBool (P:Program) (t:TypeId):Prop where
 und:P.underlying t=some .bool
theorem beq_split {P:Program} {t:TypeId} {x y:Operand} {a b:Bool} {os:List Own} {fs:List bA} {K:cE} [ht:TBool P t]
  (h1:a=b→K (.bool true) os fs) (h2:a≠b→K (.bool false) os fs):pC P .eql t x y (.bool a) (.bool b) os fs K:=by
 by_cases hp:a=b
 ·exact .mk <| dD (.bool true) (fun w=>by rw [sI ht.und,hp]; simp) (h1 hp)
 ·exact .mk <| dD (.bool false) (fun w=>by rw [sI ht.und]; simp [hp]) (h2 hp)
theorem gF {P:Program} {t:TypeId} {x y:Operand} {a b:Bool} {os:List Own} {fs:List bA} {K:cE} [ht:TBool P t]
  (h1:a≠b→K (.bool true) os fs) (h2:a=b→K (.bool false) os fs):pC P .neq t x y (.bool a) (.bool b) os fs K:=by
 by_cases hp:a=b
 ·exact .mk <| dD (.bool false) (fun w=>by rw [nV ht.und,hp]; simp) (h2 hp)
 ·exact .mk <| dD (.bool true) (fun w=>by rw [nV ht.und]; simp [hp]) (h1 hp)
theorem ConvK.of {P:Program} {d:Bool} {s t:TypeId} {a:Value} {os:List Own} {fs:List bA} {K:cE} (h:Det P (val (convert s t a)) os fs K):ConvK P d s t a os fs K:=⟨h.grw.dyn,fun _ _=>h⟩
theorem bJ {P:Program} {d:Bool} {s t:TypeId} {k k':IntKind} {n:Int} {os:List Own} {fs:List bA} {K:cE} (hs:∃ d,P.underlying s=some d) (ht:P.underlying t=some (.int k'))
  (m:Int) (hm:k'.wrap n=m) (h1:K (.int k' m) os fs):ConvK P d s t (.int k n) os fs K:=by
 obtain ⟨d,hd⟩:=hs
 refine ConvK.of (dD _ (fun w=>?_) h1)
 simp [convert,run_underlying hd,run_underlying ht,Conv.intToInt,hm]
theorem oP {P:Program} {k:IntKind} {n m:Int} {os:List Own} {fs:List bA} {K:cE} (hm:k.wrap (0 - n)=m) (h1:K (.int k m) os fs):UnK P .neg (.int k n) os fs K :=
 .mk <| dD _ (fun w=>by simp [Op.unary,Op.intArith,← hm]) h1
theorem n7 {P:Program} {t e:TypeId} {size n:Nat} {v:Value} {el:Nat→Dat} {kl kh:IntKind} {os:List Own} {fs:List bA} {K:cE} [ht:TSl P t e size]
  (hm:(v,.sl size n el)∈fs) (lo hi:Nat) (l h:Option Value) (hl:(l=none∧lo=0)∨l=some (.int kl lo)) (hh:(h=none∧hi=n)∨h=some (.int kh hi)) (h1:lo≤hi) (h2:hi≤n)
  (k:∀ u,K u os ((u,.sl size (hi - lo) fun i=>el (lo+i))::fs)):oU P t v l h none os fs K:=by
 refine ⟨fun G w hw=>?_⟩
 obtain ⟨a,c,rfl,g2,g3,g4,g5,g6⟩:=(hw.facts _ hm).sl
 have hrun:∀ w',(Instr.sliceAt t (.slice a n c) l h none).run P w'=.ok (.slice (if c=lo then a else a.map (·.add (lo*size))) (hi - lo) (c - lo)) w':=by
  intro w'
  have hhc:(hi:Int)≤(c:Int):=by omega
  have hlh:(lo:Int)≤(hi:Int):=by omega
  have hb:(Instr.sliceBounds true n c l h none).run P w'=.ok (lo,hi,c) w':=by
   rcases hl with ⟨rfl,rfl⟩ | rfl <;> rcases hh with ⟨rfl,rfl⟩ | rfl <;>
    simp [Instr.sliceBounds,Instr.sliceBound,asIntOf,hhc,h1,hlh] <;> omega
  simp [Instr.sliceAt,run_underlying ht.und,Instr.slice,hb,dB ht.size]
 refine ⟨_,_,fun w' _=>dH (hrun w'),k _,hw.put ?_⟩
 refine ⟨[_],⟨_,c - lo,rfl,by omega,by omega,?_,?_,?_⟩,rfl⟩
 ·intro hn
  cases a with
  | none=>have:=g4 rfl; omega
  | some b=>split at hn <;> simp at hn
 ·intro b hb hpos
  cases a with
  | none=>split at hb <;> simp at hb
  | some b' =>
   have:=g5 b' rfl qN
   split at hb
   ·simp only [Option.some.injEq] at hb; subst hb; exact this
   ·simp only [Option.map_some,Option.some.injEq] at hb
    subst hb
    unfold Addr.add; split <;> simp_all
 ·intro i hi'
  obtain ⟨b,cs,rfl,q1,q2,q3⟩:=g6 (lo+i) qN
  have hb:b=⟨b.block,b.off,none⟩:=by have:=g5 b rfl qN; cases b; simp_all
  have hc:c≠lo:=by omega
  refine ⟨b.add (lo*size),cs,by simp [hc],q1,q2,?_⟩
  rw [hb,eI]
  simp only
  rw [Nat.add_assoc,← Nat.add_mul]
  exact q3
theorem aC {off:Nat} {a b d:Dat} (h:Part off b d):Part (a.cells+off) (.cat a b) d:=Part.right h
theorem aG (d:Dat):Part 0 d d:=Part.refl d
theorem aJ {off:Nat} {a b d:Dat} (h:Part off a d):Part off (.cat a b) d:=Part.left h
theorem dM {S:Nat→Prop} {w:World}:∀ {d:Dat} {cs:List Value},RdC S w d cs→cs.length=d.cells:=RdC.length
def bL (v:Value) (size n:Nat) (e:Nat→Dat):Own:=⟨1,fun _=>v,size,fun _=>n,fun _=>e⟩
def bQ:List Own→Nat→Option Own
 | [],_=>none
 | o::_,0=>some o
 | _::r,k+1=>bQ r k
def setOwn:List Own→Nat→Own→List Own
 | [],_,_=>[]
 | _::r,0,o=>o::r
 | x::r,k+1,o=>x::setOwn r k o
def eE:List Own→Nat→List Own
 | [],_=>[]
 | _::r,0=>r
 | x::r,k+1=>x::eE r k
theorem bU {os:List Own}:∀ {k:Nat} {o:Own},bQ os k=some o→o∈os:=by
 induction os with
 | nil=>intro k o h; simp [bQ] at h
 | cons x r ih =>
  intro k o h
  cases k with
  | zero=>simp only [bQ,Option.some.injEq] at h; simp [h]
  | succ k=>exact List.mem_cons_of_mem _ (ih h)
def jP (v:Value) (k:Nat):Value :=
 match v with
 | .slice (some a) _ _=>.pointer (some (a.add k))
 | .pointer (some a)=>.pointer (some (a.add k))
 | _=>undef
structure RowOf (S:Nat→Prop) (B:Nat) (w:World) (v:Value) (r size n cap:Nat) (e:Nat→Dat):Prop where
 blk:lR v=some r
 ptr:∀ k,jP v k=.pointer (some ⟨r,k,none⟩)
 row:OwnRow S B w r size n cap e
theorem OwnVal.row {S:Nat→Prop} {B:Nat} {w:World} {v:Value} {size n:Nat} {e:Nat→Dat} (h:OwnVal S B w v size n e) (hn:0<n) :
  ∃ r cap,RowOf S B w v r size n cap e:=by
 rcases h with ⟨_,h⟩ | ⟨r,cap,rfl,h⟩ | ⟨r,rfl,rfl,h⟩ | ⟨h,_⟩
 ·omega
 ·exact ⟨r,cap,rfl,fun k=>by simp [jP,eI],h⟩
 ·exact ⟨r,1,rfl,fun k=>by simp [jP,eI],h⟩
 ·omega
theorem OwnRow.cellsAt {S:Nat→Prop} {B:Nat} {w:World} {r size n cap:Nat} {e:Nat→Dat} (h:OwnRow S B w r size n cap e) {i:Nat} (hi:i<n) :
  ∃ cs,RdC S w (e i) cs∧cs.length=size∧∀ w':World,w'.heap[r]? = w.heap[r]? → ∀ j,j<cs.length→w'.cell? ⟨r,i*size+j,none⟩=cs[j]? := by
 obtain ⟨h1,h2,h3,cur,t,h4,h5,h6⟩:=h
 obtain ⟨cs,g1,g2,g3⟩:=h6 i hi
 refine ⟨cs,g1,g2,fun w' hw j hj=>?_⟩
 rw [← g3 j qN]
 exact h4.cell hw _
theorem load_own {P:Program} {t:TypeId} {os:List Own} {fs:List bA} {K:cE} (pos i:Nat) {o:Own} (h:bQ os pos=some o) (hi:i<o.m) (j off:Nat) {k:Nat} (hk:k=j*o.size+off)
  (hj:j<o.n i) {d:Dat} (hp:Part off (o.e i j) d) (ht:gX P t d) (k':∀ u,K u os ((u,d)::fs)):pB P t (jP (o.v i) k) os fs K:=by
 refine ⟨fun G w hw=>?_⟩
 have hov:=hw.own o (bU h) i hi
 obtain ⟨r,cap,hr⟩:=hov.row qN
 obtain ⟨cs,g1,g2,g3⟩:=hr.row.cellsAt hj
 obtain ⟨pre,cs',post,rfl,rfl,q3⟩:=hp _ _ _ g1
 rw [hr.ptr k]
 refine ⟨oA d cs',_,fun w' hb=>dH (lM ht q3 fun x hx=>?_),k' _,hw.put ⟨cs',q3,rfl⟩⟩
 have:=g3 w' (hb.block r (hov.blk hr.blk).2) (pre.length+x) (by simp; omega)
 rw [hk,Nat.add_assoc,this,List.getElem?_append_right qN,Nat.add_sub_cancel_left,List.getElem?_append_left hx]
theorem load_elem {P:Program} {t:TypeId} {v:Value} {size n:Nat} {e:Nat→Dat} {os:List Own} {fs:List bA} {K:cE} (pos:Nat) (h:bQ os pos=some (bL v size n e)) (j:Nat)
  (hj:j<n) (ht:gX P t (e j)) (k':∀ u,K u os ((u,e j)::fs)):pB P t (jP v (j*size)) os fs K :=
 load_own (o:=bL v size n e) pos 0 h Nat.zero_lt_one j 0 rfl hj (aG _) ht k'
def g9 (v:Value):Prop:=∃ r,v=.pointer (some ⟨r,0,none⟩)
theorem aE {P:Program} {t:TypeId} {v:Value} {size:Nat} {e:Nat→Dat} {os:List Own} {fs:List bA} {K:cE} (pos:Nat) (h:bQ os pos=some (bL v size 1 e)) (hb:g9 v)
  {d:Dat} (hd:e 0=d) (ht:gX P t d) (k':∀ u,K u os ((u,d)::fs)):pB P t v os fs K:=by
 obtain ⟨r,rfl⟩:=hb
 subst hd
 have:=load_own (P:=P) (t:=t) (K:=K) (fs:=fs) (o:=bL (.pointer (some ⟨r,0,none⟩)) size 1 e) pos 0 h Nat.zero_lt_one 0 0 (k:=0) qP Nat.zero_lt_one (aG _) ht k'
 simpa [jP,eI,bL] using this
theorem aW {P:Program} {t:TypeId} {v u:Value} {size:Nat} {e:Nat→Dat} {os:List Own} {fs:List bA} {K:cE} [ht:lG P t] (pos:Nat) (h:bQ os pos=some (bL v size 1 e)) (hb:g9 v)
  (hd:e 0=.one u) (k':K u os fs):pB P t v os fs K:=by
 obtain ⟨r,rfl⟩:=hb
 refine ⟨fun G w hw=>?_⟩
 have hov:=hw.own _ (bU h) 0 Nat.zero_lt_one
 obtain ⟨r',cap,hr⟩:=hov.row Nat.zero_lt_one
 obtain ⟨cs,g1,g2,g3⟩:=hr.row.cellsAt Nat.zero_lt_one
 have hrr:r'=r:=by have:=hr.blk; simp [bL,lR] at this; exact this.symm
 subst hrr
 have g1':RdC (Good G.A os w) w (.one u) cs:=hd ▸ g1
 have hp:oA (.one u) cs=u:=by simp [oA,g1'.1]
 refine ⟨u,fs,fun w' hb=>dH ?_,k',hw⟩
 have:=lM (P:=P) (t:=t) (w:=w') (r:=r') (o:=0) (d:=.one u) ht g1' fun x hx=>by
  have:=g3 w' (hb.block r' (hov.blk hr.blk).2) x hx
  simpa using this
 rwa [hp] at this
theorem aK {P:Program} {t:TypeId} {v:Value} {size off:Nat} {e:Nat→Dat} {os:List Own} {fs:List bA} {K:cE} (pos:Nat) (h:bQ os pos=some (bL v size 1 e))
  {d:Dat} (hp:Part off (e 0) d) (ht:gX P t d) (k':∀ u,K u os ((u,d)::fs)):pB P t (jP v off) os fs K :=
 load_own (o:=bL v size 1 e) pos 0 h Nat.zero_lt_one 0 off qP Nat.zero_lt_one hp ht k'
theorem aB {P:Program} {t:TypeId} {v u:Value} {size off:Nat} {e:Nat→Dat} {os:List Own} {fs:List bA} {K:cE} [ht:lG P t] (pos:Nat) (h:bQ os pos=some (bL v size 1 e))
  (hp:Part off (e 0) (.one u)) (k':K u os fs):pB P t (jP v off) os fs K:=by
 refine ⟨fun G w hw=>?_⟩
 obtain ⟨x,fs',h1,h2,h3⟩:=(aK (K:=fun y os' fs'=>os'=os∧fs'=(y,.one u)::fs) pos h hp ht (fun y=>⟨rfl,rfl⟩)).out G w hw
 obtain ⟨_,rfl⟩:=h2
 have hx:x=u:=(h3.facts (x,.one u) qP).one
 subst hx
 exact ⟨x,fs,h1,k',hw⟩
theorem aF {P:Program} {t:TypeId} {k off:Nat} {v:Value} {size:Nat} {e:Nat→Dat} {os:List Own} {fs:List bA} {K:cE} [ht:iU P t k off] (pos:Nat)
  (h:bQ os pos=some (bL v size 1 e)) (hb:g9 v) (k':K (jP v off) os fs):FieldAddrK P t v k os fs K:=by
 obtain ⟨r,rfl⟩:=hb
 refine ⟨fun G w hw=>⟨_,fs,fun w' _=>dH (mF ht r 0 w'),?_,hw⟩⟩
 simpa [jP,eI] using k'
theorem oI {P:Program} {t:TypeId} {k off j:Nat} {v:Value} {size n:Nat} {e:Nat→Dat} {os:List Own} {fs:List bA} {K:cE} [ht:iU P t k off] (pos:Nat)
  (h:bQ os pos=some (bL v size n e)) (hn:0<n) (k':K (jP v (j+off)) os fs):FieldAddrK P t (jP v j) k os fs K:=by
 refine ⟨fun G w hw=>?_⟩
 obtain ⟨r,cap,hr⟩:=(hw.own _ (bU h) 0 Nat.zero_lt_one).row hn
 refine ⟨jP v (j+off),fs,fun w' _=>dH ?_,k',hw⟩
 have h1:jP v j=.pointer (some ⟨r,j,none⟩):=hr.ptr j
 have h2:jP v (j+off)=.pointer (some ⟨r,j+off,none⟩):=hr.ptr _
 rw [h1,h2]
 exact mF ht r j w'
theorem index_own {P:Program} {t e':TypeId} {size:Nat} {kk:IntKind} {x:Int} {os:List Own} {fs:List bA} {K:cE} [ht:TSl P t e' size] (pos i:Nat) {o:Own} (h:bQ os pos=some o) (hi:i<o.m)
  (hb:∀ r,o.v i≠.pointer r) (j:Nat) (hj:x=(j:Int)) (hlt:j<o.n i) (k':K (jP (o.v i) (j*size)) os fs):jE P t (o.v i) (.int kk x) os fs K:=by
 refine ⟨fun G w hw=>?_⟩
 subst hj
 rcases hw.own o (bU h) i hi with ⟨_,hn⟩ | ⟨r,cap,hv,hr⟩ | ⟨r,hv,_⟩ | ⟨hn,_⟩
 rotate_right
 ·omega
 ·omega
 ·refine ⟨jP (o.v i) (j*size),fs,fun w' _=>dH ?_,k',hw⟩
  rw [hv,o6 ht _ _ _ _ _ qN qN w']
  simp [jP]
 ·exact absurd hv (hb _)
def eQ (v:Value):Prop:=∃ a n c,v=.slice a n c
theorem eM {P:Program} {t e':TypeId} {size n:Nat} {kk:IntKind} {x:Int} {v:Value} {e:Nat→Dat} {os:List Own} {fs:List bA} {K:cE} [ht:TSl P t e' size] (pos:Nat)
  (h:bQ os pos=some (bL v size n e)) (hs:eQ v) (j:Nat) (hj:x=(j:Int)) (hlt:j<n) (k':K (jP v (j*size)) os fs):jE P t v (.int kk x) os fs K :=
 index_own (o:=bL v size n e) pos 0 h Nat.zero_lt_one (fun r hr=>by obtain ⟨a,n,c,rfl⟩:=hs; simp [bL] at hr) j hj hlt k'
theorem nN {P:Program} {t e' ty:TypeId} {size size' n:Nat} {v:Value} {e:Nat→Dat} {os:List Own} {fs:List bA} {K:cE} [ht:TSl P t e' size'] (pos:Nat)
  (h:bQ os pos=some (bL v size n e)) (hs:eQ v) (k:n≤9223372036854775807→K (.int .i64 n) os fs):LenK P [t] ty v os fs K:=by
 refine ⟨fun G w hw=>?_⟩
 obtain ⟨a,m,c,rfl⟩:=hs
 have hov:=hw.own _ (bU h) 0 Nat.zero_lt_one
 have hm:m=n∧n≤9223372036854775807:=by
  rcases hov with ⟨h1,h2⟩ | ⟨r,cap,h1,_,h2,h3,_⟩ | ⟨r,h1,_⟩ | ⟨_,_,_,_,_,_,⟨r,_,_,h1,_⟩ | ⟨r,_,_,_,_,_,_,h1,_⟩⟩
  ·simp only [bL,Value.slice.injEq] at h1 h2; omega
  ·simp only [bL,Value.slice.injEq] at h1 h2; unfold maxLen at h3; omega
  ·simp [bL] at h1
  ·simp [bL] at h1
  ·simp [bL] at h1
 exact ⟨_,fs,fun w' _=>dH (by simp [Builtin.len_,run_underlying ht.und,goInt,hm.1]),k hm.2,hw⟩
theorem Holds.alloc {G:Ctx} {os:List Own} {fs:List bA} {w:World} (h:Holds G os fs w) (o:Own) (ob:Obj) (w':World) (hb:Below w.heap.size w w')
  (hm:o.m=1) (hv:lR (o.v 0)=none∨lR (o.v 0)=some w.heap.size) (hown:OwnVal (Good G.A (o::os) w') G.B w' (o.v 0) o.size (o.n 0) (o.e 0)):Holds G (o::os) fs w':=by
 have hs:=hb.size
 have hge:∀ b,o.has b→w.heap.size≤b:=fun b ⟨i,hi,hvb⟩=>by
  have:i=0:=by omega
  subst this
  rcases hv with hv | hv <;> simp [hv] at hvb
  omega
 have hg:∀ b,Good G.A os w b→Good G.A (o::os) w' b:=fun b ⟨h1,h2,h3⟩=>⟨Nat.lt_of_lt_of_le h1 hs,h2,fun hh=>hh.elim (fun hh=>absurd (hge b hh) (Nat.not_le.2 h1)) h3⟩
 have ha:lF (Good G.A os w) w w':=fun b hb'=>hb.block b hb'.1
 refine ⟨h.lowS hs (fun b hb=>hb.elim (fun h=>.inr (hge b h)) .inl),Nat.le_trans h.size hs,h.below.trans (hb.mono h.size),⟨fun i j b hi hj _ _=>by omega,fun b hb1 hb2=>?_,h.apart⟩,fun x hx i hi=>?_,h.facts.mono ha hg,h.keptS hb fun b hb=>hb.elim (fun h=>.inr (hge b h)) .inl⟩
 ·exact absurd (h.owned_lt hb2).2 (Nat.not_lt.2 (hge b hb1))
 ·rcases List.mem_cons.1 hx with rfl | hx
  ·have:i=0:=by omega
   subst this
   exact hown
  ·exact (h.own x hx i hi).mono ha hg fun r hr=>hb.block r ((h.own x hx i hi).blk hr).2
theorem OwnRow.new {S:Nat→Prop} {B:Nat} {w:World} (hB:B≤w.heap.size) (cur:Array Value) (t:TypeId) {size n cap:Nat} {e:Nat→Dat} (hn:n≤cap) (hc:cap≤maxLen) (hs:cur.size=cap*size)
  (he:∀ i,i<n→∃ cs,RdC S (w.alloc (.cells cur t)) (e i) cs∧cs.length=size∧∀ j,j<size→cur[i*size+j]? = cs[j]?):OwnRow S B (w.alloc (.cells cur t)) w.heap.size size n cap e :=
 ⟨hB,hn,hc,cur,t,⟨_,heap_alloc_new w _,.inl rfl⟩,hs,he⟩
def Reads (os:List Own) (fs:List bA) (v:Value) (d:Dat):Prop:=∀ G w,Holds G os fs w→∃ cs,RdC (Good G.A os w) w d cs∧v.cells.toList=cs
theorem lO {v:Value} (h:v.oneCell'=true):v.cells.toList=[v]:=by cases v <;> simp_all [Value.oneCell',Value.cells]
theorem Reads.fact {os:List Own} {fs:List bA} {v:Value} {d:Dat} (h:(v,d)∈fs):Reads os fs v d:=fun G w hw=>by
 obtain ⟨cs,h1,h2⟩:=hw.facts _ h
 refine ⟨cs,h1,?_⟩
 simp only at h1 h2
 subst h2
 cases d with
 | one u=>obtain ⟨rfl,h2⟩:=h1; simp [oA,lO h2]
 | sl size n e=>obtain ⟨a,c,rfl,_⟩:=h1; simp [oA,Value.cells]
 | ptr d=>obtain ⟨r,o,cs',rfl,_⟩:=h1; simp [oA,Value.cells]
 | cat a b=>simp [oA,Value.cells]
 | mp n k e=>obtain ⟨r,es,clock,rfl,_⟩:=h1; simp [oA,Value.cells]
 | lp l=>exact False.elim h1
theorem Reads.one {os:List Own} {fs:List bA} {v:Value} (h:v.oneCell'=true):Reads os fs v (.one v):=fun _ _ _=>⟨[v],⟨rfl,h⟩,lO h⟩
theorem RdC.oneCells {S:Nat→Prop} {w:World}:∀ {d:Dat} {cs:List Value},RdC S w d cs→∀ v,v∈cs→v.oneCell'=true
 | .one _,cs,⟨h,h2⟩,v,hv=>by subst h; simp at hv; subst hv; exact h2
 | .sl .., cs,⟨a,c,h,_⟩,v,hv=>by subst h; simp at hv; subst hv; rfl
 | .ptr _,cs,⟨r,o,cs',h,_⟩,v,hv=>by subst h; simp at hv; subst hv; rfl
 | .mp .., cs,⟨r,es,clock,h,_⟩,v,hv=>by subst h; simp at hv; subst hv; rfl
 | .lp _,_,h,_,_=>h.elim
 | .cat a b,cs,⟨c1,c2,h,h1,h2⟩,v,hv=>by
  subst h
  rcases List.mem_append.1 hv with hv | hv
  ·exact RdC.oneCells h1 v hv
  ·exact RdC.oneCells h2 v hv
theorem pA {S:Nat→Prop} {w:World} (o:Obj) (hS:∀ b,S b→b<w.heap.size):lF S w (w.alloc o):=fun b hb=>Below.heap_alloc w o b (hS b hb)
theorem aQ {P:Program} {t:TypeId} {v:Value} {d:Dat} {os:List Own} {fs:List bA} {K:cE} (hr:Reads os fs v d)
  (k:∀ p,g9 p→K p (bL p d.cells 1 (fun _=>d)::os) fs):BoxK P t v os fs K:=by
 refine ⟨fun G w hw=>?_⟩
 obtain ⟨cs,h1,h2⟩:=hr G w hw
 have hrun:(val (Instr.box t v)).run P w=.ok (.value (.pointer (some ⟨w.heap.size,0,none⟩))) (w.alloc (.cells v.cells t)):=by
  simp [val,Instr.box,newVar,newRow]
 rw [hrun]
 have hb:Below w.heap.size w (w.alloc (.cells v.cells t)):=(Below.refl _ _).alloc (Nat.le_refl _) _
 refine ⟨hb,_,fs,k _ ⟨_,rfl⟩,hw.alloc _ (.cells v.cells t) _ hb rfl (.inr rfl) (.inr (.inr (.inl ⟨_,rfl,rfl,?_⟩)))⟩
 have hlen:v.cells.size=d.cells:=by rw [← dM h1,← h2]; simp
 refine OwnRow.new hw.size _ _ (Nat.le_refl _) (by unfold maxLen; omega) (by simp [bL,hlen]) fun i hi=>⟨cs,?_,dM h1,fun j hj=>?_⟩
 ·refine h1.mono (pA _ Good.lt) fun b ⟨g1,g2,g3⟩=>⟨by simp; omega,g2,fun ho=>ho.elim (fun ⟨i,hi,hv⟩=>?_) g3⟩
  simp [bL,lR] at hv
  omega
 ·have:i=0:=by omega
  subst this
  simp [← h2]
class iD (P:Program) (t:TypeId) (d:Dat):Prop where
 zero:∃ i z,P.info? t=some i∧i.zero=some z∧(∀ S w,RdC S w d z.cells.toList)
theorem Holds.take {A:Nat→Prop} {B:Nat} {w0:World} {M:Nat→Obj→Prop} {D:(Nat→Prop)×List Deferred} {os:List Own} {fs:List bA} {w:World} {r:Nat} (h:Holds ⟨fun b=>A b∨b=r,B,w0,M,D⟩ os fs w)
  (hA:¬ A r) (hM:∀ o,¬ M r o) (o:Own) (hm:o.m=1) (hv:lR (o.v 0)=some r) (hown:OwnVal (Good A (o::os) w) B w (o.v 0) o.size (o.n 0) (o.e 0)):Holds ⟨A,B,w0,M,D⟩ (o::os) fs w:=by
 have has:∀ b,o.has b→b=r:=fun b ⟨i,hi,hvb⟩=>by
  have:i=0:=by omega
  subst this
  rw [hv] at hvb; exact (Option.some.inj hvb).symm
 have hg:∀ b,Good (fun b=>A b∨b=r) os w b→Good A (o::os) w b:=fun b ⟨h1,h2,h3⟩=>⟨h1,fun h=>h2 (.inl h),fun hh=>hh.elim (fun hh=>h2 (.inr (has b hh))) h3⟩
 have ha:lF (Good (fun b=>A b∨b=r) os w) w w:=fun _ _=>rfl
 refine ⟨fun b hb=>⟨(h.low b (.inl hb)).1,fun hh=>hh.elim (fun hh=>hA (has b hh ▸ hb)) (h.low b (.inl hb)).2⟩,h.size,h.below,⟨fun i j b hi hj _ _=>by omega,fun b hb1 hb2=>?_,h.apart⟩,fun x hx i hi=>?_,h.facts.mono ha hg,fun b x hb=>?_⟩
 ·exact (h.low r (.inr rfl)).2 (has b hb1 ▸ hb2)
 ·rcases List.mem_cons.1 hx with rfl | hx
  ·have:i=0:=by omega
   subst this
   exact hown
  ·exact (h.own x hx i hi).mono ha hg fun _ _=>rfl
 ·obtain ⟨k1,k2,k3⟩:=h.kept b x hb
  exact ⟨k1,k2,fun hh=>hh.elim (fun hh=>hM x (has b hh ▸ hb)) k3⟩
theorem aI {P:Program} {t:TypeId} {d:Dat} [hz:iD P t d] {os:List Own} {fs:List bA} {K:cE}
  (k:∀ p,g9 p→K p (bL p d.cells 1 (fun _=>d)::os) fs):AllocK P t os fs K:=by
 obtain ⟨i,z,z1,z2,z3⟩:=hz.zero
 have hrun:∀ w,(val (Instr.alloc t true (.tuple #[]))).run P w=.ok (.value (.pointer (some ⟨w.heap.size,0,none⟩))) (w.alloc (.cells z.cells t)):=fun w=>by
  simp [val,Instr.alloc,newVar,newRow,zeroValue,typeInfo,z1,z2]
 have hlen:z.cells.size=d.cells:=by rw [← dM (z3 (fun _=>True) default)]; simp
 refine ⟨fun G w hw=>?_,z.cells,hrun,fun A B w0 M D w r hB hA hM hr hw=>?_⟩
 ·rw [hrun]
  have hb:Below w.heap.size w (w.alloc (.cells z.cells t)):=(Below.refl _ _).alloc (Nat.le_refl _) _
  refine ⟨hb,_,fs,k _ ⟨_,rfl⟩,hw.alloc _ (.cells z.cells t) _ hb rfl (.inr rfl) (.inr (.inr (.inl ⟨_,rfl,rfl,?_⟩)))⟩
  refine OwnRow.new hw.size _ _ (Nat.le_refl _) (by unfold maxLen; omega) (by simp [bL,hlen]) fun i hi=>⟨_,z3 _ _,by simp [hlen,bL],fun j hj=>?_⟩
  have:i=0:=by omega
  subst this
  simp
 ·refine ⟨_,fs,k _ ⟨r,rfl⟩,hw.take hA hM _ rfl rfl (.inr (.inr (.inl ⟨r,rfl,rfl,hB,Nat.le_refl _,by unfold maxLen; omega,z.cells,t,⟨_,hr,.inl rfl⟩,by simp [bL,hlen],fun i hi=>⟨_,z3 _ _,by simp [hlen,bL],fun j hj=>?_⟩⟩)))⟩
  have:i=0:=by omega
  subst this
  simp
theorem aA {os:List Own} {fs:List bA} {v:Value} {d:Dat} (h:(v,d)∈fs):Reads os fs v d:=Reads.fact h
theorem dC {os:List Own} {fs:List bA} {v:Value} (h:v.oneCell'=true):Reads os fs v (.one v):=Reads.one h
class TEl (P:Program) (e:TypeId) (size bytes:outParam Nat):Prop where
 info:∃ i z,P.info? e=some i∧i.size=size∧i.bytes=bytes∧i.zero=some z∧z.cells.size=size∧0<size
theorem madeCells_get (z:Array Value) (n size i j:Nat) (hz:z.size=size) (hi:i<n) (hj:j<size):(madeCells z (n*size))[i*size+j]? = z[j]? := by
 have hlt:i*size+j<n*size:=by
  have:(i+1)*size≤n*size:=Nat.mul_le_mul_right _ hi
  rw [Nat.add_mul] at this
  omega
 have hm:(i*size+j)%z.size=j:=by rw [hz,Nat.add_comm,Nat.add_mul_mod_self_right,Nat.mod_eq_of_lt hj]
 have hj':j<z.size:=by omega
 simp [madeCells,hlt,hm,hj']
theorem gO {P:Program} {s:Sem Value} {v:Value} {w w':World} (h:s.run P w=.ok v w'):(val s).run P w=.ok (.value v) w':=by
 simp [val,h]
theorem uQ {P:Program} {t e:TypeId} {size bytes:Nat} {d:Dat} [ht:TSl P t e size] [he:TEl P e size bytes] [hz:iD P e d] {k1 k2:IntKind} {x y:Int} {os:List Own} {fs:List bA} {K:cE}
  (n:Nat) (hx:x=(n:Int)) (hy:y=(n:Int)) (hb:bytes*n≤281474976710656) (hn:n≤9223372036854775807)
  (k:∀ v,eQ v→K v (bL v size n (fun _=>d)::os) fs):MakeK P t (.int k1 x) (.int k2 y) os fs K:=by
 refine ⟨fun G w hw=>?_⟩
 subst hx hy
 obtain ⟨i,z,h1,h2,h3,h4,h5,h6⟩:=he.info
 obtain ⟨i',z',g1,g2,g3⟩:=hz.zero
 rw [h1] at g1
 obtain rfl:=Option.some.inj g1
 rw [h4] at g2
 obtain rfl:=Option.some.inj g2
 have hbz:(i.bytes:Int)*(n:Int)≤281474976710656:=by
  have:((i.bytes*n:Nat):Int)≤281474976710656:=by rw [h3]; omega
  rwa [Int.natCast_mul] at this
 have hrun:=run_make (P:=P) w t e i z ht.und h1 h4 k1 k2 n n qN (Int.le_refl _) hbz qN
 rw [gO hrun]
 have hb':Below w.heap.size w (w.alloc (.cells (madeCells z.cells ((n:Int).toNat*i.size)) e)):=(Below.refl _ _).alloc (Nat.le_refl _) _
 refine ⟨hb',_,fs,k _ ⟨_,_,_,rfl⟩,hw.alloc _ (.cells (madeCells z.cells ((n:Int).toNat*i.size)) e) _ hb' rfl (.inr rfl) (.inr (.inl ⟨w.heap.size,n,by simp [bL],?_⟩))⟩
 refine OwnRow.new hw.size _ _ (Nat.le_refl _) (by unfold maxLen; omega) (by simp [size_madeCells,h2,bL]) fun i' hi'=>⟨_,g3 _ _,by simp [h5,bL],fun j hj=>?_⟩
 simp only [Int.toNat_natCast,h2,bL] at hi' hj ⊢
 rw [madeCells_get z.cells n size i' j h5 hi' hj]
 simp
theorem n8 {os:List Own}:∀ {k:Nat} {o x:Own},x∈setOwn os k o→x=o∨∃ i,i≠k∧bQ os i=some x:=by
 induction os with
 | nil=>intro k o x h; simp [setOwn] at h
 | cons y r ih =>
  intro k o x h
  cases k with
  | zero =>
   simp only [setOwn,List.mem_cons] at h
   rcases h with h | h
   ·exact .inl h
   ·right
    obtain ⟨i,hi⟩:∃ i,bQ r i=some x:=by
     clear ih
     induction r with
     | nil=>simp at h
     | cons z r ih2 =>
      rcases List.mem_cons.1 h with rfl | h
      ·exact ⟨0,rfl⟩
      ·obtain ⟨i,hi⟩:=ih2 h; exact ⟨i+1,hi⟩
    exact ⟨i+1,by omega,hi⟩
  | succ k =>
   simp only [setOwn,List.mem_cons] at h
   rcases h with rfl | h
   ·exact .inr ⟨0,by omega,rfl⟩
   ·rcases ih h with h | ⟨i,h1,h2⟩
    ·exact .inl h
    ·exact .inr ⟨i+1,by omega,h2⟩
theorem kL {os:List Own}:∀ {k:Nat} {x:Own},x∈eE os k→∃ i,i≠k∧bQ os i=some x:=by
 induction os with
 | nil=>intro k x h; simp [eE] at h
 | cons y r ih =>
  intro k x h
  cases k with
  | zero =>
       rcases n8 (k:=0) (o:=y) (os:=y::r) (x:=x) (by simp only [setOwn,eE] at *; exact List.mem_cons_of_mem _ h) with rfl | h'
       ·obtain ⟨i,hi⟩:∃ i,bQ r i=some x:=by
         simp only [eE] at h
         clear ih
         induction r with
         | nil=>simp at h
         | cons z r ih2 =>
          rcases List.mem_cons.1 h with rfl | h
          ·exact ⟨0,rfl⟩
          ·obtain ⟨i,hi⟩:=ih2 h; exact ⟨i+1,hi⟩
        exact ⟨i+1,by omega,hi⟩
       ·exact h'
  | succ k =>
   simp only [eE,List.mem_cons] at h
   rcases h with rfl | h
   ·exact ⟨0,by omega,rfl⟩
   ·obtain ⟨i,h1,h2⟩:=ih h; exact ⟨i+1,by omega,h2⟩
theorem Apart.two {os:List Own} (h:Apart os):∀ {i j:Nat} {x y:Own},bQ os i=some x→bQ os j=some y→i≠j→∀ b,x.has b→¬ y.has b:=by
 induction os with
 | nil=>intro i j x y hx; simp [bQ] at hx
 | cons o os ih =>
  intro i j x y hx hy hij b hb hb'
  cases i with
  | zero =>
   cases j with
   | zero=>exact hij rfl
   | succ j =>
    simp only [bQ,Option.some.injEq] at hx hy
    subst hx
    exact h.2.1 b hb (dY.2 ⟨y,bU hy,hb'⟩)
  | succ i =>
   cases j with
   | zero =>
    simp only [bQ,Option.some.injEq] at hx hy
    subst hy
    exact h.2.1 b hb' (dY.2 ⟨x,bU hx,hb⟩)
   | succ j=>exact ih h.2.2 hx hy qN b hb hb'
theorem iA {os:List Own}:∀ {k:Nat} {o:Own} {b:Nat},eW (setOwn os k o) b→o.has b∨eW os b:=by
 intro k o b h
 obtain ⟨x,hx,hb⟩:=dY.1 h
 rcases n8 hx with rfl | ⟨i,_,hi⟩
 ·exact .inl hb
 ·exact .inr (dY.2 ⟨x,bU hi,hb⟩)
theorem Apart.setOwn {os:List Own} (h:Apart os):∀ {k:Nat} {o o':Own},bQ os k=some o→(∀ i j b,i<o'.m→j<o'.m→lR (o'.v i)=some b→lR (o'.v j)=some b→i=j) →
  (∀ b,o'.has b→o.has b∨¬ eW os b)→Apart (setOwn os k o'):=by
 induction os with
 | nil=>intro k o o' hk; simp [bQ] at hk
 | cons x r ih =>
  intro k o o' hk h1 h2
  cases k with
  | zero =>
   simp only [bQ,Option.some.injEq] at hk
   subst hk
   refine ⟨h1,fun b hb hb'=>?_,h.2.2⟩
   rcases h2 b hb with h' | h'
   ·exact h.2.1 b h' hb'
   ·exact h' (.inr hb')
  | succ k =>
   refine ⟨h.1,fun b hb hb'=>?_,ih h.2.2 hk h1 fun b hb=>?_⟩
   ·rcases iA hb' with h' | h'
    ·rcases h2 b h' with h'' | h''
     ·exact h.2.1 b hb (dY.2 ⟨o,bU hk,h''⟩)
     ·exact h'' (.inl hb)
    ·exact h.2.1 b hb h'
   ·rcases h2 b hb with h' | h'
    ·exact .inl h'
    ·exact .inr fun h''=>h' (.inr h'')
theorem Holds.step {G:Ctx} {os:List Own} {fs:List bA} {w w':World} (h:Holds G os fs w) {pos:Nat} {o o':Own} (hp:bQ os pos=some o)
  (ho:w'.os=w.os) (htp:w'.tape=w.tape) (hou:w'.output=w.output) (hsz:w.heap.size≤w'.heap.size)
  (hblk:∀ k,k<w.heap.size→¬ o.has k→w'.heap[k]? = w.heap[k]?)
  (hnew:∀ b,o'.has b→o.has b∨(w.heap.size≤b))
  (hinj:∀ i j b,i<o'.m→j<o'.m→lR (o'.v i)=some b→lR (o'.v j)=some b→i=j)
  (hown:(∀ d cs,RdC (Good G.A os w) w d cs→RdC (Good G.A (setOwn os pos o') w') w' d cs)→∀ i,i<o'.m→OwnVal (Good G.A (setOwn os pos o') w') G.B w' (o'.v i) o'.size (o'.n i) (o'.e i)) :
  Holds G (setOwn os pos o') fs w':=by
 have hmem:∀ b,o.has b→eW os b:=fun b hb=>dY.2 ⟨o,bU hp,hb⟩
 have hg:∀ b,Good G.A os w b→Good G.A (setOwn os pos o') w' b:=fun b ⟨g1,g2,g3⟩=>⟨Nat.lt_of_lt_of_le g1 hsz,g2,fun hb=>by
  rcases iA hb with hb | hb
  ·rcases hnew b hb with hb | hb
   ·exact g3 (hmem b hb)
   ·omega
  ·exact g3 hb⟩
 have ha:lF (Good G.A os w) w w':=fun b hb=>hblk b hb.1 fun h'=>hb.2.2 (hmem b h')
 refine ⟨h.lowS hsz (fun b hb=>(iA hb).elim (fun h=>(hnew b h).imp (hmem b) id) .inl),Nat.le_trans h.size hsz,h.below.trans ⟨ho,htp,hou,hsz,fun k hk=>?_⟩,h.apart.setOwn hp hinj fun b hb=>?_,fun x hx i hi=>?_,h.facts.mono ha hg,fun b x hm=>?_⟩
 rotate_right
 ·obtain ⟨k1,k2,k3⟩:=h.kept b x hm
  have hlt:b<w.heap.size:=(Array.getElem?_eq_some_iff.1 k2).1
  refine ⟨k1,(hblk b hlt fun h'=>k3 (hmem b h')).trans k2,fun hb=>?_⟩
  rcases iA hb with hb | hb
  ·rcases hnew b hb with hb | hb
   ·exact k3 (hmem b hb)
   ·omega
  ·exact k3 hb
 ·refine hblk k (Nat.lt_of_lt_of_le hk h.size) fun hk'=>?_
  have:=(h.owned_lt (hmem k hk')).1
  omega
 ·rcases hnew b hb with hb | hb
  ·exact .inl hb
  ·exact .inr fun h'=>by have:=(h.owned_lt h').2; omega
 ·rcases n8 hx with rfl | ⟨q,hq,hqx⟩
  ·exact hown (fun d cs hd=>hd.mono ha hg) i hi
  ·refine (h.own x (bU hqx) i hi).mono ha hg fun r hr=>hblk r ((h.own x (bU hqx) i hi).blk hr).2 fun hor=>?_
   exact h.apart.two hqx hp hq r ⟨i,hi,hr⟩ hor
def upd (e:Nat→Dat) (j:Nat) (d:Dat):Nat→Dat:=fun x=>if x=j then d else e x
theorem eS {P:Program} (g o:Nat) (t:TypeId):∀ (vs:List Value) (i:Nat) (cur:Array Value) (w:World),RowAt w g cur t→o+i+vs.length≤cur.size→(∀ v∈vs,v.oneCell'=true) →
  (storeCells ⟨g,o,none⟩ vs i).run P w=.ok () (w.setRow g (cur.toList.take (o+i)++vs++cur.toList.drop (o+i+vs.length)).toArray)
 | [],i,cur,w,⟨fz,hg,_⟩,_,_=>by
  simp only [storeCells,List.append_nil,List.length_nil,Nat.add_zero,List.take_append_drop,Array.toArray_toList]
  rw [setRow_self w g cur t fz hg]
  rfl
 | v::rest,i,cur,w,⟨fz,hg,hz⟩,hl,h1=>by
  have hi:o+i<cur.size:=by simp at hl; omega
  have hadd:(⟨g,o,none⟩:Addr).add i=⟨g,o+i,none⟩:=by unfold Addr.add; split <;> simp_all
  have hcell:w.cell? ⟨g,o+i,none⟩=some cur[o+i]:=by simp [World.cell?,hg,hi]
  have hfro:w.frozen? ⟨g,o+i,none⟩=false:=by
   obtain ⟨lo,hi'⟩:=fz
   simp only [World.frozen?,hg,Bool.and_eq_false_iff,decide_eq_false_iff_not]
   unfold Unfz at hz
   simp only at hz
   omega
  have hst:(store ((⟨g,o,none⟩:Addr).add i) v).run P w=.ok () (w.setRow g (cur.setIfInBounds (o+i) v)):=by
   rw [hadd,run_store P w _ v _ (h1 v qP),hcell]
   simp [hfro,setCell_eq_setRow w g (o+i) cur t fz v hg]
  have ih:=eS (P:=P) g o t rest (i+1) (cur.setIfInBounds (o+i) v) (w.setRow g (cur.setIfInBounds (o+i) v)) ⟨fz,setRow_heap w g cur _ t _ hg,by simpa using hz⟩ (by simp at hl ⊢; omega) (fun x hx=>h1 x (by simp [hx]))
  simp only [storeCells,Sem.run_bind,hst,Result.andThen_ok,ih,setRow_setRow]
  congr 3
  have e:=list_seg_step cur.toList (o+i) v rest (by simp at hl ⊢; omega)
  simpa [Array.toList_setIfInBounds,Nat.add_assoc] using e
theorem RowAt.set {w:World} {r:Nat} {cur new:Array Value} {t:TypeId} (h:RowAt w r cur t) (hs:new.size=cur.size):RowAt (w.setRow r new) r new t:=let ⟨z,h1,h2⟩:=h; ⟨z,setRow_heap w r cur _ t _ h1,by rw [hs]; exact h2⟩
theorem m7 {P:Program} {t ty:TypeId} {v:Value} {cs:List Value} {r o:Nat} {w:World} {cur:Array Value} (hv:v.cells.toList=cs) (h1:∀ u,u∈cs→u.oneCell'=true)
  (hsz:(P.info? ty).map (·.size)=some cs.length) (hg:RowAt w r cur t) (hfit:o+cs.length≤cur.size) :
  (Instr.storeAt ty (.pointer (some ⟨r,o,none⟩)) v).run P w=.ok () (w.setRow r (cur.toList.take o++cs++cur.toList.drop (o+cs.length)).toArray):=by
 have hst:=eS (P:=P) r o t cs 0 cur w hg (by simpa using hfit) h1
 have hc:v.cells.size=cs.length:=by rw [← hv]; simp
 simp [Instr.storeAt,Instr.sureAddr,storeVar,dB hsz,hc,hv,hst]
theorem tS {P:Program} {s:Sem Unit} {w w':World} (h:s.run P w=.ok () w'):(unt s).run P w=.ok .skip w':=by
 simp [unt,h]
theorem kZ (l cs:List Value) (o x:Nat) (h:o+cs.length≤l.length) :
  (l.take o++cs++l.drop (o+cs.length))[x]? = if o≤x∧x<o+cs.length then cs[x - o]? else l[x]? := by
 rw [List.append_assoc]
 by_cases h1:x<o
 ·rw [List.getElem?_append_left (by simp; omega),if_neg qN,List.getElem?_take_of_lt h1]
 ·rw [List.getElem?_append_right (by simp; omega)]
  have hl:(l.take o).length=o:=by simp; omega
  rw [hl]
  by_cases h2:x<o+cs.length
  ·rw [List.getElem?_append_left qN,if_pos ⟨by omega,h2⟩]
  ·rw [List.getElem?_append_right qN,if_neg qN,List.getElem?_drop]
   congr 1
   omega
theorem store_own {P:Program} {ty:TypeId} {x:Value} {d:Dat} {os:List Own} {fs:List bA} {K:cE} (pos i:Nat) {o:Own} (h:bQ os pos=some o) (hi:i<o.m) (j:Nat) {k:Nat} (hk:k=j*o.size)
  (hj:j<o.n i) (hd:d.cells=o.size) (ht:(P.info? ty).map (·.size)=some o.size) (hx:Reads os fs x d)
  (k':K undef (setOwn os pos { o with e:=fun y=>if y=i then upd (o.e i) j d else o.e y }) fs):oT P ty (jP (o.v i) k) x os fs K:=by
 refine ⟨fun G w hw=>?_⟩
 have hov:=hw.own o (bU h) i hi
 obtain ⟨r,cap,hr⟩:=hov.row qN
 obtain ⟨cs,c1,c2⟩:=hx G w hw
 obtain ⟨b1,b2,b3,cur,t,b4,b5,b6⟩:=hr.row
 have hl:cs.length=o.size:=by rw [dM c1,hd]
 have hsz:0≤o.size:=Nat.zero_le _
 have hfit:k+cs.length≤cur.size:=by
  have:(j+1)*o.size≤cap*o.size:=Nat.mul_le_mul_right _ qN
  rw [Nat.add_mul] at this
  rw [b5,hl,hk]; omega
 rw [hr.ptr k,tS (m7 (cs:=cs) c2 (RdC.oneCells c1) (by rw [hl]; exact ht) b4 hfit)]
 refine ⟨_,_,k',?_⟩
 have hrl:=(hov.blk hr.blk).2
 have hhas:o.has r:=⟨i,hi,hr.blk⟩
 refine hw.step h rfl rfl rfl qP (fun q hq hno=>setRow_other w r q _ fun e=>hno (e ▸ hhas)) (fun b hb=>.inl hb) (fun a b c ha hb=>?_) fun mono y hy=>?_
 ·have:=hw.apart
  intro e1 e2
  have key:∀ {os:List Own},Apart os→o∈os→∀ i j b,i<o.m→j<o.m→lR (o.v i)=some b→lR (o.v j)=some b→i=j:=by
   intro os
   induction os with
   | nil=>intro _ hm; simp at hm
   | cons z r ih =>
    intro hA hm
    rcases List.mem_cons.1 hm with rfl | hm
    ·exact hA.1
    ·exact ih hA.2.2 hm
  exact key hw.apart (bU h) a b c ha hb e1 e2
 ·by_cases hyi:y=i
  ·subst hyi
   simp only [if_true]
   have row:OwnRow (Good G.A (setOwn os pos { o with e:=fun y'=>if y'=y then upd (o.e y) j d else o.e y' }) (w.setRow r (cur.toList.take k++cs++cur.toList.drop (k+cs.length)).toArray)) G.B
     (w.setRow r (cur.toList.take k++cs++cur.toList.drop (k+cs.length)).toArray) r o.size (o.n y) cap (upd (o.e y) j d):=by
    refine ⟨b1,b2,b3,_,t,b4.set (by simp only [List.size_toArray,List.length_append,List.length_take,List.length_drop,Array.length_toList]; omega),?_,fun z hz=>?_⟩
    ·simp only [List.size_toArray,List.length_append,List.length_take,List.length_drop,Array.length_toList]; omega
    ·by_cases hzj:z=j
     ·subst hzj
      simp only [upd,if_true]
      refine ⟨cs,mono d cs c1,hl,fun q hq=>?_⟩
      rw [List.getElem?_toArray,kZ _ _ _ _ (by simpa using hfit),if_pos ⟨by omega,by omega⟩]
      congr 1
      omega
     ·simp only [upd,hzj,if_false]
      obtain ⟨cz,z1,z2,z3⟩:=b6 z hz
      refine ⟨cz,mono _ _ z1,z2,fun q hq=>?_⟩
      rw [List.getElem?_toArray,kZ _ _ _ _ (by simpa using hfit),if_neg,Array.getElem?_toList,z3 q hq]
      rw [hl,hk]
      intro ⟨e1,e2⟩
      rcases Nat.lt_or_gt_of_ne hzj with hlt | hgt
      ·have:(z+1)*o.size≤j*o.size:=Nat.mul_le_mul_right _ hlt
       rw [Nat.add_mul] at this
       omega
      ·have:(j+1)*o.size≤z*o.size:=Nat.mul_le_mul_right _ hgt
       rw [Nat.add_mul] at this
       omega
   rcases hov with ⟨h1,h2⟩ | ⟨r',cap',h1,h2⟩ | ⟨r',h1,h2,h3⟩ | ⟨h1,_⟩
   rotate_right
   ·omega
   ·omega
   ·have:r'=r:=by have:=hr.blk; rw [h1] at this; simpa [lR] using this
    subst this
    refine .inr (.inl ⟨r',cap,?_,row⟩)
    have hc:cap'=cap:=by
     obtain ⟨_,_,_,cur',t',q4,q5,_⟩:=h2
     obtain ⟨rfl,_⟩:=b4.inj q4
     rw [q5] at b5
     rcases Nat.eq_zero_or_pos o.size with h0 | h0
     ·exfalso
      have hcs:cs=[]:=List.eq_nil_of_length_eq_zero qN
      subst hcs
      have:=dM c1
      cases d <;> simp [Dat.cells] at this
      rename_i d1 d2
      have p1:∀ d:Dat,0<d.cells:=by
       intro d
       induction d with
       | cat a b ih1 ih2=>simp only [Dat.cells]; omega
       | _=>simp [Dat.cells]
      have:=p1 d1
      omega
     ·exact Nat.eq_of_mul_eq_mul_right h0 b5
    rw [h1,hc]
   ·have:r'=r:=by have:=hr.blk; rw [h1] at this; simpa [lR] using this
    subst this
    refine .inr (.inr (.inl ⟨r',h1,h2,?_⟩))
    have hc:cap=1:=by
     obtain ⟨_,_,_,cur',t',q4,q5,_⟩:=h3
     obtain ⟨rfl,_⟩:=b4.inj q4
     rw [q5] at b5
     rcases Nat.eq_zero_or_pos o.size with h0 | h0
     ·exfalso
      have p1:∀ d:Dat,0<d.cells:=by
       intro d
       induction d with
       | cat a b ih1 ih2=>simp only [Dat.cells]; omega
       | _=>simp [Dat.cells]
      have:=p1 d
      omega
     ·exact (Nat.eq_of_mul_eq_mul_right h0 b5).symm
    rw [hc,h2] at row
    exact row
  ·simp only [hyi,if_false]
   refine (hw.own o (bU h) y hy).mono (S':=Good G.A (setOwn os pos { o with e:=fun y'=>if y'=i then upd (o.e i) j d else o.e y' }) (w.setRow r (cur.toList.take k++cs++cur.toList.drop (k+cs.length)).toArray)) ?_ ?_ fun q hq=>?_
   ·intro b hb
    exact setRow_other w r b _ fun e=>hb.2.2 (dY.2 ⟨o,bU h,e ▸ hhas⟩)
   ·intro b ⟨g1,g2,g3⟩
    refine ⟨by simpa using g1,g2,fun hb=>?_⟩
    rcases iA hb with hb | hb
    ·exact g3 (dY.2 ⟨o,bU h,hb⟩)
    ·exact g3 hb
   ·refine setRow_other w r q _ fun e=>hyi ?_
    subst e
    have key:∀ {os:List Own},Apart os→o∈os→∀ i j b,i<o.m→j<o.m→lR (o.v i)=some b→lR (o.v j)=some b→i=j:=by
     intro os
     induction os with
     | nil=>intro _ hm; simp at hm
     | cons z r ih =>
      intro hA hm
      rcases List.mem_cons.1 hm with rfl | hm
      ·exact hA.1
      ·exact ih hA.2.2 hm
    exact key hw.apart (bU h) y i q hy hi hq hr.blk
theorem rA {P:Program} {ty:TypeId} {x v:Value} {d:Dat} {size n:Nat} {e:Nat→Dat} {os:List Own} {fs:List bA} {K:cE} (pos:Nat) (h:bQ os pos=some (bL v size n e)) (j:Nat)
  (hj:j<n) (hd:d.cells=size) (ht:(P.info? ty).map (·.size)=some size) (hx:Reads os fs x d)
  (k':K undef (setOwn os pos (bL v size n (upd e j d))) fs):oT P ty (jP v (j*size)) x os fs K:=by
 have hh:({ bL v size n e with e:=fun y=>if y=0 then upd ((bL v size n e).e 0) j d else (bL v size n e).e y }:Own).m=1:=rfl
 refine ⟨fun G w hw=>?_⟩
 have:=(store_own (P:=P) (ty:=ty) (fs:=fs) (o:=bL v size n e) (K:=fun u os' fs'=>u=undef∧os'=_∧fs'=fs) pos 0 h Nat.zero_lt_one j rfl hj hd ht hx ⟨rfl,rfl,rfl⟩).out G w hw
 refine this.mono ?_
 rintro u w' ⟨os',fs',⟨rfl,rfl,rfl⟩,hw'⟩
 refine ⟨_,_,k',?_⟩
 have blk:∀ b,eW (setOwn os pos (bL v size n (upd e j d))) b↔eW (setOwn os pos { bL v size n e with e:=fun y=>if y=0 then upd ((bL v size n e).e 0) j d else (bL v size n e).e y }) b:=by
  have gen:∀ (os:List Own) (pos:Nat) (a b:Own),(∀ q,a.has q↔b.has q)→∀ q,eW (setOwn os pos a) q↔eW (setOwn os pos b) q:=by
   intro os
   induction os with
   | nil=>intro pos a b _ q; simp [setOwn]
   | cons y r ih =>
    intro pos a b hab q
    cases pos with
    | zero=>simp only [setOwn,eW,hab q]
    | succ pos=>simp only [setOwn,eW,ih pos a b hab q]
  exact gen os pos _ _ fun q=>Iff.rfl
 have hgood:∀ b,Good G.A (setOwn os pos { bL v size n e with e:=fun y=>if y=0 then upd ((bL v size n e).e 0) j d else (bL v size n e).e y }) w' b →
   Good G.A (setOwn os pos (bL v size n (upd e j d))) w' b:=fun b ⟨g1,g2,g3⟩=>⟨g1,g2,fun hb=>g3 ((blk b).1 hb)⟩
 have ap:∀ (os:List Own) (pos:Nat) (a b:Own),Apart (setOwn os pos a)→a.m=b.m→a.v=b.v→Apart (setOwn os pos b):=by
  intro os
  induction os with
  | nil=>intro pos a b h _ _; exact h
  | cons y r ih =>
   intro pos a b h hm hv
   have hab:∀ q,a.has q↔b.has q:=fun q=>by simp only [Own.has,hm,hv]
   have gen:∀ (os:List Own) (pos:Nat) q,eW (setOwn os pos a) q↔eW (setOwn os pos b) q:=by
    intro os
    induction os with
    | nil=>intro pos q; simp [setOwn]
    | cons y r ih =>
     intro pos q
     cases pos with
     | zero=>simp only [setOwn,eW,hab q]
     | succ pos=>simp only [setOwn,eW,ih pos q]
   cases pos with
   | zero=>exact ⟨by rw [← hm,← hv]; exact h.1,fun q hq=>h.2.1 q ((hab q).2 hq),h.2.2⟩
   | succ pos=>exact ⟨h.1,fun q hq hq'=>h.2.1 q hq ((gen r pos q).2 hq'),ih pos a b h.2.2 hm hv⟩
 refine ⟨hw'.lowS (Nat.le_refl _) (fun b hb=>.inl ((blk b).1 hb)),hw'.size,hw'.below,ap os pos _ _ hw'.apart rfl rfl,fun x hx i hi=>?_,hw'.facts.mono (fun _ _=>rfl) hgood,hw'.keptS (Below.refl _ _) fun b hb=>.inl ((blk b).1 hb)⟩
 rcases n8 hx with rfl | ⟨q,hq,hqx⟩
 ·have hi0:i=0:=by simp only [bL] at hi; omega
  subst hi0
  have m:∀ (os:List Own) (pos:Nat) (a b:Own),bQ os pos=some a→b∈setOwn os pos b:=by
   intro os
   induction os with
   | nil=>intro pos a b h; simp [bQ] at h
   | cons y r ih =>
    intro pos a b h
    cases pos with
    | zero=>simp [setOwn]
    | succ pos=>exact List.mem_cons_of_mem _ (ih pos a b h)
  have:=hw'.own _ (m os pos _ _ h) 0 Nat.zero_lt_one
  exact this.mono (fun _ _=>rfl) hgood fun _ _=>rfl
 ·have m:∀ (os:List Own) (pos i:Nat) (a x:Own),i≠pos→bQ os i=some x→x∈setOwn os pos a:=by
   intro os
   induction os with
   | nil=>intro pos i a x _ h; simp [bQ] at h
   | cons y r ih =>
    intro pos i a x hne h
    cases pos with
    | zero =>
     cases i with
     | zero=>exact absurd rfl hne
     | succ i=>exact List.mem_cons_of_mem _ (bU h)
    | succ pos =>
     cases i with
     | zero=>simp only [bQ,Option.some.injEq] at h; subst h; simp [setOwn]
     | succ i=>exact List.mem_cons_of_mem _ (ih pos i a x qN h)
  have:=hw'.own x (m os pos q _ x hq hqx) i hi
  exact this.mono (fun _ _=>rfl) hgood fun _ _=>rfl
theorem bY {P:Program} {ty:TypeId} {x v:Value} {d:Dat} {size:Nat} {e:Nat→Dat} {os:List Own} {fs:List bA} {K:cE} (pos:Nat) (h:bQ os pos=some (bL v size 1 e)) (hb:g9 v)
  (hd:d.cells=size) (ht:(P.info? ty).map (·.size)=some size) (hx:Reads os fs x d)
  (k':K undef (setOwn os pos (bL v size 1 (upd e 0 d))) fs):oT P ty v x os fs K:=by
 obtain ⟨r,rfl⟩:=hb
 have:=rA (P:=P) (ty:=ty) pos h 0 Nat.zero_lt_one hd ht hx k'
 simpa [jP,eI] using this
def Knw (os:List Own) (fs:List bA) (v:Value) (d:Dat):Prop:=∀ G w,Holds G os fs w→Rd (Good G.A os w) w v d
theorem Knw.fact {os:List Own} {fs:List bA} {v:Value} {d:Dat} (h:(v,d)∈fs):Knw os fs v d:=fun _ _ hw=>hw.facts _ h
theorem Knw.cast {os:List Own} {fs:List bA} {v:Value} {d d':Dat} (h:Knw os fs v d) (e:d=d'):Knw os fs v d':=e ▸ h
theorem Knw.nil {os:List Own} {fs:List bA} (size:Nat) (e:Nat→Dat):Knw os fs (.slice none 0 0) (.sl size 0 e):=fun _ _ _ =>
 ⟨[.slice none 0 0],⟨none,0,rfl,Nat.le_refl _,Nat.zero_le _,fun _=>⟨rfl,rfl⟩,fun b h=>by simp at h,fun i hi=>absurd hi (Nat.not_lt_zero _)⟩,rfl⟩
theorem Knw.one {os:List Own} {fs:List bA} {v:Value} (h:v.oneCell'=true):Knw os fs v (.one v):=fun _ _ _=>⟨[v],⟨rfl,h⟩,rfl⟩
theorem Knw.sl_cong {os:List Own} {fs:List bA} {v:Value} {size n:Nat} {e e':Nat→Dat} (h:Knw os fs v (.sl size n e)) (he:∀ i,i<n→e i=e' i):Knw os fs v (.sl size n e'):=fun G w hw=>by
 obtain ⟨cs,⟨a,c,h1,h2,h3,h4,h5,h6⟩,h7⟩:=h G w hw
 exact ⟨cs,⟨a,c,h1,h2,h3,h4,h5,fun i hi=>by rw [← he i hi]; exact h6 i hi⟩,h7⟩
theorem Seals.nil (os:List Own) (fs:List bA):Seals os fs os []:=fun _ _ hw=>hw.weaken_facts (fun F hF=>by cases hF)
theorem Seals.cons {os:List Own} {fs fs':List bA} {v:Value} {d:Dat} (h:Knw os fs v d) (h':Seals os fs os fs'):Seals os fs os ((v,d)::fs') :=
 fun G w hw=>(h' G w hw).put (h G w hw)
theorem Seals.add {os:List Own} {fs:List bA} {v:Value} {d:Dat} (h:Knw os fs v d):Seals os fs os ((v,d)::fs):=fun G w hw=>hw.put (h G w hw)
theorem Holds.drop {G:Ctx} {os:List Own} {fs:List bA} {w:World} (h:Holds G os fs w) (pos:Nat):Holds G (eE os pos) fs w:=by
 have sub:∀ (os:List Own) (pos:Nat) b,eW (eE os pos) b→eW os b:=fun os pos b hb=>by
  obtain ⟨x,hx,hxb⟩:=dY.1 hb
  obtain ⟨i,_,hi⟩:=kL hx
  exact dY.2 ⟨x,bU hi,hxb⟩
 have hg:∀ b,Good G.A os w b→Good G.A (eE os pos) w b:=fun b ⟨h1,h2,h3⟩=>⟨h1,h2,fun hb=>h3 (sub _ _ _ hb)⟩
 have ap:∀ (os:List Own) (pos:Nat),Apart os→Apart (eE os pos):=by
  intro os
  induction os with
  | nil=>intro _ h; exact h
  | cons y r ih =>
   intro pos h
   cases pos with
   | zero=>exact h.2.2
   | succ pos=>exact ⟨h.1,fun b hb hb'=>h.2.1 b hb (sub _ _ _ hb'),ih pos h.2.2⟩
 refine ⟨h.lowS (Nat.le_refl _) (fun b hb=>.inl (sub _ _ b hb)),h.size,h.below,ap _ _ h.apart,fun o ho i hi=>?_,h.facts.mono (fun _ _=>rfl) hg,h.keptS (Below.refl _ _) fun b hb=>.inl (sub _ _ b hb)⟩
 obtain ⟨q,_,hq⟩:=kL ho
 exact (h.own o (bU hq) i hi).mono (fun _ _=>rfl) hg fun _ _=>rfl
theorem Seals.drop (pos:Nat) (os:List Own) (fs:List bA):Seals os fs (eE os pos) fs:=fun _ _ hw=>hw.drop pos
theorem good_drop {G:Ctx} {os:List Own} {fs:List bA} {w:World} (h:Holds G os fs w) {pos:Nat} {o:Own} (hp:bQ os pos=some o) {r:Nat} (hr:o.has r):Good G.A (eE os pos) w r:=by
 have ho:eW os r:=dY.2 ⟨o,bU hp,hr⟩
 refine ⟨(h.owned_lt ho).2,fun hA=>?_,fun hb=>?_⟩
 ·exact (h.low r hA).2 ho
 ·obtain ⟨x,hx,hxb⟩:=dY.1 hb
  obtain ⟨q,hq,hqx⟩:=kL hx
  exact h.apart.two hqx hp hq r hxb hr
theorem Seals.slice {os:List Own} {fs:List bA} (pos:Nat) {v:Value} {size n:Nat} {e:Nat→Dat} (e':Nat→Dat) (h:bQ os pos=some (bL v size n e)) (hs:eQ v) (he:∀ i,i<n→e i=e' i) :
  Seals os fs (eE os pos) ((v,.sl size n e')::fs):=by
 intro G w hw
 refine (hw.drop pos).put ?_
 obtain ⟨a,m,c,rfl⟩:=hs
 have hg:∀ b,Good G.A os w b→Good G.A (eE os pos) w b:=fun b ⟨h1,h2,h3⟩=>⟨h1,h2,fun hb=>h3 (by
  obtain ⟨x,hx,hxb⟩:=dY.1 hb
  obtain ⟨i,_,hi⟩:=kL hx
  exact dY.2 ⟨x,bU hi,hxb⟩)⟩
 rcases hw.own _ (bU h) 0 Nat.zero_lt_one with ⟨h1,h2⟩ | ⟨r,cap,h1,h2⟩ | ⟨r,h1,_⟩ | ⟨_,_,_,_,_,_,⟨r,_,_,h1,_⟩ | ⟨r,_,_,_,_,_,_,h1,_⟩⟩
 rotate_right
 ·simp [bL] at h1
 rotate_right
 ·simp [bL] at h1
 ·simp only [bL] at h1 h2
  rw [h1,h2]
  exact Knw.nil (os:=eE os pos) (fs:=fs) size e' G w (hw.drop pos)
 ·have hhas:(bL (.slice a m c) size n e).has r:=⟨0,Nat.zero_lt_one,by rw [h1]; rfl⟩
  simp only [bL] at h1 h2
  rw [h1]
  obtain ⟨b1,b2,b3,cur,t,b4,b5,b6⟩:=h2
  refine ⟨[.slice (some ⟨r,0,none⟩) n cap],⟨_,cap,rfl,b2,b3,fun hn=>by simp at hn,fun b hb _=>by simp at hb; subst hb; rfl,fun i hi=>?_⟩,rfl⟩
  obtain ⟨cs,c1,c2,c3⟩:=b6 i hi
  refine ⟨⟨r,0,none⟩,cs,rfl,?_,c2,fun j hj=>⟨good_drop hw h hhas,?_⟩⟩
  ·rw [← he i hi]; exact c1.mono (fun _ _=>rfl) hg
  ·rw [← c3 j qN]; simp [b4.cell rfl]
 ·simp [bL] at h1
theorem Seals.box {os:List Own} {fs:List bA} (pos:Nat) {v:Value} {size:Nat} {e:Nat→Dat} (h:bQ os pos=some (bL v size 1 e)) (hb:g9 v) {d:Dat} (hd:e 0=d) :
  Seals os fs (eE os pos) ((v,.ptr d)::fs):=by
 intro G w hw
 subst hd
 refine (hw.drop pos).put ?_
 obtain ⟨r,rfl⟩:=hb
 have hg:∀ b,Good G.A os w b→Good G.A (eE os pos) w b:=fun b ⟨h1,h2,h3⟩=>⟨h1,h2,fun hb=>h3 (by
  obtain ⟨x,hx,hxb⟩:=dY.1 hb
  obtain ⟨i,_,hi⟩:=kL hx
  exact dY.2 ⟨x,bU hi,hxb⟩)⟩
 have hhas:(bL (.pointer (some ⟨r,0,none⟩)) size 1 e).has r:=⟨0,Nat.zero_lt_one,rfl⟩
 obtain ⟨r',cap,hr⟩:=(hw.own _ (bU h) 0 Nat.zero_lt_one).row Nat.zero_lt_one
 have hrr:r'=r:=by have:=hr.blk; simp [bL,lR] at this; exact this.symm
 subst hrr
 obtain ⟨cs,c1,c2,c3⟩:=hr.row.cellsAt Nat.zero_lt_one
 refine Rd.mk_ptr (c1.mono (fun _ _=>rfl) hg) fun j hj=>⟨good_drop hw h hhas,?_⟩
 have:=c3 w rfl j hj
 simpa using this
theorem Seals.own_cong {os:List Own} {fs:List bA} (pos:Nat) {v:Value} {size n n':Nat} {e:Nat→Dat} (e':Nat→Dat) (h:bQ os pos=some (bL v size n e)) (hn:n=n') (he:∀ i,i<n→e i=e' i) (hsz:0<size∨0<n:=by first | exact .inl (Nat.zero_lt_succ _) | exact .inr (Nat.zero_lt_succ _)) :
  Seals os fs (setOwn os pos (bL v size n' e')) fs:=by
 intro G w hw
 subst hn
 refine hw.step h rfl rfl rfl (Nat.le_refl _) (fun _ _ _=>rfl) (fun b hb=>.inl hb) (fun i j b hi hj _ _=>by simp only [bL] at hi hj; omega) fun mono i hi=>?_
 have hi0:i=0:=by simp only [bL] at hi; omega
 subst hi0
 have row:∀ {r cap},OwnRow (Good G.A os w) G.B w r size n cap e→OwnRow (Good G.A (setOwn os pos (bL v size n e')) w) G.B w r size n cap e':=fun ⟨b1,b2,b3,cur,t,b4,b5,b6⟩ =>
  ⟨b1,b2,b3,cur,t,b4,b5,fun i hi=>let ⟨cs,c1,c2⟩:=b6 i hi; ⟨cs,by rw [← he i hi]; exact mono _ _ c1,c2⟩⟩
 rcases hw.own _ (bU h) 0 Nat.zero_lt_one with h1 | ⟨r,cap,h1,h2⟩ | ⟨r,h1,h2,h3⟩ | ⟨h0,h1,_⟩
 ·exact .inl h1
 ·exact .inr (.inl ⟨r,cap,h1,row h2⟩)
 ·simp only [bL] at h2
  subst h2
  exact .inr (.inr (.inl ⟨r,h1,rfl,row h3⟩))
 ·simp only [bL] at h0 h1
  omega
theorem aV (pos:Nat) (os:List Own) (fs:List bA):Seals os fs (eE os pos) fs:=Seals.drop pos os fs
theorem bO (os:List Own) (fs:List bA):Seals os fs os []:=Seals.nil os fs
theorem cI {os:List Own} {fs:List bA} {v:Value} {d:Dat} (h:(v,d)∈fs):Knw os fs v d:=Knw.fact h
theorem append_room {P:Program} {t ty e:TypeId} {i:TypeInfo} {w:World} (ht:P.underlying t=some (.slice e)) (hi:P.info? e=some i) {r sLen sCap m c:Nat} {cur:Array Value} {t0:TypeId} {b:Option Addr} {news:List Value}
  (hf:(Builtin.firstCells i.size m (.slice b m c)).run P w=.ok news.toArray w) (hroom:sLen+m≤sCap) (hg:RowAt w r cur t0)
  (hfit:sLen*i.size+news.length≤cur.size) (h1:∀ u∈news,u.oneCell'=true) :
  (Builtin.append_ #[t,t] ty #[.slice (some ⟨r,0,none⟩) sLen sCap,.slice b m c]).run P w =
   .ok (.slice (some ⟨r,0,none⟩) (sLen+m) sCap) (w.setRow r (cur.toList.take (sLen*i.size)++news++cur.toList.drop (sLen*i.size+news.length)).toArray):=by
 have hst:=eS (P:=P) r (sLen*i.size) t0 news 0 cur w hg (by simpa using hfit) h1
 simp only [Nat.add_zero] at hst
 simp [Builtin.append_,run_underlying ht,sizeOf,typeInfo,hi,Builtin.lenOf,hroom,hf,eI,hst]
theorem append_grow {P:Program} {t ty e:TypeId} {i:TypeInfo} {z:Value} {w:World} (ht:P.underlying t=some (.slice e)) (hi:P.info? e=some i) (hz:i.zero=some z) {a b:Option Addr} {sLen sCap m c:Nat} {olds news:List Value}
  (hfo:(Builtin.firstCells i.size sLen (.slice a sLen sCap)).run P w.drew=.ok olds.toArray w.drew) (hf:(Builtin.firstCells i.size m (.slice b m c)).run P w.drew=.ok news.toArray w.drew)
  (hg:sCap<sLen+m) (h63:sLen+m≤9223372036854775807) (hfit:(sLen+m)*i.bytes≤140737488355328) :
  (Builtin.append_ #[t,t] ty #[.slice a sLen sCap,.slice b m c]).run P w =
   .ok (.slice (some ⟨w.heap.size,0,none⟩) (sLen+m) (grownCap w (sLen+m) sCap e))
    (w.drew.alloc (.cells (olds.toArray++news.toArray++Builtin.zeroCells z.cells (grownCap w (sLen+m) sCap e - (sLen+m))) e)):=by
 have hn:¬ (sLen+m≤sCap):=by omega
 have h63':¬ (9223372036854775807<((sLen:Int)+(m:Int))):=by omega
 have h48':¬ (281474976710656<Builtin.nextslicecap (sLen+m) sCap*i.bytes):=by have:=growslice_fits hg hfit; omega
 simp [Builtin.append_,run_underlying ht,sizeOf,typeInfo,zeroValue,hi,hz,Builtin.lenOf,hn,h63',h48',Question.forced,hf,hfo,newRow,grownCap]
 congr 2
 apply Array.ext'
 simp [List.append_assoc]
theorem pH {P:Program} {S:Nat→Prop} {w:World} {b:Value} {size m:Nat} {e:Nat→Dat} (h:Rd S w b (.sl size m e)) :
  ∃ (a:Option Addr) (c:Nat) (news:List Value),b=.slice a m c∧news.length=m*size∧(∀ u∈news,u.oneCell'=true)∧(∀ w':World,(∀ x,w'.cell? x=w.cell? x)→(Builtin.firstCells size m (.slice a m c)).run P w'=.ok news.toArray w') ∧
   ∀ i,i<m→∃ cs,RdC S w (e i) cs∧cs.length=size∧∀ j,j<size→news[i*size+j]? = cs[j]? := by
 obtain ⟨a,c,rfl,h2,h3,h4,h5,h6⟩:=h.sl
 cases a with
 | none =>
  have h0:m=0:=(h4 rfl).1
  subst h0
  exact ⟨none,c,[],rfl,by simp,by simp,fun w' _=>by simp [Builtin.firstCells],fun i hi=>absurd hi (Nat.not_lt_zero _)⟩
 | some ad =>
  have had:0<m→ad=⟨ad.block,ad.off,none⟩:=fun hm=>by have:=h5 ad rfl hm; cases ad; simp_all
  have hc:∀ x,x<m*size→∃ u,w.cell? ⟨ad.block,ad.off+x,none⟩=some u∧u.oneCell'=true:=by
   intro x hx
   have hs:0<size:=Nat.pos_of_ne_zero fun h0=>by subst h0; simp at hx
   have hi:x/size<m:=Nat.div_lt_of_lt_mul (by rwa [Nat.mul_comm] at hx)
   obtain ⟨b',cs,hb,g1,g2,g3⟩:=h6 (x/size) hi
   simp only [Option.some.injEq] at hb
   subst hb
   have hj:x%size<cs.length:=by rw [g2]; exact Nat.mod_lt _ hs
   have:=(g3 (x%size) hj).2
   have hx':ad.off+x/size*size+x%size=ad.off+x:=by rw [Nat.add_assoc]; congr 1; rw [Nat.mul_comm]; exact Nat.div_add_mod x size
   rw [hx',List.getElem?_eq_getElem hj] at this
   exact ⟨cs[x%size],this,RdC.oneCells g1 _ (List.getElem_mem hj)⟩
  refine ⟨some ad,c,(List.range (m*size)).map fun x=>(w.cell? ⟨ad.block,ad.off+x,none⟩).getD undef,rfl,by simp,?_,?_,?_⟩
  ·intro u hu
   obtain ⟨x,hx,rfl⟩:=List.mem_map.1 hu
   obtain ⟨u,hu1,hu2⟩:=hc x (List.mem_range.1 hx)
   simp [hu1,hu2]
  ·intro w' hw'
   refine run_firstCells_some w' size m ad m c _ qP fun j v hj=>?_
   obtain ⟨hj1,hj2⟩:=List.getElem?_eq_some_iff.1 hj
   simp only [List.length_map,List.length_range] at hj1
   obtain ⟨u,hu1,_⟩:=hc j hj1
   simp only [List.getElem_map,List.getElem_range,hu1,Option.getD_some] at hj2
   rw [hw',had (Nat.pos_of_ne_zero fun h0=>by subst h0; simp at hj1),eI,← hj2]
   exact hu1
  ·intro i hi
   obtain ⟨b',cs,hb,g1,g2,g3⟩:=h6 i hi
   simp only [Option.some.injEq] at hb
   subst hb
   refine ⟨cs,g1,g2,fun j hj=>?_⟩
   have hlt:i*size+j<m*size:=by
    have:(i+1)*size≤m*size:=Nat.mul_le_mul_right _ hi
    rw [Nat.add_mul] at this
    omega
   have:=(g3 j qN).2
   rw [Nat.add_assoc,List.getElem?_eq_getElem qN] at this
   simp [hlt,this,List.getElem?_eq_getElem (show j<cs.length by omega)]
theorem vV {P:Program} {t ty e:TypeId} {size bytes:Nat} {a b:Value} {n m:Nat} {el el':Nat→Dat} {os:List Own} {fs:List bA} {K:cE} [ht:TSl P t e size] [he:TEl P e size bytes] (pos:Nat)
  (h:bQ os pos=some (bL a size n el)) (hs:eQ a) (hb:Knw os fs b (.sl size m el')) (hm:n+m≤9223372036854775807) (hby:(n+m)*bytes≤140737488355328)
  (k:∀ v,eQ v→K v (setOwn os pos (bL v size (n+m) (fun i=>if i<n then el i else el' (i - n)))) fs):AppendK P [t,t] ty a b os fs K:=by
 refine ⟨fun G w hw=>?_⟩
 obtain ⟨ti,z,i1,rfl,i3,i4,i5,i6⟩:=he.info
 obtain ⟨ba,bc,news,rfl,n1,n2,n3,n4⟩:=pH (P:=P) (hb G w hw)
 have hov:=hw.own _ (bU h) 0 Nat.zero_lt_one
 have elems:∀ (os':List Own) (w':World) (olds:List Value) (rest:List Value),olds.length=n*ti.size →
   (∀ d cs,RdC (Good G.A os w) w d cs→RdC (Good G.A os' w') w' d cs) →
   (∀ i,i<n→∃ cs,RdC (Good G.A os w) w (el i) cs∧cs.length=ti.size∧∀ j,j<ti.size→olds[i*ti.size+j]? = cs[j]?) →
   ∀ i,i<n+m→∃ cs,RdC (Good G.A os' w') w' (if i<n then el i else el' (i - n)) cs∧cs.length=ti.size∧∀ j,j<ti.size→(olds++news++rest).toArray[i*ti.size+j]? = cs[j]? := by
  intro os' w' olds rest ho mono hold i hi
  by_cases hin:i<n
  ·obtain ⟨cs,c1,c2,c3⟩:=hold i hin
   refine ⟨cs,by simp only [hin,if_true]; exact mono _ _ c1,c2,fun j hj=>?_⟩
   have hlt:i*ti.size+j<n*ti.size:=by
    have:(i+1)*ti.size≤n*ti.size:=Nat.mul_le_mul_right _ hin
    rw [Nat.add_mul] at this
    omega
   rw [List.getElem?_toArray,List.append_assoc,List.getElem?_append_left qN,c3 j hj]
  ·obtain ⟨cs,c1,c2,c3⟩:=n4 (i - n) qN
   refine ⟨cs,by simp only [hin,if_false]; exact mono _ _ c1,c2,fun j hj=>?_⟩
   have hlt:(i - n)*ti.size+j<m*ti.size:=by
    have:(i - n+1)*ti.size≤m*ti.size:=Nat.mul_le_mul_right _ qN
    rw [Nat.add_mul] at this
    omega
   have hix:i*ti.size+j=n*ti.size+((i - n)*ti.size+j):=by
    have:i*ti.size=n*ti.size+(i - n)*ti.size:=by rw [← Nat.add_mul]; congr 1; omega
    omega
   rw [List.getElem?_toArray,List.append_assoc,List.getElem?_append_right qN,List.getElem?_append_left qN,← c3 j hj]
   congr 1
   omega
 have grow:∀ (av:Option Addr) (cap:Nat) (olds:List Value),cap<n+m→olds.length=n*ti.size →
   (∀ w':World,(∀ x,w'.cell? x=w.cell? x)→(Builtin.firstCells ti.size n (.slice av n cap)).run P w'=.ok olds.toArray w') →
   (∀ i,i<n→∃ cs,RdC (Good G.A os w) w (el i) cs∧cs.length=ti.size∧∀ j,j<ti.size→olds[i*ti.size+j]? = cs[j]?) →
   Comes1 P (fun v w'=>∃ os' fs',K v os' fs'∧Holds G os' fs' w') ((val (Builtin.append_ [t,t].toArray ty #[.slice av n cap,.slice ba m bc])).run P w):=by
  intro av cap olds hcap ho hfo hold
  have hrun:=append_grow (P:=P) (ty:=ty) (w:=w) ht.und i1 i4 (hfo w.drew fun _=>rfl) (n3 w.drew fun _=>rfl) hcap hm (by rw [i3]; exact hby)
  rw [show [t,t].toArray = #[t,t] from rfl,gO hrun]
  have hge:=grownCap_ge w (n+m) cap e
  have hcm:grownCap w (n+m) cap e≤maxLen:=grownCap_le_maxLen w (n+m) cap e (by unfold maxLen; omega)
  generalize hgc:grownCap w (n+m) cap e=gc at hge hcm
  have hbel:Below w.heap.size w (w.drew.alloc (.cells (olds.toArray++news.toArray++Builtin.zeroCells z.cells (gc - (n+m))) e)):=(Below.refl _ _).drew.alloc (Nat.le_refl _) _
  refine ⟨_,fs,k _ ⟨_,_,_,rfl⟩,hw.step h rfl rfl rfl hbel.size (fun q hq _=>hbel.block q hq) (fun b hb=>?_) (fun i j b hi hj _ _=>by simp only [bL] at hi hj; omega) fun mono x hx=>?_⟩
  ·obtain ⟨x,hx,hxb⟩:=hb
   simp only [bL,lR,Option.some.injEq] at hxb
   right; omega
  ·refine .inr (.inl ⟨w.heap.size,gc,rfl,hw.size,hge,hcm,_,e,⟨_,heap_alloc_new w.drew _,.inl rfl⟩,?_,fun y hy=>?_⟩)
   ·simp only [Array.size_append,List.size_toArray,size_zeroCells,i5,ho,n1,← Nat.add_mul,bL]
    congr 1
    omega
   ·obtain ⟨cs,c1,c2,c3⟩:=elems _ _ olds (Builtin.zeroCells z.cells (gc - (n+m))).toList ho mono hold y hy
    refine ⟨cs,c1,c2,fun j hj=>?_⟩
    rw [← c3 j hj]
    simp [← Array.getElem?_toList,bL]
 rcases hov with ⟨h1,h2⟩ | ⟨r,cap,h1,h2⟩ | ⟨r,h1,_⟩ | ⟨_,_,_,_,_,_,⟨r,_,_,h1,_⟩ | ⟨r,_,_,_,_,_,_,h1,_⟩⟩
 rotate_right
 ·obtain ⟨_,_,_,rfl⟩:=hs; simp [bL] at h1
 rotate_right
 ·obtain ⟨_,_,_,rfl⟩:=hs; simp [bL] at h1
 ·simp only [bL] at h1 h2
  subst h1 h2
  by_cases hm0:m=0
  ·subst hm0
   have hn:news=[]:=List.eq_nil_of_length_eq_zero (by simpa using n1)
   subst hn
   have hrun:(Builtin.append_ [t,t].toArray ty #[.slice none 0 0,.slice ba 0 bc]).run P w=.ok (.slice none 0 0) w:=by
    have:=n3 w fun _=>rfl
    simp [Builtin.append_,run_underlying ht.und,sizeOf,typeInfo,i1,Builtin.lenOf,this]
   rw [gO hrun]
   refine ⟨_,fs,k _ hs,hw.step h rfl rfl rfl (Nat.le_refl _) (fun _ _ _=>rfl) (fun b ⟨x,_,hxb⟩=>by simp [bL,lR] at hxb) (fun i j b hi hj _ _=>by simp only [bL] at hi hj; omega) fun mono x hx=>.inl ⟨rfl,rfl⟩⟩
  ·exact grow none 0 [] qN qP (fun w' _=>by simp [Builtin.firstCells]) fun i hi=>absurd hi (Nat.not_lt_zero _)
 ·simp only [bL] at h1 h2
  subst h1
  obtain ⟨b1,b2,b3,cur,t0,b4,b5,b6⟩:=h2
  by_cases hroom:n+m≤cap
  ·have hfit:n*ti.size+news.length≤cur.size:=by
    rw [n1,b5,← Nat.add_mul]
    exact Nat.mul_le_mul_right _ hroom
   have hrun:=append_room (P:=P) (ty:=ty) ht.und i1 (n3 w fun _=>rfl) hroom b4 hfit n2
   rw [show [t,t].toArray = #[t,t] from rfl,gO hrun]
   refine ⟨_,fs,k _ ⟨_,_,_,rfl⟩,hw.step h rfl rfl rfl qP (fun q hq hno=>setRow_other w r q _ fun e=>hno ⟨0,Nat.zero_lt_one,by rw [e]; rfl⟩)
    (fun b ⟨x,hx,hxb⟩=>.inl ⟨0,Nat.zero_lt_one,hxb⟩) (fun i j b hi hj _ _=>by simp only [bL] at hi hj; omega) fun mono x hx=>?_⟩
   refine .inr (.inl ⟨r,cap,rfl,b1,hroom,b3,_,t0,b4.set (by simp only [List.size_toArray,List.length_append,List.length_take,List.length_drop,Array.length_toList]; omega),?_,fun y hy=>?_⟩)
   ·simp only [List.size_toArray,List.length_append,List.length_take,List.length_drop,Array.length_toList,bL]
    omega
   ·have:=elems _ _ (cur.toList.take (n*ti.size)) (cur.toList.drop (n*ti.size+news.length)) (by simp; omega) mono (fun i hi=>by
     obtain ⟨cs,c1,c2,c3⟩:=b6 i hi
     refine ⟨cs,c1,c2,fun j hj=>?_⟩
     have hlt:i*ti.size+j<n*ti.size:=by
      have:(i+1)*ti.size≤n*ti.size:=Nat.mul_le_mul_right _ hi
      rw [Nat.add_mul] at this
      omega
     rw [List.getElem?_take_of_lt hlt,Array.getElem?_toList,c3 j hj]) y hy
    exact this
  ·have hsz:n*ti.size≤cur.size:=by rw [b5]; exact Nat.mul_le_mul_right _ b2
   refine grow (some ⟨r,0,none⟩) cap (cur.toList.take (n*ti.size)) qN (by simp; omega) (fun w' hw'=>?_) fun i hi=>?_
   ·refine run_firstCells_some w' ti.size n ⟨r,0,none⟩ n cap _ (by simp; omega) fun j v hj=>?_
    obtain ⟨hj1,hj2⟩:=List.getElem?_eq_some_iff.1 hj
    simp only [List.length_take,Array.length_toList] at hj1
    rw [List.getElem?_take_of_lt qN,Array.getElem?_toList] at hj
    rw [hw',eI]
    rw [Nat.zero_add,b4.cell rfl]; exact hj
   ·obtain ⟨cs,c1,c2,c3⟩:=b6 i hi
    refine ⟨cs,c1,c2,fun j hj=>?_⟩
    have hlt:i*ti.size+j<n*ti.size:=by
     have:(i+1)*ti.size≤n*ti.size:=Nat.mul_le_mul_right _ hi
     rw [Nat.add_mul] at this
     omega
    rw [List.getElem?_take_of_lt hlt,Array.getElem?_toList,c3 j hj]
 ·obtain ⟨q1,q2,q3,rfl⟩:=hs
  simp [bL] at h1
theorem Seals.own_nil (os:List Own) (fs:List bA) (size:Nat) (e:Nat→Dat):Seals os fs (bL (.slice none 0 0) size 0 e::os) fs:=fun G w hw =>
 hw.alloc _ (.cells #[] 0) w (Below.refl _ _) rfl (.inl rfl) (.inl ⟨rfl,rfl⟩)
theorem fold_set (off:Nat):∀ (l:List Value) (k:Nat) (cells:Array Value),off+k+l.length≤cells.size →
  ((l.zipIdx k).foldl (fun cs (p:Value×Nat)=>cs.setIfInBounds (off+p.2) p.1) cells).size=cells.size ∧
  ∀ x,((l.zipIdx k).foldl (fun cs (p:Value×Nat)=>cs.setIfInBounds (off+p.2) p.1) cells)[x]? = if off+k≤x∧x<off+k+l.length then l[x - (off+k)]? else cells[x]?
 | [],k,cells,_=>⟨rfl,fun x=>by simp; omega⟩
 | v::r,k,cells,h=>by
  simp only [List.length_cons] at h
  obtain ⟨h1,h2⟩:=fold_set off r (k+1) (cells.setIfInBounds (off+k) v) (by simp; omega)
  simp only [List.zipIdx_cons,List.foldl_cons]
  refine ⟨by rw [h1]; simp,fun x=>?_⟩
  rw [h2 x,Array.getElem?_setIfInBounds]
  by_cases h3:off+(k+1)≤x∧x<off+(k+1)+r.length
  ·rw [if_pos h3,if_pos ⟨by omega,by simp; omega⟩]
   have:x - (off+k)=(x - (off+(k+1)))+1:=by omega
   rw [this,List.getElem?_cons_succ]
  ·rw [if_neg h3]
   by_cases h4:off+k=x
   ·subst h4
    rw [if_pos rfl,if_pos (show off+k<cells.size by omega),if_pos ⟨Nat.le_refl _,by simp⟩]
    simp
   ·rw [if_neg h4,if_neg]
    simp only [List.length_cons]
    omega
def nR {α:Type}:Nat→List α→List (Nat×α)
 | _,[]=>[]
 | k,v::r=>(k,v)::nR (k+1) r
theorem uZ (size:Nat):∀ (vs:List Value) (k:Nat) (cells:Array Value),(∀ v∈vs,v.cells.size=size)→(k+vs.length)*size≤cells.size →
  ∃ r,Instr.fill (fun i=>some (i*size,size)) cells (nR k vs)=some r∧r.size=cells.size ∧
   (∀ i,i<vs.length→∀ j,j<size→r[(k+i)*size+j]? = (vs[i]?.bind fun v=>v.cells[j]?))∧∀ x,x<k*size→r[x]? = cells[x]?
 | [],k,cells,_,_=>⟨cells,rfl,rfl,fun i hi=>absurd hi (Nat.not_lt_zero _),fun _ _=>rfl⟩
 | v::rest,k,cells,hv,hs=>by
  have hv0:v.cells.size=size:=hv v qP
  simp only [List.length_cons] at hs
  have hs1:(k+1)*size≤cells.size:=Nat.le_trans (Nat.mul_le_mul_right _ qN) hs
  rw [Nat.add_mul] at hs1
  obtain ⟨f1,f2⟩:=fold_set (k*size) v.cells.toList 0 cells (by simp [hv0]; omega)
  obtain ⟨r,r1,r2,r3,r4⟩:=uZ size rest (k+1) ((v.cells.toList.zipIdx).foldl (fun cs (p:Value×Nat)=>cs.setIfInBounds (k*size+p.2) p.1) cells)
   (fun u hu=>hv u (by simp [hu])) (by rw [f1]; refine Nat.le_trans (Nat.mul_le_mul_right _ ?_) hs; omega)
  have hfold:v.cells.zipIdx.foldl (fun cs (x:Value×Nat)=>cs.setIfInBounds (k*size+x.2) x.1) cells=(v.cells.toList.zipIdx).foldl (fun cs (p:Value×Nat)=>cs.setIfInBounds (k*size+p.2) p.1) cells:=by
   rw [← Array.foldl_toList,Array.toList_zipIdx]
  refine ⟨r,?_,by rw [r2,f1],fun i hi j hj=>?_,fun x hx=>?_⟩
  ·simp only [nR,Instr.fill]
   rw [if_neg (by simp [hv0]; omega)]
   rw [hfold]
   exact r1
  ·cases i with
   | zero =>
    have hlt:k*size+j<(k+1)*size:=by rw [Nat.add_mul]; omega
    rw [Nat.add_zero,r4 _ hlt,f2,if_pos ⟨by omega,by simp [hv0]; omega⟩]
    simp
   | succ i =>
    have:=r3 i (by simpa using hi) j hj
    rw [show k+1+i=k+(i+1) by omega] at this
    simpa using this
  ·have hlt:x<(k+1)*size:=by rw [Nat.add_mul]; omega
   rw [r4 x hlt,f2,if_neg qN]
def ReadsAll (os:List Own) (fs:List bA) (size:Nat):List Value→List Dat→Prop
 | [],[]=>True
 | v::vs,d::ds=>Reads os fs v d∧d.cells=size∧ReadsAll os fs size vs ds
 | _,_=>False
theorem ReadsAll.get {os:List Own} {fs:List bA} {size:Nat} {G:Ctx} {w:World} (hw:Holds G os fs w):∀ {vs:List Value} {ds:List Dat},ReadsAll os fs size vs ds →
  vs.length=ds.length∧(∀ v∈vs,v.cells.size=size)∧∀ i,i<vs.length→∃ v,vs[i]? = some v∧RdC (Good G.A os w) w (ds.getD i (.one undef)) v.cells.toList
 | [],[],_=>⟨rfl,by simp,fun i hi=>absurd hi (Nat.not_lt_zero _)⟩
 | v::vs,d::ds,⟨h1,h2,h3⟩=>by
  obtain ⟨g1,g2,g3⟩:=ReadsAll.get hw h3
  obtain ⟨cs,c1,c2⟩:=h1 G w hw
  have hc:v.cells.size=size:=by rw [← h2,← dM c1,← c2]; simp
  refine ⟨by simp [g1],fun u hu=>?_,fun i hi=>?_⟩
  ·rcases List.mem_cons.1 hu with rfl | hu
   ·exact hc
   ·exact g2 u hu
  ·cases i with
   | zero=>exact ⟨v,rfl,by simpa [c2] using c1⟩
   | succ i =>
    obtain ⟨u,u1,u2⟩:=g3 i (by simpa using hi)
    exact ⟨u,by simpa using u1,by simpa using u2⟩
 | [],_::_,h=>h.elim
 | _::_,[],h=>h.elim
theorem gZ {P:Program} {t e:TypeId} {size bytes:Nat} {os:List Own} {fs:List bA} {K:cE} [ht:TSl P t e size] [he:TEl P e size bytes] {n:Nat} (vs:List Value) (ds:List Dat) {ps:List (Nat×Value)}
  (hps:ps=nR 0 vs) (hn:n=vs.length) (hsm:n≤1000000) (hsz:size≤16) (hr:ReadsAll os fs size vs ds)
  (k:∀ v,eQ v→K v (bL v size n (fun i=>ds.getD i (.one undef))::os) fs):BuildSliceK P t n ps os fs K:=by
 subst hps hn
 refine ⟨fun G w hw=>?_⟩
 obtain ⟨i,z,i1,i2,i3,i4,i5,i6⟩:=he.info
 obtain ⟨g1,g2,g3⟩:=hr.get hw
 have hle:vs.length*size≤1000000*16:=Nat.mul_le_mul hsm hsz
 have main:∀ zero:Array Value,∃ r,Instr.fill (fun i=>some (i*size,size)) ((Array.range (vs.length*size)).map (zero[· % zero.size]!)) (nR 0 vs)=some r∧r.size=vs.length*size ∧
   ∀ i,i<vs.length→∀ j,j<size→r[i*size+j]? = (vs[i]?.bind fun v=>v.cells[j]?):=by
  intro zero
  obtain ⟨r,r1,r2,r3,_⟩:=uZ size vs 0 ((Array.range (vs.length*size)).map (zero[· % zero.size]!)) g2 qP
  exact ⟨r,r1,by simpa using r2,fun i hi j hj=>by simpa using r3 i hi j hj⟩
 have hrun:∃ r,(Instr.buildSlice t vs.length (nR 0 vs).toArray).run P w=.ok (.slice (some ⟨w.heap.size,0,none⟩) vs.length vs.length) (w.alloc (.cells r e))∧r.size=vs.length*size ∧
   ∀ i,i<vs.length→∀ j,j<size→r[i*size+j]? = (vs[i]?.bind fun v=>v.cells[j]?):=by
  have hlim:¬ (2^24<vs.length*size):=by omega
  by_cases h0:vs.length*size=0
  ·obtain ⟨r,r1,r2,r3⟩:=main #[]
   refine ⟨r,?_,r2,r3⟩
   rw [h0] at r1 hlim
   simp only [Instr.buildSlice,Sem.run_bind,run_underlying ht.und,Result.andThen_ok,dB ht.size,h0,hlim,gt_iff_lt,if_false,if_true,Sem.run_pure,r1]
   simp [newRow]
  ·obtain ⟨r,r1,r2,r3⟩:=main z.cells
   refine ⟨r,?_,r2,r3⟩
   simp only [Instr.buildSlice,Sem.run_bind,run_underlying ht.und,Result.andThen_ok,dB ht.size,h0,hlim,gt_iff_lt,if_false,Sem.run_pure,r1]
   simp [newRow,zeroValue,typeInfo,i1,i4,r1]
 obtain ⟨r,r1,r2,r3⟩:=hrun
 rw [gO r1]
 have hb':Below w.heap.size w (w.alloc (.cells r e)):=(Below.refl _ _).alloc (Nat.le_refl _) _
 refine ⟨hb',_,fs,k _ ⟨_,_,_,rfl⟩,hw.alloc _ (.cells r e) _ hb' rfl (.inr rfl) (.inr (.inl ⟨w.heap.size,vs.length,rfl,?_⟩))⟩
 refine OwnRow.new hw.size _ _ (Nat.le_refl _) (by unfold maxLen; omega) (by simp [bL,r2]) fun i' hi'=>?_
 obtain ⟨v,v1,v2⟩:=g3 i' hi'
 have hv:v∈vs:=List.mem_of_getElem? v1
 refine ⟨v.cells.toList,?_,by simpa [bL] using g2 v hv,fun j hj=>?_⟩
 ·refine RdC.mono (pA _ Good.lt) (fun b ⟨q1,q2,q3⟩=>⟨by simp; omega,q2,fun ho=>ho.elim (fun ⟨i,hi,hv⟩=>?_) q3⟩) _ _ v2
  simp [bL,lR] at hv
  omega
 ·have:=r3 i' hi' j (by simpa [bL] using hj)
  simp only [bL] at this ⊢
  rw [this,v1]
  simp
theorem iQ {P:Program} {t e:TypeId} {size bytes:Nat} {os:List Own} {fs:List bA} {K:cE} [ht:TSl P t e size] [he:TEl P e size bytes] {n:Nat} (vs:List Value) (ds:List Dat) {ps:List (Nat×Value)}
  (hps:ps=nR 0 vs) (hn:n=vs.length) (hsm:n≤1000000) (hsz:size≤16) (hr:ReadsAll os fs size vs ds)
  (k:∀ v,K v os ((v,.sl size n fun i=>ds.getD i (.one undef))::fs)):BuildSliceK P t n ps os fs K:=by
 refine ⟨fun G w hw=>?_⟩
 have:=(gZ (P:=P) (t:=t) (K:=fun v os' fs'=>eQ v∧os'=bL v size n (fun i=>ds.getD i (.one undef))::os∧fs'=fs) vs ds hps hn hsm hsz hr fun v hv=>⟨hv,rfl,rfl⟩).out G w hw
 refine this.mono ?_
 rintro v w' ⟨hb,os',fs',⟨hv,rfl,rfl⟩,hw'⟩
 exact ⟨hb,_,_,k v,Seals.slice 0 _ rfl hv (fun _ _=>rfl) G w' hw'⟩
theorem dG (os:List Own) (fs:List bA) (size:Nat) (e:Nat→Dat):Seals os fs (bL (.slice none 0 0) size 0 e::os) fs:=Seals.own_nil os fs size e
def gB (m:Region.Mode) (L:List Oper) (j i:Nat):Prop:=∃ o,L[i]? = some o∧∃ e,e∈o.after.toList∧Region.binds m e=true∧e.on=j
structure iS (m:Region.Mode) (L:List Oper) (l:List Nat):Prop where
 nodup:l.Nodup
 all:∀ i,i∈l↔i<L.length
 before:∀ pre i post,l=pre++i::post→∀ j,gB m L j i→j∈pre
theorem rZ {m:Region.Mode} {ops:Array Oper} (rank:Nat→Nat) (hr:∀ i j,gB m ops.toList j i→j<ops.size∧rank j<rank i) :
  ∀ (fuel t:Nat) (listed:Array Bool) (acc:List Nat),listed.size=ops.size→(∀ i,i<ops.size→(listed.getD i true=true↔i∈acc))→acc.Nodup→(∀ i,i∈acc→i<ops.size) →
   (∀ pre i post,acc.reverse=pre++i::post→∀ j,gB m ops.toList j i→j∈pre)→fuel+acc.length=ops.size →
   iS m ops.toList (Region.linearise.go m ops fuel t listed acc)
 | 0,t,listed,acc,hs,hl,hn,hlt,hb,hf=>by
  simp only [Region.linearise.go]
  refine ⟨by unfold List.Nodup; rw [List.pairwise_reverse]; exact List.Pairwise.imp (fun h=>Ne.symm h) hn,fun i=>⟨fun hi=>by simpa using hlt i (by simpa using hi),fun hi=>?_⟩,hb⟩
  have hlen:acc.length=ops.size:=by omega
  have hi':i<ops.size:=by simpa using hi
  have:∀ (n:Nat) (l:List Nat),l.Nodup→(∀ i,i∈l→i<n)→l.length=n→∀ i,i<n→i∈l:=by
   intro n
   induction n with
   | zero=>intro l _ _ _ i hi; omega
   | succ n ih =>
    intro l hnd hl hlen i hi
    by_cases hmem:n∈l
    ·by_cases hin:i=n
     ·subst hin; exact hmem
     ·have h1:(l.erase n).length=n:=by rw [List.length_erase_of_mem hmem,hlen]; rfl
      have:=ih (l.erase n) (hnd.erase n) (fun x hx=>by
       have h2:=hl x (List.mem_of_mem_erase hx)
       have h3:x≠n:=fun h=>by subst h; exact (hnd.not_mem_erase) hx
       omega) h1 i qN
      exact List.mem_of_mem_erase this
    ·exfalso
     have h2:∀ x,x∈l→x<n:=fun x hx=>by
      have:=hl x hx
      have:x≠n:=fun h=>hmem (h ▸ hx)
      omega
     have key:∀ (n:Nat) (l:List Nat),l.Nodup→(∀ x,x∈l→x<n)→l.length≤n:=by
      intro n
      induction n with
      | zero=>intro l _ h; cases l with | nil=>simp | cons x r=>exact absurd (h x qP) (Nat.not_lt_zero _)
      | succ n ih =>
       intro l hnd h
       by_cases hm:n∈l
       ·have h1:=ih (l.erase n) (hnd.erase n) (fun x hx=>by
         have h2:=h x (List.mem_of_mem_erase hx)
         have h3:x≠n:=fun h=>by subst h; exact (hnd.not_mem_erase) hx
         omega)
        rw [List.length_erase_of_mem hm] at h1
        omega
       ·exact Nat.le_succ_of_le (ih l hnd fun x hx=>by
         have:=h x hx
         have:x≠n:=fun h=>hm (h ▸ hx)
         omega)
     have:=key n l hnd h2
     omega
  simpa using this ops.size acc hn hlt hlen i hi'
 | fuel+1,t,listed,acc,hs,hl,hn,hlt,hb,hf=>by
  simp only [Region.linearise.go]
  have hready:∃ i,i<ops.size∧i ∉ acc∧∀ j,gB m ops.toList j i→j∈acc:=by
   have hex:∃ i,i<ops.size∧i ∉ acc:=by
    refine Classical.byContradiction fun hno=>?_
    have hall:∀ i,i<ops.size→i∈acc:=fun i hi=>Classical.byContradiction fun h=>hno ⟨i,hi,h⟩
    have key:∀ (n:Nat) (l:List Nat),(∀ x,x<n→x∈l)→n≤l.length:=by
     intro n
     induction n with
     | zero=>intro l _; exact Nat.zero_le _
     | succ n ih =>
      intro l h
      have hm:=h n (Nat.lt_succ_self n)
      have:=ih (l.erase n) fun x hx=>by
       have h1:=h x qN
       exact (List.mem_erase_of_ne qN).2 h1
      rw [List.length_erase_of_mem hm] at this
      have:=List.length_pos_of_mem hm
      omega
    have:=key ops.size acc hall
    omega
   have hmin:∀ (k:Nat),(∃ i,i<ops.size∧i ∉ acc∧rank i=k)→∃ i,i<ops.size∧i ∉ acc∧∀ j,gB m ops.toList j i→j∈acc:=by
    intro k
    induction k using Nat.strongRecOn with
    | _ k ih =>
     rintro ⟨i,hi,hia,rfl⟩
     by_cases hall:∀ j,gB m ops.toList j i→j∈acc
     ·exact ⟨i,hi,hia,hall⟩
     ·obtain ⟨j,hj⟩:=Classical.not_forall.1 hall
      obtain ⟨hj1,hj2⟩:=Classical.not_imp.1 hj
      exact ih (rank j) (hr i j hj1).2 ⟨j,(hr i j hj1).1,hj2,rfl⟩
   obtain ⟨i,hi,hia⟩:=hex
   exact hmin (rank i) ⟨i,hi,hia,rfl⟩
  generalize hrs:((List.range ops.size).filter fun i => !listed.getD i true&&((ops[i]?).map (·.after.all fun e => !Region.binds m e||listed.getD e.on false)).getD false)=rs
  have hmemrs:∀ i,i∈rs↔i<ops.size∧i ∉ acc∧∀ j,gB m ops.toList j i→j∈acc:=by
   intro i
   rw [← hrs,List.mem_filter,List.mem_range]
   constructor
   ·rintro ⟨hi,hc⟩
    simp only [Bool.and_eq_true,Bool.not_eq_true'] at hc
    obtain ⟨hc1,hc2⟩:=hc
    refine ⟨hi,fun h=>?_,fun j hj=>?_⟩
    ·rw [(hl i hi).2 h] at hc1; cases hc1
    ·obtain ⟨o,ho,e,he,hbe,rfl⟩:=hj
     have ho':ops[i]? = some o:=by simpa using ho
     simp only [ho',Option.map_some,Option.getD_some,Array.all_eq_true_iff_forall_mem] at hc2
     have:=hc2 e (by simpa using he)
     simp only [hbe,Bool.not_true,Bool.false_or] at this
     have hlt':=(hr i e.on ⟨o,ho,e,he,hbe,rfl⟩).1
     refine (hl e.on hlt').1 ?_
     have hin:e.on<listed.size:=by omega
     simp only [Array.getD_eq_getD_getElem?,Array.getElem?_eq_getElem hin,Option.getD_some] at this ⊢
     exact this
   ·rintro ⟨hi,hia,hall⟩
    refine ⟨hi,?_⟩
    simp only [Bool.and_eq_true,Bool.not_eq_true']
    refine ⟨?_,?_⟩
    ·cases hc:listed.getD i true with
     | false=>rfl
     | true=>exact absurd ((hl i hi).1 hc) hia
    ·have ho':ops[i]? = some ops[i]:=by simp [hi]
     simp only [ho',Option.map_some,Option.getD_some,Array.all_eq_true_iff_forall_mem]
     intro e he
     cases hbe:Region.binds m e with
     | false=>rfl
     | true =>
      have hB:gB m ops.toList e.on i:=⟨ops[i],by simp [hi],e,by simpa using he,hbe,rfl⟩
      have hlt':=(hr i e.on hB).1
      have hin:e.on<listed.size:=by omega
      have:=(hl e.on hlt').2 (hall _ hB)
      simp only [Array.getD_eq_getD_getElem?,Array.getElem?_eq_getElem hin,Option.getD_some] at this ⊢
      simp [this]
  have hpos:0<rs.length:=by
   obtain ⟨i,hi⟩:=hready
   exact List.length_pos_of_mem ((hmemrs i).2 hi)
  have hsome:∃ i,rs[t%rs.length]? = some i:=⟨_,List.getElem?_eq_getElem (Nat.mod_lt _ hpos)⟩
  obtain ⟨i,hi⟩:=hsome
  rw [hi]
  simp only
  obtain ⟨h1,h2,h3⟩:=(hmemrs i).1 (List.mem_of_getElem? hi)
  refine rZ rank hr fuel _ _ _ (by simp [hs]) (fun k hk=>?_) (List.nodup_cons.2 ⟨h2,hn⟩) (fun k hk=>?_) (fun pre k post hpk j hj=>?_) (by simp; omega)
  ·have hin:k<listed.size:=by omega
   have:=hl k hk
   simp only [Array.getD_eq_getD_getElem?,Array.getElem?_setIfInBounds,Array.getElem?_eq_getElem hin,Option.getD_some,List.mem_cons] at this ⊢
   by_cases hki:i=k
   ·subst hki; simp [hin]
   ·have hki':k≠i:=fun h=>hki h.symm
    simp only [hki,if_false,Option.getD_some,hki',false_or]
    exact this
  ·rcases List.mem_cons.1 hk with rfl | hk
   ·exact h1
   ·exact hlt k hk
  ·rw [List.reverse_cons] at hpk
   rcases List.eq_nil_or_concat post with rfl | ⟨post',x,rfl⟩
   ·have:=List.append_inj' hpk rfl
    simp only [List.cons.injEq,and_true] at this
    obtain ⟨rfl,rfl⟩:=this
    simpa using h3 j hj
   ·have hpk':acc.reverse++[i]=(pre++k::post')++[x]:=by rw [hpk]; simp
    have:=List.append_inj' hpk' rfl
    exact hb pre k post' this.1 j hj
theorem dL {m:Region.Mode} {ops:Array Oper} (rank:Nat→Nat) (hr:∀ i j,gB m ops.toList j i→j<ops.size∧rank j<rank i) (t:Nat) :
  iS m ops.toList (Region.linearise m ops t):=by
 unfold Region.linearise
 refine rZ rank hr ops.size t _ [] qP (fun i hi=>by simp [Array.getD_eq_getD_getElem?,hi]) List.nodup_nil qP (fun pre i post h=>by simp at h) qP
def tmpOf:Operand→List Nat
 | .tmp t=>[t]
 | _=>[]
def eK (o:Op):List Nat:=o.operands.toList.flatMap tmpOf
def KAt (T:List Nat) (f:Fr) (a:Act):Prop:=∀ t v,t∈T→look f t=some v→a.tmps[t]? = some v
theorem KAt.ev {o:Op} {f:Fr} {a:Act} (h:KAt (eK o) f a) {x:Operand} {v:Value} (hm:x∈o.operands.toList) (hx:ev f x=some v):a.eval x=v:=by
 cases x with
 | tmp t =>
  have ht:t∈eK o:=List.mem_flatMap.2 ⟨_,hm,by simp [tmpOf]⟩
  simp only [Act.eval,Array.getD_eq_getD_getElem?,h t v ht hx,Option.getD_some]
 | const u=>simpa [Go.Proofs.YtpbhjlljgbjjlaaGreat.ev,Act.eval] using hx
 | global g=>simpa [Go.Proofs.YtpbhjlljgbjjlaaGreat.ev,Act.eval] using hx
 | func g=>simpa [Go.Proofs.YtpbhjlljgbjjlaaGreat.ev,Act.eval] using hx
theorem KAt.evs {o:Op} {f:Fr} {a:Act} (h:KAt (eK o) f a):∀ {xs:List Operand} {vs:List Value},(∀ x,x∈xs→x∈o.operands.toList)→evs f xs=some vs→xs.map a.eval=vs
 | [],vs,_,hx=>by simp only [Go.Proofs.YtpbhjlljgbjjlaaGreat.evs,Option.some.injEq] at hx; simp [← hx]
 | x::r,vs,hm,hx=>by
  simp only [Go.Proofs.YtpbhjlljgbjjlaaGreat.evs] at hx
  cases h1:Go.Proofs.YtpbhjlljgbjjlaaGreat.ev f x with
  | none=>simp [h1] at hx
  | some v =>
   cases h2:Go.Proofs.YtpbhjlljgbjjlaaGreat.evs f r with
   | none=>simp [h1,h2] at hx
   | some us =>
    simp only [h1,h2,Option.some.injEq] at hx
    subst hx
    simp [h.ev (hm x qP) h1,h.evs (fun y hy=>hm y (by simp [hy])) h2]
theorem KAt.evParts {o:Op} {f:Fr} {a:Act} (h:KAt (eK o) f a):∀ {xs:List (Nat×Operand)} {vs:List (Nat×Value)},(∀ x,x∈xs→x.2∈o.operands.toList)→evParts f xs=some vs→(xs.map fun (i,x)=>(i,a.eval x))=vs
 | [],vs,_,hx=>by simp only [Go.Proofs.YtpbhjlljgbjjlaaGreat.evParts,Option.some.injEq] at hx; simp [← hx]
 | (i,x)::r,vs,hm,hx=>by
  simp only [Go.Proofs.YtpbhjlljgbjjlaaGreat.evParts] at hx
  cases h1:Go.Proofs.YtpbhjlljgbjjlaaGreat.ev f x with
  | none=>simp [h1] at hx
  | some v =>
   cases h2:Go.Proofs.YtpbhjlljgbjjlaaGreat.evParts f r with
   | none=>simp [h1,h2] at hx
   | some us =>
    simp only [h1,h2,Option.some.injEq] at hx
    subst hx
    simp only [List.map_cons,h.ev (hm (i,x) qP) h1,h.evParts (fun y hy=>hm y (by simp [hy])) h2]
theorem KAt.evOpt {o:Op} {f:Fr} {a:Act} (h:KAt (eK o) f a) {x:Option Operand} {v:Option Value} (hm:∀ y,x=some y→y∈o.operands.toList) (hx:evOpt f x=some v):x.map a.eval=v:=by
 cases x with
 | none=>simpa [Go.Proofs.YtpbhjlljgbjjlaaGreat.evOpt] using hx
 | some x =>
  simp only [Go.Proofs.YtpbhjlljgbjjlaaGreat.evOpt] at hx
  cases h1:Go.Proofs.YtpbhjlljgbjjlaaGreat.ev f x with
  | none=>simp [h1] at hx
  | some u=>simp only [h1,Option.some.injEq] at hx; subst hx; simp [h.ev (hm x rfl) h1]
def sD:Op→Bool
 | .store .. => true
 | .mapUpdate .. => true
 | .next .. => true
 | .entry _=>true
 | .convert s t _=>Nat.beq s t
 | .call c=>match c.callee with
  | .builtin .append=>true
  | .builtin .copy=>true
  | _=>false
 | _=>false
def dT:Op→Bool
 | .store .. => true
 | .mapUpdate .. => true
 | .next .. => true
 | .entry _=>true
 | .makeMap .. => true
 | .range .. => true
 | .alloc _=>true
 | .box .. => true
 | .buildSlice .. => true
 | .makeSlice .. => true
 | .convert s t _=>Nat.beq s t
 | .call c=>match c.callee with
  | .builtin .len=>false
  | .builtin .max=>false
  | .builtin .min=>false
  | _=>true
 | _=>false
theorem gK {f:Fr} {a:Act} {o:Oper} {v:Value} (P:Program) (hk:KAt (eK o.op) f a) (h:detv f o.op=some v) (w:World) :
  (execOp a.eval o).run P w=.ok (.value v) w:=by
 unfold execOp
 unfold detv at h
 split at h
 ·rename_i x hop; simp only [hop,hk.ev (by simp [hop,Op.operands]) h]; rfl
 ·rename_i x hop; simp only [hop,hk.ev (by simp [hop,Op.operands]) h]; rfl
 ·rename_i c x y hop
  split at h
  ·rename_i hc; simp only [hop,hk.ev (by simp [hop,Op.operands]) hc,hk.ev (by simp [hop,Op.operands]) h]; rfl
  ·rename_i hc; simp only [hop,hk.ev (by simp [hop,Op.operands]) hc,hk.ev (by simp [hop,Op.operands]) h]; rfl
  ·cases h
 ·rename_i t x hop
  split at h
  ·rename_i b hb; simp only [Option.some.injEq] at h; subst h; simp only [hop,hk.ev (by simp [hop,Op.operands]) hb]; rfl
  ·cases h
 ·rename_i x i hop
  split at h
  ·rename_i vs hb
   rw [nthV_eq] at h
   have h':vs[i]? = some v:=by simpa using h
   simp only [hop,hk.ev (by simp [hop,Op.operands]) hb,Instr.extract,h']; rfl
  ·cases h
 ·rename_i fn x y hop
  split at h
  ·rename_i u1 u2 h1 h2
   simp only [Option.some.injEq] at h
   subst h
   simp only [hop,fI _ _ _ (hk.evs (fun z hz=>by simp [hop,Op.operands]; exact .inl (by simpa using hz)) h1),fI _ _ _ (hk.evs (fun z hz=>by simp [hop,Op.operands]; exact .inr (by simpa using hz)) h2)]; rfl
  ·cases h
 ·rename_i x hop
  split at h
  ·rename_i b hb; simp only [Option.some.injEq] at h; subst h; simp only [hop,hk.ev (by simp [hop,Op.operands]) hb]; rfl
  ·cases h
 ·cases h
structure SemOf (P:Program) (f:Fr) (o:Oper) (os:List Own) (fs:List bA) (K:cE) (s:Sem Next):Prop where
 same:∀ a:Act,KAt (eK o.op) f a→execOp a.eval o=s
 dyn:Dyn P s os fs K
 grw:sD o.op=false→Grw P s os fs K
 det:dT o.op=false→Det P s os fs K
theorem DoK.sem {P:Program} {f:Fr} {os:List Own} {fs:List bA} {K:cE} (o:Oper)
  (h:DoK P true f o.type os fs K o.op):∃ s,SemOf P f o os fs K s:=by
 unfold DoK at h
 split at h
 ·rename_i hop; obtain ⟨x,h1,h⟩:=bE h; obtain ⟨y,h2,h⟩:=bE h
  refine ⟨_,fun a hk=>?_,h.out.grw.dyn,fun _=>h.out.grw,fun _=>h.out⟩
  unfold execOp
  simp only [hop,hk.ev (by simp [hop,Op.operands]) h1,hk.ev (by simp [hop,Op.operands]) h2]; rfl
 ·rename_i hop; obtain ⟨x,h1,h⟩:=bE h
  refine ⟨_,fun a hk=>?_,h.out.grw.dyn,fun _=>h.out.grw,fun _=>h.out⟩
  unfold execOp
  simp only [hop,hk.ev (by simp [hop,Op.operands]) h1]; rfl
 ·rename_i hop; obtain ⟨x,h1,h⟩:=bE h; obtain ⟨y,h2,h⟩:=bE h
  refine ⟨_,fun a hk=>?_,h.out,fun hs=>by simp [hop,sD] at hs,fun hs=>by simp [hop,dT] at hs⟩
  unfold execOp
  simp only [hop,hk.ev (by simp [hop,Op.operands]) h1,hk.ev (by simp [hop,Op.operands]) h2]; rfl
 ·rename_i hop; obtain ⟨x,h1,h⟩:=bE h
  refine ⟨_,fun a hk=>?_,h.out.grw.dyn,fun _=>h.out.grw,fun _=>h.out⟩
  unfold execOp
  simp only [hop,hk.ev (by simp [hop,Op.operands]) h1]; rfl
 ·rename_i hop; obtain ⟨x,h1,h⟩:=bE h
  refine ⟨_,fun a hk=>?_,h.out.grw.dyn,fun _=>h.out.grw,fun _=>h.out⟩
  unfold execOp
  simp only [hop,hk.ev (by simp [hop,Op.operands]) h1]; rfl
 ·rename_i hop; obtain ⟨x,h1,h⟩:=bE h; obtain ⟨y,h2,h⟩:=bE h
  refine ⟨_,fun a hk=>?_,h.out.grw.dyn,fun _=>h.out.grw,fun _=>h.out⟩
  unfold execOp
  simp only [hop,hk.ev (by simp [hop,Op.operands]) h1,hk.ev (by simp [hop,Op.operands]) h2]; rfl
 ·rename_i hop; obtain ⟨x,h1,h⟩:=bE h; obtain ⟨y,h2,h⟩:=bE h
  refine ⟨_,fun a hk=>?_,h.out.grw.dyn,fun _=>h.out.grw,fun _=>h.out⟩
  unfold execOp
  simp only [hop,hk.ev (by simp [hop,Op.operands]) h1,hk.ev (by simp [hop,Op.operands]) h2]; rfl
 ·rename_i hop; obtain ⟨x,h1,h⟩:=bE h; obtain ⟨y,h2,h⟩:=j7 h; obtain ⟨z,h3,h⟩:=j7 h; obtain ⟨u,h4,h⟩:=j7 h
  refine ⟨_,fun a hk=>?_,h.out.grw.dyn,fun _=>h.out.grw,fun _=>h.out⟩
  unfold execOp
  simp only [hop,hk.ev (by simp [hop,Op.operands]) h1,hk.evOpt (fun y hy=>by subst hy; simp [hop,Op.operands]) h2,hk.evOpt (fun y hy=>by subst hy; simp [hop,Op.operands]) h3,hk.evOpt (fun y hy=>by subst hy; simp [hop,Op.operands]) h4]; rfl
 ·rename_i hop; obtain ⟨x,h1,h⟩:=bE h
  refine ⟨_,fun a hk=>?_,h.out,fun hs=>(h.det rfl (by simpa [hop,sD] using hs)).grw,fun hs=>h.det rfl (by simpa [hop,dT] using hs)⟩
  unfold execOp
  simp only [hop,hk.ev (by simp [hop,Op.operands]) h1]; rfl
 ·rename_i hop; obtain ⟨x,h1,h⟩:=bE h
  refine ⟨_,fun a hk=>?_,h.out.grw.dyn,fun _=>h.out.grw,fun _=>h.out⟩
  unfold execOp
  simp only [hop,hk.ev (by simp [hop,Op.operands]) h1]; rfl
 ·rename_i hop; obtain ⟨x,h1,h⟩:=n5 h
  refine ⟨_,fun a hk=>?_,h.out.grw.dyn,fun _=>h.out.grw,fun _=>h.out⟩
  unfold execOp
  simp only [hop,fI _ _ _ (hk.evParts (fun y hy=>by simp [hop,Op.operands]; exact ⟨y.1,by simpa using hy⟩) h1)]; rfl
 ·rename_i hop; obtain ⟨x,h1,h⟩:=n5 h
  refine ⟨_,fun a hk=>?_,h.out.dyn,fun _=>h.out,fun hs=>by simp [hop,dT] at hs⟩
  unfold execOp
  simp only [hop,fI _ _ _ (hk.evParts (fun y hy=>by simp [hop,Op.operands]; exact ⟨y.1,by simpa using hy⟩) h1)]; rfl
 ·rename_i hop
  refine ⟨_,fun a hk=>?_,h.out.dyn,fun _=>h.out,fun hs=>by simp [hop,dT] at hs⟩
  unfold execOp
  simp only [hop]; rfl
 ·rename_i hop; obtain ⟨x,h1,h⟩:=bE h
  refine ⟨_,fun a hk=>?_,h.out.dyn,fun _=>h.out,fun hs=>by simp [hop,dT] at hs⟩
  unfold execOp
  simp only [hop,hk.ev (by simp [hop,Op.operands]) h1]; rfl
 ·rename_i hop; obtain ⟨x,h1,h⟩:=bE h; obtain ⟨y,h2,h⟩:=bE h
  refine ⟨_,fun a hk=>?_,h.out.dyn,fun _=>h.out,fun hs=>by simp [hop,dT] at hs⟩
  unfold execOp
  simp only [hop,hk.ev (by simp [hop,Op.operands]) h1,hk.ev (by simp [hop,Op.operands]) h2]; rfl
 ·rename_i hop
  refine ⟨_,fun a hk=>?_,h.out.dyn,fun _=>h.out,fun hs=>by simp [hop,dT] at hs⟩
  unfold execOp
  simp only [hop,Option.map_none]; rfl
 ·rename_i hop; obtain ⟨x,h1,h⟩:=bE h; obtain ⟨y,h2,h⟩:=bE h; obtain ⟨z,h3,h⟩:=bE h
  refine ⟨_,fun a hk=>?_,h.out,fun hs=>by simp [hop,sD] at hs,fun hs=>by simp [hop,dT] at hs⟩
  unfold execOp
  simp only [hop,hk.ev (by simp [hop,Op.operands]) h1,hk.ev (by simp [hop,Op.operands]) h2,hk.ev (by simp [hop,Op.operands]) h3]; rfl
 ·rename_i hop; obtain ⟨x,h1,h⟩:=bE h; obtain ⟨y,h2,h⟩:=bE h
  refine ⟨_,fun a hk=>?_,h.out.grw.dyn,fun _=>h.out.grw,fun _=>h.out⟩
  unfold execOp
  simp only [hop,hk.ev (by simp [hop,Op.operands]) h1,hk.ev (by simp [hop,Op.operands]) h2]; rfl
 ·rename_i hop; obtain ⟨x,h1,h⟩:=bE h
  refine ⟨_,fun a hk=>?_,h.out.dyn,fun _=>h.out,fun hs=>by simp [hop,dT] at hs⟩
  unfold execOp
  simp only [hop,hk.ev (by simp [hop,Op.operands]) h1]; rfl
 ·rename_i hop; obtain ⟨x,h1,h⟩:=bE h
  refine ⟨_,fun a hk=>?_,h.out,fun hs=>by simp [hop,sD] at hs,fun hs=>by simp [hop,dT] at hs⟩
  unfold execOp
  simp only [hop,hk.ev (by simp [hop,Op.operands]) h1]; rfl
 ·rename_i hop; obtain ⟨x,h1,h⟩:=bE h
  refine ⟨_,fun a hk=>?_,h.out,fun hs=>by simp [hop,sD] at hs,fun hs=>by simp [hop,dT] at hs⟩
  unfold execOp
  simp only [hop,hk.ev (by simp [hop,Op.operands]) h1]; rfl
 ·rename_i c hop
  have hargs:∀ x,x∈c.args.toList→x∈o.op.operands.toList:=fun x hx=>by simp [hop,Op.operands,Call.operands]; exact .inr (by simpa using hx)
  split at h
  ·rename_i hc; obtain ⟨x,h1,h⟩:=bE h; obtain ⟨y,h2,h⟩:=eJ h
   refine ⟨_,fun a hk=>?_,h.out,fun _=>h.grw rfl,fun hs=>by simp [hop,dT,hc] at hs⟩
   unfold execOp
   simp only [hop,resolve,hc,hk.ev (by simp [hop,Op.operands,Call.operands,hc]) h1,fI _ _ _ (hk.evs hargs h2)]
  ·rename_i hc; obtain ⟨y,h2,h⟩:=eJ h
   split at h
   ·refine ⟨_,fun a hk=>?_,h.out.grw.dyn,fun _=>h.out.grw,fun _=>h.out⟩
    unfold execOp
    simp only [hop,resolve,hc,fI _ _ _ (hk.evs hargs h2)]; rfl
   ·exact h.elim
  ·rename_i hc; obtain ⟨y,h2,h⟩:=eJ h
   split at h
   ·refine ⟨_,fun a hk=>?_,h.out,fun hs=>by simp [hop,sD,hc] at hs,fun hs=>by simp [hop,dT,hc] at hs⟩
    unfold execOp
    simp only [hop,resolve,hc,fI _ _ _ (hk.evs hargs h2)]; rfl
   ·exact h.elim
  ·rename_i hc; obtain ⟨y,h2,h⟩:=eJ h
   split at h
   ·refine ⟨_,fun a hk=>?_,h.out,fun hs=>by simp [hop,sD,hc] at hs,fun hs=>by simp [hop,dT,hc] at hs⟩
    unfold execOp
    simp only [hop,resolve,hc,fI _ _ _ (hk.evs hargs h2)]; rfl
   ·exact h.elim
  ·rename_i hc; obtain ⟨y,h2,h⟩:=eJ h
   refine ⟨_,fun a hk=>?_,h.out.grw.dyn,fun _=>h.out.grw,fun _=>h.out⟩
   unfold execOp
   simp only [hop,resolve,hc,fI _ _ _ (hk.evs hargs h2)]; rfl
  ·rename_i hc; obtain ⟨y,h2,h⟩:=eJ h
   refine ⟨_,fun a hk=>?_,h.out.grw.dyn,fun _=>h.out.grw,fun _=>h.out⟩
   unfold execOp
   simp only [hop,resolve,hc,fI _ _ _ (hk.evs hargs h2)]; rfl
  ·obtain ⟨s,h1,h2,h3,_⟩:=h.out
   exact ⟨s,fun a hk=>h1 a.eval o hop rfl fun x v hm hx=>hk.ev (by rw [hop]; exact hm) hx,h2,fun _=>h3 rfl,fun hs=>by simp only [hop,dT] at hs; cases hs⟩
 ·exact h.elim
 ·exact h.elim
 ·exact h.elim
 ·exact h.elim
 ·exact h.elim
 ·obtain ⟨s,h1,h2,h3,h4⟩:=h.out
  have hc:isC o.op=false:=by
   unfold isC; split
   ·rename_i c hc; simp_all
   ·rfl
  exact ⟨s,fun a hk=>h1 a.eval o rfl rfl fun x v hm hx=>hk.ev hm hx,h2,fun _=>h3 rfl,fun _=>h4 hc⟩
inductive Tc (L:List Oper):Nat→Nat→Prop
 | one {j i:Nat} (h:gB .any L j i):Tc L j i
 | cons {j k i:Nat} (h:Tc L j k) (h':gB .any L k i):Tc L j i
theorem Tc.closed {L:List Oper} {D:Nat→Prop} (hD:∀ i,D i→∀ j,gB .any L j i→D j):∀ {j i:Nat},Tc L j i→(∀ j,gB .any L j i→D j)→D j:=by
 intro j i h
 induction h with
 | one h=>exact fun hr=>hr _ h
 | cons _ h' ih=>exact fun hr=>ih fun j hj=>hD _ (hr _ h') j hj
def rR (prev:List Nat):List Edge→Nat→Nat
 | [],s=>s
 | e::r,s=>rR prev r (match Region.binds .any e with | true=>s ||| (2^e.on ||| prev.getD e.on 0) | false=>s)
def iE:List Oper→List Nat→List Nat
 | [],acc=>acc
 | o::r,acc=>iE r (acc++[rR acc o.after.toList 0])
theorem qT (prev:List Nat) (j:Nat):∀ (es:List Edge) (s:Nat),(rR prev es s).testBit j=true →
  s.testBit j=true∨∃ e,e∈es∧Region.binds .any e=true∧(e.on=j∨(prev.getD e.on 0).testBit j=true)
 | [],s,h=>.inl h
 | e::r,s,h=>by
  simp only [rR] at h
  rcases qT prev j r _ h with h | ⟨e',h1,h2,h3⟩
  ·cases hb:Region.binds .any e with
   | false=>simp only [hb] at h; exact .inl h
   | true =>
    simp only [hb,Nat.testBit_or,Bool.or_eq_true] at h
    rcases h with h | h | h
    ·exact .inl h
    ·exact .inr ⟨e,by simp,hb,.inl (by rw [Nat.testBit_two_pow] at h; exact of_decide_eq_true h)⟩
    ·exact .inr ⟨e,by simp,hb,.inr h⟩
  ·exact .inr ⟨e',by simp [h1],h2,h3⟩
theorem ancs_sound (L:List Oper):∀ (r:List Oper) (acc:List Nat) (pre:List Oper),L=pre++r→acc.length=pre.length →
  (∀ i j,(acc.getD i 0).testBit j=true→Tc L j i)→∀ i j,((iE r acc).getD i 0).testBit j=true→Tc L j i
 | [],acc,pre,_,_,h=>h
 | o::r,acc,pre,hL,hlen,h=>by
  refine ancs_sound L r _ (pre++[o]) (by simp [hL]) (by simp [hlen]) fun i j hij=>?_
  by_cases hi:i<acc.length
  ·refine h i j ?_
   simpa [List.getD_eq_getElem?_getD,List.getElem?_append_left hi] using hij
  ·by_cases hi2:i=acc.length
   ·subst hi2
    have hij':(rR acc o.after.toList 0).testBit j=true:=by simpa [List.getD_eq_getElem?_getD] using hij
    have hB:∀ e,e∈o.after.toList→Region.binds .any e=true→gB .any L e.on acc.length:=fun e he hb=>⟨o,by rw [hL,hlen]; simp,e,he,hb,rfl⟩
    rcases qT acc j _ _ hij' with h0 | ⟨e,h1,h2,h3 | h3⟩
    ·simp at h0
    ·exact h3 ▸ .one (hB e h1 h2)
    ·exact .cons (h e.on j h3) (hB e h1 h2)
   ·have:(acc++[rR acc o.after.toList 0]).length≤i:=by simp; omega
    simp [List.getD_eq_getElem?_getD,List.getElem?_eq_none this] at hij
def anc (tbl:List Nat) (j i:Nat):Bool:=(tbl.getD i 0).testBit j
def dl:Option Nat→List Nat
 | some t=>[t]
 | none=>[]
def cQ (L:List Oper) (o:Oper):List Nat:=eK o.op++(match o.guard with
 | some (j,_)=>match oC L j with
  | some oj=>dl oj.dst
  | none=>[]
 | none=>[])
def hits (d:Option Nat) (l:List Nat):Bool :=
 match d with
 | some t=>l.any (Nat.beq t)
 | none=>false
theorem g7 {d:Option Nat} {l:List Nat}:hits d l=true↔∃ t,d=some t∧t∈l:=by
 cases d with
 | none=>simp [hits]
 | some t =>
  simp only [hits,List.any_eq_true,Option.some.injEq]
  exact ⟨fun ⟨x,hx,hb⟩=>⟨t,rfl,by have:=Nat.eq_of_beq_eq_true hb; subst this; exact hx⟩,fun ⟨x,hx,hm⟩=>⟨x,hm,by subst hx; simp⟩⟩
def sameD:Option Nat→Option Nat→Bool
 | some x,some y=>Nat.beq x y
 | _,_=>false
def isFa:Op→Bool
 | .fieldAddr .. => true
 | _=>false
def nO:Op→Bool
 | .fieldAddr .. => true
 | .move _=>true
 | .assign _=>true
 | .pick .. => true
 | .extract .. => true
 | .nilCheck _=>true
 | _=>false
theorem pu_dok {P:Program} {d:Bool} {f:Fr} {ty:TypeId} {os:List Own} {fs:List bA} {K:cE} {o:Op} (h:nO o=true) (hf:isFa o=false):¬ DoK P d f ty os fs K o:=by
 cases o <;> simp [nO] at h <;> first | exact id | simp [isFa] at hf
theorem fa_sem {P:Program} {f:Fr} {os:List Own} {fs:List bA} {K:cE} (o:Oper) (hf:isFa o.op=true)
  (h:DoK P true f o.type os fs K o.op):∃ s,(∀ a:Act,KAt (eK o.op) f a→execOp a.eval o=s)∧DetA P s os fs K:=by
 cases hop:o.op <;> simp only [hop,isFa,Bool.false_eq_true] at hf
 rw [hop] at h
 obtain ⟨x,h1,h⟩:=bE h
 refine ⟨_,fun a hk=>?_,h.outA⟩
 unfold execOp
 simp only [hop,hk.ev (by simp [hop,Op.operands]) h1]; rfl
def pairOK (L:List Oper) (tbl:List Nat) (i:Nat) (oi:Oper) (j:Nat) (oj:Oper):Bool :=
 !Nat.beq i j && !sameD oi.dst oj.dst&&((!(hits oi.dst (cQ L oj)||hits oj.dst (cQ L oi)||dT oi.op||(sD oj.op && !nO oi.op)))||anc tbl i j)
def uF (L:List Oper) (tbl:List Nat):List Nat→Bool
 | []=>true
 | i::r=>(match oC L i with
   | none=>false
   | some oi => !hits oi.dst (cQ L oi)&&r.all fun j=>match oC L j with
    | some oj=>pairOK L tbl i oi j oj
    | none=>false)&&uF L tbl r
def posOf:List Nat→Nat→Nat
 | [],_=>0
 | x::r,i=>match Nat.beq x i with
  | true=>0
  | false=>posOf r i+1
def nS (n:Nat) (g:List Nat):Nat→List Oper→Bool
 | _,[]=>true
 | i,o::r=>(o.after.toList.all fun e=>Nat.blt e.on n&&(match e.ground with | .gcOnly _=>true | _=>Nat.blt e.on i)&&(match e.ground with | .textOnly _=>true | _=>Nat.blt (posOf g e.on) (posOf g i)))&&nS n g (i+1) r
def drawOK (L:List Oper) (c g:List Nat):Bool :=
 Nat.beq c.length L.length&&(List.range L.length).all (fun i=>c.any (Nat.beq i))&&uF L (iE L []) c&&nS L.length g 0 L
noncomputable def g8 (L:List Oper) (c:List Nat):List Oper :=
 @List.rec Nat (fun _=>List Oper) [] (fun i _ ih=>match oC L i with
  | some o=>o::ih
  | none=>ih) c
theorem jG (L:List Oper) (i:Nat) (c:List Nat):g8 L (i::c)=match oC L i with
  | some o=>o::g8 L c
  | none=>g8 L c:=rfl
theorem iP {n:Nat} {g:List Nat}:∀ {L:List Oper} {k:Nat},nS n g k L=true→∀ i o,L[i]? = some o→∀ e,e∈o.after.toList →
  e.on<n∧(Region.binds .text e=true→e.on<k+i)∧(Region.binds .any e=true→e.on<k+i)∧(Region.binds .gc e=true→posOf g e.on<posOf g (k+i))
 | [],_,_,i,o,ho,_,_=>by simp at ho
 | o'::r,k,h,i,o,ho,e,he=>by
  simp only [nS,Bool.and_eq_true] at h
  cases i with
  | zero =>
   simp only [List.getElem?_cons_zero,Option.some.injEq] at ho
   subst ho
   have:=List.all_eq_true.1 h.1 e he
   simp only [Bool.and_eq_true] at this
   obtain ⟨⟨h1,h2⟩,h3⟩:=this
   refine ⟨by simpa using h1,fun hb=>?_,fun hb=>?_,fun hb=>?_⟩
   ·cases hg:e.ground <;> simp_all [Region.binds]
   ·cases hg:e.ground <;> simp_all [Region.binds]
   ·cases hg:e.ground <;> simp_all [Region.binds]
  | succ i =>
   have:=iP h.2 i o (by simpa using ho) e he
   simpa [Nat.add_assoc,Nat.add_comm 1 i] using this
theorem qR {m:Region.Mode} {e:Edge} (h:Region.binds .any e=true):Region.binds m e=true:=by
 unfold Region.binds at *
 cases hg:e.ground <;> simp_all
theorem schedule_order {L:List Oper} {c g:List Nat} (h:drawOK L c g=true) (mixed:Bool) (t:Nat):iS .any L (Region.schedule mixed L.toArray t):=by
 simp only [drawOK,Bool.and_eq_true] at h
 have he:=iP h.2
 have weaken:∀ {m:Region.Mode} {l:List Nat},iS m L l→iS .any L l:=fun ho=>⟨ho.nodup,ho.all,fun pre i post hp j ⟨o,h1,e,h2,h3,h4⟩=>ho.before pre i post hp j ⟨o,h1,e,h2,qR h3,h4⟩⟩
 have text:∀ t,iS .text L (Region.linearise .text L.toArray t):=fun t=>dL (ops:=L.toArray) id (fun i j ⟨o,h1,e,h2,h3,h4⟩=>by
  have:=he i o h1 e h2; subst h4; exact ⟨by simpa using this.1,by simpa using this.2.1 h3⟩) t
 have any:∀ t,iS .any L (Region.linearise .any L.toArray t):=fun t=>dL (ops:=L.toArray) id (fun i j ⟨o,h1,e,h2,h3,h4⟩=>by
  have:=he i o h1 e h2; subst h4; exact ⟨by simpa using this.1,by simpa using this.2.2.1 h3⟩) t
 have gc:∀ t,iS .gc L (Region.linearise .gc L.toArray t):=fun t=>dL (ops:=L.toArray) (posOf g) (fun i j ⟨o,h1,e,h2,h3,h4⟩=>by
  have:=he i o h1 e h2; subst h4; exact ⟨by simpa using this.1,by simpa using this.2.2.2 h3⟩) t
 unfold Region.schedule
 split
 ·exact any t
 ·split
  ·exact weaken (text _)
  ·exact weaken (gc _)
structure j6 (L:List Oper) (tbl:List Nat) (c:List Nat):Prop where
 nodup:c.Nodup
 all:∀ i,i∈c↔i<L.length
 self:∀ i o,i∈c→L[i]? = some o→∀ t,o.dst=some t→t ∉ cQ L o
 pair:∀ pre i post j oi oj,c=pre++i::post→j∈post→L[i]? = some oi→L[j]? = some oj →
  (∀ t,oi.dst=some t→oj.dst≠some t)∧((∃ t,oi.dst=some t∧t∈cQ L oj)∨(∃ t,oj.dst=some t∧t∈cQ L oi)∨dT oi.op=true∨(sD oj.op=true∧nO oi.op=false)→anc tbl i j=true)
theorem l6 {L:List Oper} {tbl:List Nat}:∀ {c:List Nat},uF L tbl c=true →
  c.Nodup∧(∀ i,i∈c→i<L.length)∧(∀ i o,i∈c→L[i]? = some o→∀ t,o.dst=some t→t ∉ cQ L o) ∧
  ∀ pre i post j oi oj,c=pre++i::post→j∈post→L[i]? = some oi→L[j]? = some oj →
   (∀ t,oi.dst=some t→oj.dst≠some t)∧((∃ t,oi.dst=some t∧t∈cQ L oj)∨(∃ t,oj.dst=some t∧t∈cQ L oi)∨dT oi.op=true∨(sD oj.op=true∧nO oi.op=false)→anc tbl i j=true)
 | [],_=>⟨List.nodup_nil,by simp,by simp,fun pre i post j oi oj h=>by simp at h⟩
 | x::r,h=>by
  simp only [uF,Bool.and_eq_true] at h
  obtain ⟨h1,h2⟩:=h
  obtain ⟨g1,g2,g3,g4⟩:=l6 h2
  cases hx:oC L x with
  | none=>simp [hx] at h1
  | some ox =>
   simp only [hx,Bool.and_eq_true] at h1
   obtain ⟨h3,h4⟩:=h1
   have hxL:L[x]? = some ox:=by rw [← f9]; exact hx
   have hpair:∀ j,j∈r→∃ oj,oC L j=some oj∧pairOK L tbl x ox j oj=true:=by
    intro j hj
    have:=List.all_eq_true.1 h4 j hj
    cases hoj:oC L j with
    | none=>simp [hoj] at this
    | some oj=>simp only [hoj] at this; exact ⟨oj,rfl,this⟩
   refine ⟨List.nodup_cons.2 ⟨fun hm=>?_,g1⟩,fun i hi=>?_,fun i o hi ho t ht=>?_,fun pre i post j oi oj hp hj hoi hoj=>?_⟩
   ·obtain ⟨oj,_,hp⟩:=hpair x hm
    simp [pairOK] at hp
   ·rcases List.mem_cons.1 hi with rfl | hi
    ·exact (List.getElem?_eq_some_iff.1 hxL).1
    ·exact g2 i hi
   ·rcases List.mem_cons.1 hi with rfl | hi
    ·rw [hxL] at ho
     obtain rfl:=Option.some.inj ho
     intro hm
     rw [g7.2 ⟨t,ht,hm⟩] at h3
     cases h3
    ·exact g3 i o hi ho t ht
   ·cases pre with
    | nil =>
     simp only [List.nil_append,List.cons.injEq] at hp
     obtain ⟨rfl,rfl⟩:=hp
     obtain ⟨oj',h5,h6⟩:=hpair j hj
     rw [f9,hoj] at h5
     obtain rfl:=Option.some.inj h5
     rw [hxL] at hoi
     obtain rfl:=Option.some.inj hoi
     simp only [pairOK,Bool.and_eq_true,Bool.or_eq_true,Bool.not_eq_true'] at h6
     obtain ⟨⟨_,h7⟩,h8⟩:=h6
     refine ⟨fun t ht ht'=>?_,fun hc=>?_⟩
     ·rw [ht,ht'] at h7; simp [sameD] at h7
     ·rcases h8 with h8 | h8
      ·exfalso
       simp only [Bool.or_eq_false_iff] at h8
       obtain ⟨⟨⟨q1,q2⟩,q3⟩,q4⟩:=h8
       rcases hc with hc | hc | hc | hc
       ·rw [g7.2 hc] at q1; cases q1
       ·rw [g7.2 hc] at q2; cases q2
       ·rw [hc] at q3; cases q3
       ·rw [hc.1,hc.2] at q4; cases q4
      ·exact h8
    | cons y pre =>
     simp only [List.cons_append,List.cons.injEq] at hp
     obtain ⟨rfl,rfl⟩:=hp
     exact g4 pre i post j oi oj rfl hj hoi hoj
theorem drawOK_sound {L:List Oper} {c g:List Nat} (h:drawOK L c g=true):j6 L (iE L []) c:=by
 simp only [drawOK,Bool.and_eq_true] at h
 obtain ⟨⟨⟨_,h2⟩,h3⟩,_⟩:=h
 obtain ⟨g1,g2,g3,g4⟩:=l6 h3
 refine ⟨g1,fun i=>⟨g2 i,fun hi=>?_⟩,g3,g4⟩
 have:=List.all_eq_true.1 h2 i (by simpa using hi)
 obtain ⟨x,hx,hb⟩:=List.any_eq_true.1 this
 have:=Nat.eq_of_beq_eq_true hb
 subst this
 exact hx
theorem nY {L:List Oper} {j i:Nat} (h:anc (iE L []) j i=true):Tc L j i :=
 ancs_sound L L [] [] rfl rfl (fun i j h=>by simp at h) i j h
def fT (val:Nat→Value) (k:Nat) (v:Value):Nat→Value:=fun j=>if j=k then v else val j
def Src (L:List Oper) (tbl:List Nat) (f0:Fr) (vd:List Nat) (val:Nat→Value) (k t:Nat) (v:Value):Prop :=
 (∃ j o,j∈vd∧L[j]? = some o∧o.dst=some t∧val j=v∧anc tbl j k=true)∨(look f0 t=some v∧∀ j o,L[j]? = some o→o.dst=some t→anc tbl k j=true)
def Pend (P:Program) (L:List Oper) (tbl:List Nat) (f0:Fr) (vd:List Nat) (val:Nat→Value) (w:World) (k:Nat) (o:Oper):Prop :=
 dT o.op=false∧∃ fk:Fr,(∀ t v,t∈cQ L o→look fk t=some v→Src L tbl f0 vd val k t v) ∧
  ((gd L fk o.guard=some false∧val k=undef) ∨
   (gd L fk o.guard=some true∧∀ (a:Act) (w':World),KAt (eK o.op) fk a→(nO o.op=true∨Below w.heap.size w w')→(execOp a.eval o).run P w'=.ok (.value (val k)) w'))
structure Inv (P:Program) (N:Nat) (L:List Oper) (f0:Fr) (G:Ctx) (K:jD) (c:List Nat) (D:Nat→Prop) (vd c':List Nat) (val:Nat→Value) (vf:Fr) (os:List Own) (fs:List bA) (a:Act) (w:World):Prop where
 split:c=vd++c'
 sub:∀ i,D i→i∈vd
 clos:∀ i,D i→∀ j,gB .any L j i→D j
 defers:Marks (fun b=>G.D.1 b∧G.M b kQ) G.D.2 a.defers
 size:a.tmps.size=N
 act:∀ t v,((∃ j o,D j∧L[j]? = some o∧o.dst=some t∧val j=v)∨(look f0 t=some v∧∀ j o,D j→L[j]? = some o→o.dst≠some t))→a.tmps[t]? = some v
 virt:∀ t v,look vf t=some v→(∃ j o,j∈vd∧L[j]? = some o∧o.dst=some t∧val j=v)∨(look f0 t=some v∧∀ j o,j∈vd→L[j]? = some o→o.dst≠some t)
 pend:∀ k o,k∈vd→¬ D k→L[k]? = some o→Pend P L (iE L []) f0 vd val w k o
 st:Holds G os fs w
 vc:VCops P true L (g8 L c') vf os fs K
section
variable {P:Program} {N:Nat} {L:List Oper} {f0:Fr} {G:Ctx} {K:jD} {c:List Nat}
theorem src_next (hc:j6 L (iE L []) c) {vd c':List Nat} {k:Nat} {val:Nat→Value} {vf:Fr} {o:Oper} (hs:c=vd++k::c') (ho:L[k]? = some o)
  (virt:∀ t v,look vf t=some v→(∃ j o,j∈vd∧L[j]? = some o∧o.dst=some t∧val j=v)∨(look f0 t=some v∧∀ j o,j∈vd→L[j]? = some o→o.dst≠some t)) :
  ∀ t v,t∈cQ L o→look vf t=some v→Src L (iE L []) f0 vd val k t v:=by
 intro t v ht hl
 rcases virt t v hl with ⟨j,oj,h1,h2,h3,h4⟩ | ⟨h1,h2⟩
 ·left
  refine ⟨j,oj,h1,h2,h3,h4,?_⟩
  obtain ⟨pre,post,rfl⟩:=List.append_of_mem h1
  exact (hc.pair pre j (post++k::c') k oj o (by rw [hs]; simp) qP h2 ho).2 (.inl ⟨t,h3,ht⟩)
 ·right
  refine ⟨h1,fun j oj hj hd=>?_⟩
  have hjc:j∈c:=(hc.all j).2 (List.getElem?_eq_some_iff.1 hj).1
  rw [hs] at hjc
  rcases List.mem_append.1 hjc with hm | hm
  ·exact absurd hd (h2 j oj hm hj)
  ·rcases List.mem_cons.1 hm with rfl | hm
   ·rw [ho] at hj
    obtain rfl:=Option.some.inj hj
    exact absurd ht (hc.self j o ((hc.all j).2 (List.getElem?_eq_some_iff.1 ho).1) ho t hd)
   ·exact (hc.pair vd k c' j o oj hs hm ho hj).2 (.inr (.inl ⟨t,hd,ht⟩))
theorem Src.keep {tbl:List Nat} {vd:List Nat} {val:Nat→Value} {k t:Nat} {v u:Value} {x:Nat} (hx:x ∉ vd) (h:Src L tbl f0 vd val k t v):Src L tbl f0 (vd++[x]) (fT val x u) k t v:=by
 rcases h with ⟨j,o,h1,h2,h3,h4,h5⟩ | h
 ·refine .inl ⟨j,o,by simp [h1],h2,h3,?_,h5⟩
  have:j≠x:=fun e=>hx (e ▸ h1)
  simp [fT,this,h4]
 ·exact .inr h
theorem Pend.keep {tbl:List Nat} {vd:List Nat} {val:Nat→Value} {k:Nat} {o:Oper} {u:Value} {x:Nat} {w w':World} (hx:x ∉ vd) (hk:k∈vd) (hb:nO o.op=true∨Below w.heap.size w w') (h:Pend P L tbl f0 vd val w k o) :
  Pend P L tbl f0 (vd++[x]) (fT val x u) w' k o:=by
 have hkx:k≠x:=fun e=>hx (e ▸ hk)
 obtain ⟨h0,fk,h1,h2⟩:=h
 refine ⟨h0,fk,fun t v ht hl=>(h1 t v ht hl).keep hx,?_⟩
 rcases h2 with ⟨h2,h3⟩ | ⟨h2,h3⟩
 ·exact .inl ⟨h2,by simp [fT,hkx,h3]⟩
 ·refine .inr ⟨h2,fun a w'' ha hb'=>?_⟩
  have:=h3 a w'' ha (by
   rcases hb with hb | hb
   ·exact .inl hb
   ·rcases hb' with hb' | hb'
    ·exact .inl hb'
    ·exact .inr (hb.trans (hb'.mono hb.size)))
  simpa [fT,hkx] using this
theorem virt_keep {vd:List Nat} {val:Nat→Value} {vf:Fr} {x:Nat} {o:Oper} {u:Value} (hc:j6 L (iE L []) c) {c':List Nat} (hs:c=vd++x::c') (ho:L[x]? = some o)
  (virt:∀ t v,look vf t=some v→(∃ j o,j∈vd∧L[j]? = some o∧o.dst=some t∧val j=v)∨(look f0 t=some v∧∀ j o,j∈vd→L[j]? = some o→o.dst≠some t)) :
  ∀ t v,look (jS vf o.dst u) t=some v→(∃ j o,j∈vd++[x]∧L[j]? = some o∧o.dst=some t∧fT val x u j=v)∨(look f0 t=some v∧∀ j o,j∈vd++[x]→L[j]? = some o→o.dst≠some t):=by
 intro t v hl
 have hxvd:x ∉ vd:=fun hm=>by
  have:=hc.nodup
  rw [hs,List.nodup_append] at this
  exact this.2.2 x hm x qP rfl
 have old:look vf t=some v→o.dst≠some t→(∃ j o,j∈vd++[x]∧L[j]? = some o∧o.dst=some t∧fT val x u j=v)∨(look f0 t=some v∧∀ j o,j∈vd++[x]→L[j]? = some o→o.dst≠some t):=by
  intro hl hne
  rcases virt t v hl with ⟨j,oj,h1,h2,h3,h4⟩ | ⟨h1,h2⟩
  ·refine .inl ⟨j,oj,by simp [h1],h2,h3,?_⟩
   have:j≠x:=fun e=>hxvd (e ▸ h1)
   simp [fT,this,h4]
  ·refine .inr ⟨h1,fun j oj hj hjo=>?_⟩
   rcases List.mem_append.1 hj with hj | hj
   ·exact h2 j oj hj hjo
   ·simp only [List.mem_singleton] at hj
    subst hj
    rw [ho] at hjo
    obtain rfl:=Option.some.inj hjo
    exact hne
 cases hd:o.dst with
 | none=>rw [hd] at hl; exact old hl (by rw [hd]; simp)
 | some d =>
  rw [hd] at hl
  simp only [jS,look] at hl
  cases hb:Nat.beq d t with
  | true =>
   have:=Nat.eq_of_beq_eq_true hb
   subst this
   simp only [hb,Option.some.injEq] at hl
   exact .inl ⟨x,o,by simp,ho,hd,by simp [fT,hl]⟩
  | false =>
   simp only [hb] at hl
   exact old hl (by rw [hd]; intro e; simp only [Option.some.injEq] at e; subst e; simp at hb)
theorem virt_step (hc:j6 L (iE L []) c) {D:Nat→Prop} {vd c':List Nat} {k:Nat} {val:Nat→Value} {vf:Fr} {os:List Own} {fs:List bA} {a:Act} {w:World} {o:Oper}
  (h:Inv P N L f0 G K c D vd (k::c') val vf os fs a w) (ho:L[k]? = some o) (hdyn:dT o.op=false) :
  ∃ val' vf' fs',Inv P N L f0 G K c D (vd++[k]) c' val' vf' os fs' a w:=by
 have hnod:=hc.nodup
 rw [h.split,List.nodup_append] at hnod
 have hk:k ∉ vd:=fun hm=>hnod.2.2 k hm k qP rfl
 have src:=src_next hc h.split ho h.virt
 have hvc:=h.vc
 rw [jG,f9,ho] at hvc
 simp only at hvc
 rw [kC] at hvc
 have fin:∀ (u:Value) (fs':List bA),Holds G os fs' w→VCops P true L (g8 L c') (jS vf o.dst u) os fs' K →
   ((gd L vf o.guard=some false∧u=undef)∨(gd L vf o.guard=some true∧∀ (a:Act) (w':World),KAt (eK o.op) vf a→(nO o.op=true∨Below w.heap.size w w')→(execOp a.eval o).run P w'=.ok (.value u) w')) →
   ∃ val' vf' fs',Inv P N L f0 G K c D (vd++[k]) c' val' vf' os fs' a w:=by
  intro u fs' hst hv hp
  refine ⟨fT val k u,jS vf o.dst u,fs',by rw [h.split]; simp,fun i hi=>by simp [h.sub i hi],h.clos,h.defers,h.size,?_,virt_keep hc h.split ho h.virt,?_,hst,hv⟩
  ·intro t v ht
   refine h.act t v ?_
   rcases ht with ⟨j,oj,h1,h2,h3,h4⟩ | ht
   ·have:j≠k:=fun e=>hk (e ▸ h.sub j h1)
    exact .inl ⟨j,oj,h1,h2,h3,by simpa [fT,this] using h4⟩
   ·exact .inr ht
  ·intro x ox hx hnD hox
   rcases List.mem_append.1 hx with hx | hx
   ·exact (h.pend x ox hx hnD hox).keep hk hx (.inr (Below.refl _ _))
   ·simp only [List.mem_singleton] at hx
    subst hx
    rw [ho] at hox
    obtain rfl:=Option.some.inj hox
    refine ⟨hdyn,vf,fun t v ht hl=>(src t v ht hl).keep hk,?_⟩
    rcases hp with ⟨h1,h2⟩ | ⟨h1,h2⟩
    ·exact .inl ⟨h1,by simp [fT,h2]⟩
    ·exact .inr ⟨h1,fun a w' ha hb=>by simpa [fT] using h2 a w' ha hb⟩
 cases hg:gd L vf o.guard with
 | none=>simp only [hg,orF] at hvc
 | some b =>
  cases b with
  | false=>simp only [hg,orF] at hvc; exact fin undef fs h.st hvc (.inl ⟨hg,rfl⟩)
  | true =>
   simp only [hg,orF] at hvc
   cases hv:detv vf o.op with
   | some v=>simp only [hv,orV] at hvc; exact fin v fs h.st hvc (.inr ⟨hg,fun a w' ha _=>gK P ha hv w'⟩)
   | none =>
    simp only [hv,orV] at hvc
    cases hfa:isFa o.op with
    | true =>
     obtain ⟨s,hs1,hs2⟩:=fa_sem o hfa hvc
     obtain ⟨v,fs',h1,h2,h3⟩:=hs2 G w h.st
     exact fin v fs' h3 h2 (.inr ⟨hg,fun a w' ha _=>by rw [hs1 a ha]; exact h1 w' trivial⟩)
    | false =>
    obtain ⟨s,hs⟩:=DoK.sem o hvc
    obtain ⟨v,fs',h1,h2,h3⟩:=hs.det hdyn G w h.st
    exact fin v fs' h3 h2 (.inr ⟨hg,fun a w' ha hb=>by
     rcases hb with hb | hb
     ·exact (pu_dok hb hfa hvc).elim
     ·rw [hs.same a ha]; exact h1 w' hb⟩)
theorem gT {D:Nat→Prop} {vd:List Nat} {val:Nat→Value} {fk:Fr} {a:Act} {k:Nat} {T:List Nat}
  (clos:∀ i,D i→∀ j,gB .any L j i→D j) (hnD:¬ D k) (hready:∀ j,gB .any L j k→D j)
  (act:∀ t v,((∃ j o,D j∧L[j]? = some o∧o.dst=some t∧val j=v)∨(look f0 t=some v∧∀ j o,D j→L[j]? = some o→o.dst≠some t))→a.tmps[t]? = some v)
  (src:∀ t v,t∈T→look fk t=some v→Src L (iE L []) f0 vd val k t v):KAt T fk a:=by
 intro t v ht hl
 refine act t v ?_
 rcases src t v ht hl with ⟨j,o,h1,h2,h3,h4,h5⟩ | ⟨h1,h2⟩
 ·exact .inl ⟨j,o,(nY h5).closed clos hready,h2,h3,h4⟩
 ·refine .inr ⟨h1,fun j o hj hjo hd=>hnD ?_⟩
  exact (nY (h2 j o hjo hd)).closed clos (clos j hj)
theorem fW {f:Fr} {a:Act} {o:Oper} {b:Bool} (hk:KAt (cQ L o) f a) (h:gd L f o.guard=some b) :
  Region.wanted o (yielded L.toArray a.tmps)=b:=by
 unfold gd at h
 unfold Region.wanted
 split at h
 ·rename_i hg; simp only [hg]; simpa using h
 ·rename_i j want hg
  simp only [hg]
  split at h
  ·cases h
  ·rename_i o' ho
   split at h
   ·cases h
   ·rename_i t ht
    have hin:t∈cQ L o:=by
     unfold cQ
     simp [hg,ho,ht,dl]
    rw [f9] at ho
    have ho':L.toArray[j]? = some o':=by simpa using ho
    split at h
    ·rename_i b' hb
     simp only [yielded,ho',Option.bind_some,ht,hk _ _ hin hb]
     cases b' <;> cases want <;> simp_all [sameB]
    ·rename_i vs hb
     simp only [yielded,ho',Option.bind_some,ht,hk _ _ hin hb]
     simpa using h
    ·cases h
theorem lE {D:Nat→Prop} {val:Nat→Value} {a:Act} {k:Nat} {o:Oper} (hd:rM N o.dst=true) (hs:a.tmps.size=N) (ho:L[k]? = some o)
  (distinct:∀ j oj,D j→L[j]? = some oj→∀ t,o.dst=some t→oj.dst≠some t)
  (act:∀ t v,((∃ j o,D j∧L[j]? = some o∧o.dst=some t∧val j=v)∨(look f0 t=some v∧∀ j o,D j→L[j]? = some o→o.dst≠some t))→a.tmps[t]? = some v) :
  ∀ t v,((∃ j o,(D j∨j=k)∧L[j]? = some o∧o.dst=some t∧val j=v)∨(look f0 t=some v∧∀ j o,(D j∨j=k)→L[j]? = some o→o.dst≠some t))→(a.put o.dst (val k)).tmps[t]? = some v:=by
 intro t v ht
 cases hdst:o.dst with
 | none =>
  simp only [Act.put]
  refine act t v ?_
  rcases ht with ⟨j,oj,h1,h2,h3,h4⟩ | ⟨h1,h2⟩
  ·rcases h1 with h1 | rfl
   ·exact .inl ⟨j,oj,h1,h2,h3,h4⟩
   ·rw [ho] at h2
    obtain rfl:=Option.some.inj h2
    rw [hdst] at h3; cases h3
  ·exact .inr ⟨h1,fun j oj hj=>h2 j oj (.inl hj)⟩
 | some d =>
  have hdN:d<a.tmps.size:=by rw [hs]; rw [hdst] at hd; simpa [rM] using hd
  simp only [Act.put,Array.getElem?_setIfInBounds]
  rcases ht with ⟨j,oj,h1,h2,h3,h4⟩ | ⟨h1,h2⟩
  ·rcases h1 with h1 | rfl
   ·have:d≠t:=fun e=>distinct j oj h1 h2 d hdst (by rw [h3,e])
    rw [if_neg this]
    exact act t v (.inl ⟨j,oj,h1,h2,h3,h4⟩)
   ·rw [ho] at h2
    obtain rfl:=Option.some.inj h2
    rw [hdst] at h3
    obtain rfl:=Option.some.inj h3
    simp [hdN,h4]
  ·have:d≠t:=fun e=>h2 k o (.inr rfl) ho (by rw [hdst,e])
   rw [if_neg this]
   exact act t v (.inr ⟨h1,fun j oj hj=>h2 j oj (.inl hj)⟩)
theorem do_pend (hc:j6 L (iE L []) c) (hdst:eO N L=true) {Q:iX} {D:Nat→Prop} {vd c':List Nat} {k:Nat} {val:Nat→Value} {vf:Fr} {os:List Own} {fs:List bA} {a:Act} {w:World} {o:Oper} {rest:List Nat}
  (h:Inv P N L f0 G K c D vd c' val vf os fs a w) (ho:L[k]? = some o) (hk:k∈vd) (hnD:¬ D k) (hready:∀ j,gB .any L j k→D j)
  (next:∀ a',Inv P N L f0 G K c (fun i=>D i∨i=k) vd c' val vf os fs a' w→dK P L.toArray (Qhat N G Q) rest a' w):dK P L.toArray (Qhat N G Q) (k::rest) a w:=by
 have dk:∀ (L:List Oper) (k:Nat) (o:Oper),eO N L=true→L[k]? = some o→rM N o.dst=true:=by
  intro L
  induction L with
  | nil=>intro k o _ h; simp at h
  | cons x r ih =>
   intro k o hd h
   simp only [eO,Bool.and_eq_true] at hd
   cases k with
   | zero=>simp only [List.getElem?_cons_zero,Option.some.injEq] at h; subst h; exact hd.1
   | succ k=>exact ih k o hd.2 (by simpa using h)
 have hdk:=dk L k o hdst ho
 obtain ⟨_,fk,hsrc,hcase⟩:=h.pend k o hk hnD ho
 have hkat:KAt (cQ L o) fk a:=gT h.clos hnD hready h.act hsrc
 have hkat':KAt (eK o.op) fk a:=fun t v ht=>hkat t v (List.mem_append_left _ ht)
 have distinct:∀ j oj,D j→L[j]? = some oj→∀ t,o.dst=some t→oj.dst≠some t:=by
  intro j oj hj hjo t ht
  have hjv:=h.sub j hj
  have hne:j≠k:=fun e=>hnD (e ▸ hj)
  have hjc:j∈c:=by rw [h.split]; simp [hjv]
  have hkc:k∈c:=by rw [h.split]; simp [hk]
  obtain ⟨pre,post,hp⟩:=List.append_of_mem hjc
  rw [hp] at hkc
  rcases List.mem_append.1 hkc with hm | hm
  ·obtain ⟨pre',post',hp'⟩:=List.append_of_mem hm
   exact (hc.pair pre' k (post'++j::post) j o oj (by rw [hp,hp']; simp) qP ho hjo).1 t ht
  ·rcases List.mem_cons.1 hm with hm | hm
   ·exact absurd hm.symm hne
   ·intro hjt
    exact (hc.pair pre j post k oj o hp hm hjo ho).1 t hjt ht
 have inv':Inv P N L f0 G K c (fun i=>D i∨i=k) vd c' val vf os fs (a.put o.dst (val k)) w:=by
  refine ⟨h.split,fun i hi=>hi.elim (h.sub i) (fun e=>e ▸ hk),fun i hi j hj=>?_,?_,?_,lE hdk h.size ho distinct h.act,h.virt,fun x ox hx hnx=>h.pend x ox hx (fun hx'=>hnx (.inl hx')),h.st,h.vc⟩
  ·rcases hi with hi | rfl
   ·exact .inl (h.clos i hi j hj)
   ·exact .inl (hready j hj)
  ·have:=h.defers; cases hd:o.dst <;> simpa [Act.put] using this
  ·cases hd:o.dst <;> simp [Act.put,h.size]
 have ho':L.toArray[k]? = some o:=by simpa using ho
 simp only [dK,ho']
 rcases hcase with ⟨h1,h2⟩ | ⟨h1,h2⟩
 ·rw [fW hkat h1]
  simp only [Bool.false_eq_true,if_false]
  rw [← h2]
  exact next _ inv'
 ·rw [fW hkat h1]
  simp only [if_true]
  left
  unfold Oper.wpA
  rw [h2 a w hkat' (.inr (Below.refl _ _))]
  exact next _ inv'
theorem do_dyn (hc:j6 L (iE L []) c) (hdst:eO N L=true) {Q:iX} {D:Nat→Prop} {vd c':List Nat} {k:Nat} {val:Nat→Value} {vf:Fr} {os:List Own} {fs:List bA} {a:Act} {w:World} {o:Oper} {rest:List Nat}
  (h:Inv P N L f0 G K c D vd (k::c') val vf os fs a w) (ho:L[k]? = some o) (hdyn:dT o.op=true) (hnD:¬ D k) (hready:∀ j,gB .any L j k→D j)
  (next:∀ val' vf' os' fs' a' w',Inv P N L f0 G K c (fun i=>D i∨i=k) (vd++[k]) c' val' vf' os' fs' a' w'→dK P L.toArray (Qhat N G Q) rest a' w'):dK P L.toArray (Qhat N G Q) (k::rest) a w:=by
 have dk:∀ (L:List Oper) (k:Nat) (o:Oper),eO N L=true→L[k]? = some o→rM N o.dst=true:=by
  intro L
  induction L with
  | nil=>intro k o _ h; simp at h
  | cons x r ih =>
   intro k o hd h
   simp only [eO,Bool.and_eq_true] at hd
   cases k with
   | zero=>simp only [List.getElem?_cons_zero,Option.some.injEq] at h; subst h; exact hd.1
   | succ k=>exact ih k o hd.2 (by simpa using h)
 have hdk:=dk L k o hdst ho
 have hnod:=hc.nodup
 rw [h.split,List.nodup_append] at hnod
 have hk:k ∉ vd:=fun hm=>hnod.2.2 k hm k qP rfl
 have src:=src_next hc h.split ho h.virt
 have hkat:KAt (cQ L o) vf a:=gT h.clos hnD hready h.act src
 have hkat':KAt (eK o.op) vf a:=fun t v ht=>hkat t v (List.mem_append_left _ ht)
 have distinct:∀ j oj,D j→L[j]? = some oj→∀ t,o.dst=some t→oj.dst≠some t:=by
  intro j oj hj hjo t ht hjt
  obtain ⟨pre,post,hp⟩:=List.append_of_mem (h.sub j hj)
  exact (hc.pair pre j (post++k::c') k oj o (by rw [h.split,hp]; simp) qP hjo ho).1 t hjt ht
 have hvc:=h.vc
 rw [jG,f9,ho] at hvc
 simp only at hvc
 rw [kC] at hvc
 have inv':∀ (u:Value) (os':List Own) (fs':List bA) (w':World),Holds G os' fs' w'→VCops P true L (g8 L c') (jS vf o.dst u) os' fs' K→((∀ i o,i∈vd→L[i]? = some o→D i∨nO o.op=true)∨Below w.heap.size w w') →
   Inv P N L f0 G K c (fun i=>D i∨i=k) (vd++[k]) c' (fT val k u) (jS vf o.dst u) os' fs' (a.put o.dst u) w':=by
  intro u os' fs' w' hst hv hpd
  have hset:fT val k u k=u:=by simp [fT]
  refine ⟨by rw [h.split]; simp,fun i hi=>?_,fun i hi j hj=>?_,?_,?_,?_,virt_keep hc h.split ho h.virt,fun x ox hx hnx hox=>?_,hst,hv⟩
  ·rcases hi with hi | rfl
   ·simp [h.sub i hi]
   ·simp
  ·rcases hi with hi | rfl
   ·exact .inl (h.clos i hi j hj)
   ·exact .inl (hready j hj)
  ·have:=h.defers; cases hd:o.dst <;> simpa [Act.put] using this
  ·cases hd:o.dst <;> simp [Act.put,h.size]
  ·have:=lE (val:=fT val k u) (f0:=f0) (D:=D) hdk h.size ho distinct (fun t v ht=>h.act t v (by
    rcases ht with ⟨j,oj,h1,h2,h3,h4⟩ | ht
    ·have:j≠k:=fun e=>hnD (e ▸ h1)
     exact .inl ⟨j,oj,h1,h2,h3,by simpa [fT,this] using h4⟩
    ·exact .inr ht))
   rw [hset] at this
   exact this
  ·have hxv:x∈vd:=by
    rcases List.mem_append.1 hx with hx | hx
    ·exact hx
    ·exact absurd (.inr (by simpa using hx)) hnx
   have hnx':¬ D x:=fun hd=>hnx (.inl hd)
   rcases hpd with hpd | hb
   ·rcases hpd x ox hxv hox with h1 | h1
    ·exact absurd h1 hnx'
    ·exact (h.pend x ox hxv hnx' hox).keep hk hxv (.inl h1)
   ·exact (h.pend x ox hxv hnx' hox).keep hk hxv (.inr hb)
 have ho':L.toArray[k]? = some o:=by simpa using ho
 simp only [dK,ho']
 cases hg:gd L vf o.guard with
 | none=>simp only [hg,orF] at hvc
 | some b =>
  rw [fW hkat hg]
  cases b with
  | false =>
   simp only [hg,orF] at hvc
   simp only [Bool.false_eq_true,if_false]
   exact next _ _ _ _ _ _ (inv' undef os fs w h.st hvc (.inr (Below.refl _ _)))
  | true =>
   simp only [hg,orF] at hvc
   simp only [if_true]
   left
   unfold Oper.wpA
   cases hv:detv vf o.op with
   | some v =>
    simp only [hv,orV] at hvc
    rw [gK P hkat' hv w]
    exact next _ _ _ _ _ _ (inv' v os fs w h.st hvc (.inr (Below.refl _ _)))
   | none =>
    simp only [hv,orV] at hvc
    obtain ⟨s,hs⟩:=DoK.sem o hvc
    rw [hs.same a hkat']
    have main:Comes1 P (fun v w'=>((∀ i o,i∈vd→L[i]? = some o→D i∨nO o.op=true)∨Below w.heap.size w w')∧∃ os' fs',VCops P true L (g8 L c') (jS vf o.dst v) os' fs' K∧Holds G os' fs' w') (s.run P w):=by
     cases hst:sD o.op with
     | false=>exact (hs.grw hst G w h.st).mono fun v w' ⟨h1,h2⟩=>⟨.inr h1,h2⟩
     | true =>
      refine (hs.dyn G w h.st).mono fun v w' h2=>⟨.inl fun i oi hi hoi=>?_,h2⟩
      cases hpu:nO oi.op with
      | true=>exact .inr rfl
      | false =>
      left
      obtain ⟨pre,post,hp⟩:=List.append_of_mem hi
      have hic:i<L.length:=(hc.all i).1 (by rw [h.split]; simp [hi])
      have:=(hc.pair pre i (post++k::c') k L[i] o (by rw [h.split,hp]; simp) qP (by simp [hic]) ho).2 (.inr (.inr (.inr ⟨hst,by
       have e:L[i]=oi:=by
        have:=hoi
        simp only [hic,List.getElem?_eq_getElem,Option.some.injEq] at this
        exact this
       rw [e]; exact hpu⟩)))
      exact (nY this).closed h.clos hready
    generalize s.run P w=res at main
    match res,main with
    | .ok (.value v) w',⟨h1,os',fs',h2,h3⟩=>exact next _ _ _ _ _ _ (inv' v os' fs' w' h3 h2 h1)
    | .ok .skip w',⟨h1,os',fs',h2,h3⟩=>exact next _ _ _ _ _ _ (inv' undef os' fs' w' h3 h2 h1)
    | .ok (.enter g args) w',hcall =>
     refine Calls.mono hcall ?_
     rintro e w'' ⟨v,rfl,h1,os',fs',h2,h3⟩
     exact next _ _ _ _ _ _ (inv' v os' fs' w'' h3 h2 h1)
    | .ok (.round l g tmps assign body) w',hcall =>
     refine RoundIn.mono hcall ?_
     rintro e w'' ⟨v,rfl,h1,os',fs',h2,h3⟩
     exact next _ _ _ _ _ _ (inv' v os' fs' w'' h3 h2 h1)
theorem catch_up (hc:j6 L (iE L []) c):∀ (pre:List Nat) {D:Nat→Prop} {vd c':List Nat} {val:Nat→Value} {vf:Fr} {fs:List bA} {os:List Own} {a:Act} {w:World},
  Inv P N L f0 G K c D vd (pre++c') val vf os fs a w→(∀ x,x∈pre→∀ o,L[x]? = some o→dT o.op=false) →
  ∃ val' vf' fs',Inv P N L f0 G K c D (vd++pre) c' val' vf' os fs' a w
 | [],D,vd,c',val,vf,fs,os,a,w,h,_=>⟨val,vf,fs,by simpa using h⟩
 | x::pre,D,vd,c',val,vf,fs,os,a,w,h,hd=>by
  have hx:x<L.length:=(hc.all x).1 (by rw [h.split]; simp)
  obtain ⟨val1,vf1,fs1,h1⟩:=virt_step hc h (show L[x]? = some L[x] by simp [hx]) (hd x qP _ (by simp [hx]))
  obtain ⟨val2,vf2,fs2,h2⟩:=catch_up hc pre (vd:=vd++[x]) h1 (fun y hy=>hd y (by simp [hy]))
  exact ⟨val2,vf2,fs2,by simpa using h2⟩
theorem sim (hc:j6 L (iE L []) c) (hdst:eO N L=true) {Q:iX} (hQ:Q .normal=K):∀ (l:List Nat) (D:Nat→Prop) {vd c':List Nat} {val:Nat→Value} {vf:Fr} {os:List Own} {fs:List bA} {a:Act} {w:World},
  Inv P N L f0 G K c D vd c' val vf os fs a w→(∀ i,i<L.length↔D i∨i∈l)→l.Nodup→(∀ i,i∈l→¬ D i) →
  (∀ pre i post,l=pre++i::post→∀ j,gB .any L j i→D j∨j∈pre)→dK P L.toArray (Qhat N G Q) l a w
 | [],D,vd,c',val,vf,os,fs,a,w,h,hall,_,_,_=>by
  have hc':c'=[]:=by
   cases c' with
   | nil=>rfl
   | cons x r =>
    exfalso
    have hx:x∈c:=by rw [h.split]; simp
    have:=h.sub x (((hall x).1 ((hc.all x).1 hx)).resolve_right qP)
    have hnod:=hc.nodup
    rw [h.split,List.nodup_append] at hnod
    exact hnod.2.2 x this x qP rfl
  subst hc'
  have hv:=h.vc
  refine ⟨G,Ext.refl G,vf,os,fs,⟨h.defers,h.size,fun t v ht=>h.act t v ?_⟩,h.st,by rw [hQ]; exact hv⟩
  have hD:∀ j,j∈vd→D j:=fun j hj=>((hall j).1 ((hc.all j).1 (by rw [h.split]; simp [hj]))).resolve_right qP
  rcases h.virt t v ht with ⟨j,o,h1,h2,h3,h4⟩ | ⟨h1,h2⟩
  ·exact .inl ⟨j,o,hD j h1,h2,h3,h4⟩
  ·exact .inr ⟨h1,fun j o hj=>h2 j o (h.sub j hj)⟩
 | i::rest,D,vd,c',val,vf,os,fs,a,w,h,hall,hnod,hdis,hbef=>by
  have hi:i<L.length:=(hall i).2 (.inr qP)
  have ho:L[i]? = some L[i]:=by simp [hi]
  have hnD:¬ D i:=hdis i qP
  have hready:∀ j,gB .any L j i→D j:=fun j hj=>(hbef [] i rest rfl j hj).resolve_right qP
  have nx:∀ {vd c':List Nat} {val:Nat→Value} {vf:Fr} {os:List Own} {fs:List bA} {a:Act} {w:World},
    Inv P N L f0 G K c (fun x=>D x∨x=i) vd c' val vf os fs a w→dK P L.toArray (Qhat N G Q) rest a w:=by
   intro vd c' val vf os fs a w h'
   refine sim hc hdst hQ rest (fun x=>D x∨x=i) h' (fun x=>?_) (List.nodup_cons.1 hnod).2 (fun x hx hx'=>?_) (fun pre x post hp j hj=>?_)
   ·rw [hall x,List.mem_cons]
    constructor
    ·rintro (h | h | h)
     ·exact .inl (.inl h)
     ·exact .inl (.inr h)
     ·exact .inr h
    ·rintro ((h | h) | h)
     ·exact .inl h
     ·exact .inr (.inl h)
     ·exact .inr (.inr h)
   ·rcases hx' with hx' | rfl
    ·exact hdis x (by simp [hx]) hx'
    ·exact (List.nodup_cons.1 hnod).1 hx
   ·rcases hbef (i::pre) x post (by rw [hp]; rfl) j hj with hj' | hj'
    ·exact .inl (.inl hj')
    ·rcases List.mem_cons.1 hj' with rfl | hj'
     ·exact .inl (.inr rfl)
     ·exact .inr hj'
  by_cases hiv:i∈vd
  ·exact do_pend hc hdst h ho hiv hnD hready fun a' h'=>nx h'
  ·have hic:i∈c:=(hc.all i).2 hi
   rw [h.split] at hic
   obtain ⟨pre,post,hp⟩:=List.append_of_mem ((List.mem_append.1 hic).resolve_left hiv)
   have hpre:∀ x,x∈pre→∀ o,L[x]? = some o→dT o.op=false:=by
    intro x hx o hox
    cases hd:dT o.op with
    | false=>rfl
    | true =>
     exfalso
     obtain ⟨p1,p2,hp2⟩:=List.append_of_mem hx
     have:=(hc.pair (vd++p1) x (p2++i::post) i o L[i] (by rw [h.split,hp,hp2]; simp) qP hox ho).2 (.inr (.inr (.inl hd)))
     have hDx:=(nY this).closed h.clos hready
     have hxv:=h.sub x hDx
     have hn:=hc.nodup
     rw [h.split,List.nodup_append] at hn
     exact hn.2.2 x hxv x (by rw [hp]; simp [hx]) rfl
   rw [hp] at h
   obtain ⟨val1,vf1,fs1,h1⟩:=catch_up hc pre h hpre
   cases hdyn:dT L[i].op with
   | false =>
    obtain ⟨val2,vf2,fs2,h2⟩:=virt_step hc h1 ho hdyn
    exact do_pend hc hdst h2 ho qP hnD hready fun a' h'=>nx h'
   | true=>exact do_dyn hc hdst h1 ho hdyn hnD hready fun _ _ _ _ _ _ h'=>nx h'
end
theorem bC {P:Program} {N id:Nat} {L:List Oper} {f:Fr} {os:List Own} {fs:List bA} {K:jD} (c g:List Nat) (hok:drawOK L c g=true) (hdst:eO N L=true)
  (k:VCops P true L (g8 L c) f os fs K):DrawK P N id L f os fs K:=by
 refine ⟨fun G Q hQ r a w hk hw=>sT fun t=>?_⟩
 have hc:=drawOK_sound hok
 have hord:=schedule_order hok (P.follows .mixedOrders) t
 have hw':Holds G os fs { w with drawn:=w.drawn+1 }:=hw.grow ((Below.refl w.heap.size w).drew)
 refine sim (f0:=f) hc hdst hQ _ (fun _=>False) (vd:=[]) (c':=c) (val:=fun _=>undef) (vf:=f) (os:=os) (fs:=fs) ?_ (fun i=>by simpa using (hord.all i).symm) hord.nodup (fun _ _ h=>h) (fun pre i post hp j hj=>.inr (hord.before pre i post hp j hj))
 exact ⟨rfl,fun _ h=>h.elim,fun _ h=>h.elim,hk.defers,hk.size,fun t v ht=>hk.holds t v (by
  rcases ht with ⟨_,_,h,_⟩ | h
  ·exact h.elim
  ·exact h.1),fun t v ht=>.inr ⟨ht,fun j o hj=>by simp at hj⟩,fun k o hk=>by simp at hk,hw',k⟩
theorem i64_eq {a b:Int} (h:a=b):some (Value.int .i64 a)=some (Value.int .i64 b):=by rw [h]
theorem u64_eq {a b:Int} (h:a=b):some (Value.int .u64 a)=some (Value.int .u64 b):=by rw [h]
theorem ext_rule {P:Program} {d:Bool} {g:FuncId} {args:List Value} {os:List Own} {fs:List bA} {K:cE} (v:Value) (h:∀ w,(callFunc g args.toArray).run P w=.ok (.value v) w) (k:K v os fs) :
  CallK P d (.func (.func g) #[] #[]) args os fs K:=by
 have key:Det P (do let x ← Deferred.ofValue (.func (.func g) #[] #[]) args.toArray; invoke x.target x.args) os fs K:=by
  refine fun G w hw=>⟨v,fs,fun w' _=>?_,k,hw⟩
  simp only [Deferred.ofValue,pure_bind,invoke,Array.empty_append,Array.append_empty]
  exact h w'
 exact ⟨key.grw.dyn,fun _=>key.grw⟩
class TAdd64 (P:Program) (g:FuncId):Prop where
 run:∀ (x y c:Nat),c≤1→∀ w,(callFunc g #[.int .u64 x,.int .u64 y,.int .u64 c]).run P w =
  .ok (.value (.tuple #[.int .u64 (((x+y+c)%18446744073709551616:Nat):Int),.int .u64 (((x+y+c)/18446744073709551616:Nat):Int)])) w
theorem TAdd64.mk' {P : Program} {g : FuncId} {fn : Func} (hf : P.funcs[g]? = some fn) (hname : (fn.name == "runtime.NumGoroutine") = false)
  (hb:fn.body.isNone=true) (hn:Extern.findNext fn=none) (he:Extern.find fn=some add64Entry):TAdd64 P g:=⟨fun x y c hc w=>by
 rw [run_callFunc_extern hf hname hb hn he,run_add64 x y c qN qN qN qN]
 simp only [Result.andThen]
 congr 5 <;> omega⟩
def sub64Entry:Array Value→Sem Value:=fun args=>do
 let (x, y, b) ← Extern.MathBitsCarry.three "Sub64" args
 pure (Extern.MathBitsCarry.pair ((x+Extern.MathBitsCarry.m64 - y - b)%Extern.MathBitsCarry.m64) (if x<y+b then 1 else 0))
theorem run_sub64 {P:Program} (x y b:Nat) (hb:b≤1) (w:World) :
  (sub64Entry #[.int .u64 x,.int .u64 y,.int .u64 b]).run P w =
   .ok (.tuple #[.int .u64 (((x+18446744073709551616 - y - b)%18446744073709551616:Nat):Int),.int .u64 ((if x<y+b then 1 else 0:Nat):Int)]) w:=by
 have:b=0∨b=1:=by omega
 rcases this with rfl | rfl <;> rfl
class TSub64 (P:Program) (g:FuncId):Prop where
 run:∀ (x y b:Nat),b≤1→∀ w,(callFunc g #[.int .u64 x,.int .u64 y,.int .u64 b]).run P w =
  .ok (.value (.tuple #[.int .u64 (((x+18446744073709551616 - y - b)%18446744073709551616:Nat):Int),.int .u64 ((if x<y+b then 1 else 0:Nat):Int)])) w
theorem TSub64.mk' {P : Program} {g : FuncId} {fn : Func} (hf : P.funcs[g]? = some fn) (hname : (fn.name == "runtime.NumGoroutine") = false)
  (hb:fn.body.isNone=true) (hn:Extern.findNext fn=none) (he:Extern.find fn=some sub64Entry):TSub64 P g:=⟨fun x y b hb' w=>by
 rw [run_callFunc_extern hf hname hb hn he,run_sub64 x y b hb']
 rfl⟩
theorem iC {P:Program} {d:Bool} {g:FuncId} [h:TAdd64 P g] {x y c:Int} {os:List Own} {fs:List bA} {K:cE} (x' y' c':Nat) (hx:x=x') (hy:y=y') (hc:c=c') (h1:c'≤1)
  (k:K (.tuple #[.int .u64 (((x'+y'+c')%18446744073709551616:Nat):Int),.int .u64 (((x'+y'+c')/18446744073709551616:Nat):Int)]) os fs) :
  CallK P d (.func (.func g) #[] #[]) [.int .u64 x,.int .u64 y,.int .u64 c] os fs K:=by
 subst hx hy hc
 exact ext_rule _ (fun w=>h.run x' y' c' h1 w) k
theorem n6 {P:Program} {d:Bool} {g:FuncId} [h:TSub64 P g] {x y c:Int} {os:List Own} {fs:List bA} {K:cE} (x' y' c':Nat) (hx:x=x') (hy:y=y') (hc:c=c') (h1:c'≤1)
  (k:K (.tuple #[.int .u64 (((x'+18446744073709551616 - y' - c')%18446744073709551616:Nat):Int),.int .u64 ((if x'<y'+c' then 1 else 0:Nat):Int)]) os fs) :
  CallK P d (.func (.func g) #[] #[]) [.int .u64 x,.int .u64 y,.int .u64 c] os fs K:=by
 subst hx hy hc
 exact ext_rule _ (fun w=>h.run x' y' c' h1 w) k
theorem o3 {P:Program} {t e:TypeId} {size:Nat} (ht:TSl P t e size) (a:Option Addr) (n c:Nat) (w:World):(Op.equal t (.slice a n c) (.slice none 0 0)).run P w=.ok a.isNone w:=by
 have h:∀ d,(Op.equalIn (d+1) t (.slice a n c) (.slice none 0 0)).run P w=.ok a.isNone w:=fun d=>by
  rw [Op.equalIn,Sem.run_bind,run_underlying ht.und]
  cases a <;> rfl
 exact h 9999
theorem sE {P:Program} {t e:TypeId} {size size' n:Nat} [ht:TSl P t e size'] {x y:Operand} {v:Value} {el:Nat→Dat} {os:List Own} {fs:List bA} {K:cE} (hm:(v,.sl size n el)∈fs)
  (h1:n=0→K (.bool true) os fs) (h2:K (.bool false) os fs):pC P .eql t x y v (.slice none 0 0) os fs K:=by
 refine ⟨fun G w hw=>?_⟩
 obtain ⟨a,c,rfl,h3,h4,h5,h6⟩:=(hw.facts _ hm).sl
 have hrun:∀ w',(do eqGuard .eql t x y (.slice a n c) (.slice none 0 0); binOp .eql t (.slice a n c) (.slice none 0 0):Sem Value).run P w'=.ok (.bool a.isNone) w':=fun w'=>by
  have h:(binOp .eql t (.slice a n c) (.slice none 0 0))=(do pure (.bool (← Op.equal t (.slice a n c) (.slice none 0 0)))):=rfl
  have hg:(eqGuard .eql t x y (.slice a n c) (.slice none 0 0)).run P w'=.ok () w':=rfl
  rw [Sem.run_bind,hg,Result.andThen_ok,h,Sem.run_bind,o3 ht,Result.andThen_ok,Sem.run_pure]
 refine ⟨_,fs,fun w' _=>dH (hrun w'),?_,hw⟩
 cases a with
 | none=>exact h1 (h5 rfl).1
 | some b=>exact h2
class TStr2 (P:Program) (t:TypeId) (z0 z1:outParam Value):Prop where
 und:∃ fs f0 f1,P.underlying t=some (.struct fs)∧fs = #[f0,f1]∧f0.offset=0∧f1.offset=1∧(P.info? f0.type).map (·.size)=some 1∧(P.info? f1.type).map (·.size)=some 1
 zero:∃ i,P.info? t=some i∧i.zero=some (.agg #[z0,z1])
theorem build_run2 {P:Program} {t:TypeId} {z0 z1 a b:Value} (ht:TStr2 P t z0 z1) (ha:a.cells = #[a]) (hb:b.cells = #[b]) (w:World) :
  (Instr.build t #[(0,a),(1,b)]).run P w=.ok (.agg #[a,b]) w:=by
 obtain ⟨fs,f0,f1,h1,rfl,h3,h4,h5,h6⟩:=ht.und
 obtain ⟨i,h7,h8⟩:=ht.zero
 simp [Instr.build,zeroValue,typeInfo,h7,h8,run_underlying h1,dB h5,dB h6,h3,h4,Instr.fill,ha,hb,show (Value.agg #[z0,z1]).cells = #[z0,z1] from rfl]
theorem build_run0 {P:Program} {t:TypeId} {z0 z1:Value} (ht:TStr2 P t z0 z1) (w:World):(Instr.build t #[]).run P w=.ok (.agg #[z0,z1]) w:=by
 obtain ⟨fs,f0,f1,h1,rfl,h3,h4,h5,h6⟩:=ht.und
 obtain ⟨i,h7,h8⟩:=ht.zero
 simp [Instr.build,zeroValue,typeInfo,h7,h8,run_underlying h1,dB h5,dB h6,h3,h4,Instr.fill,Value.cells]
def Dat.flat:Dat→Bool
 | .cat _ _=>false
 | _=>true
theorem RdC.single {S:Nat→Prop} {w:World} {d:Dat} {cs:List Value} (hd:d.flat=true) (h:RdC S w d cs):∃ v,cs=[v]∧v.cells = #[v]∧oA d cs=v:=by
 cases d with
 | one v=>obtain ⟨rfl,h2⟩:=h; exact ⟨v,rfl,Array.toList_inj.1 (lO h2),rfl⟩
 | sl size n e=>obtain ⟨a,c,rfl,_⟩:=h; exact ⟨_,rfl,rfl,rfl⟩
 | ptr d=>obtain ⟨r,o,cs',rfl,_⟩:=h; exact ⟨_,rfl,rfl,rfl⟩
 | cat a b=>simp [Dat.flat] at hd
 | mp n k e=>obtain ⟨r,es,clock,rfl,_⟩:=h; exact ⟨_,rfl,rfl,rfl⟩
 | lp l=>exact False.elim h
theorem build2 {P:Program} {t:TypeId} {z0 z1 a b:Value} [ht:TStr2 P t z0 z1] {da db:Dat} {os:List Own} {fs:List bA} {K:cE} (ha:Knw os fs a da) (hb:Knw os fs b db) (fa:da.flat=true) (fb:db.flat=true)
  (k:∀ v,K v os ((v,.cat da db)::fs)):oV P t [(0,a),(1,b)] os fs K:=by
 refine ⟨fun G w hw=>?_⟩
 obtain ⟨ca,a1,a2⟩:=ha G w hw
 obtain ⟨cb,b1,b2⟩:=hb G w hw
 obtain ⟨va,ha1,ha2,ha3⟩:=RdC.single fa a1
 obtain ⟨vb,hb1,hb2,hb3⟩:=RdC.single fb b1
 rw [ha3] at a2
 rw [hb3] at b2
 subst a2 b2
 exact ⟨_,_,fun w' _=>dH (build_run2 ht ha2 hb2 w'),k _,hw.put ⟨[a,b],⟨ca,cb,by simp [ha1,hb1],a1,b1⟩,rfl⟩⟩
theorem build0 {P:Program} {t:TypeId} {z0 z1:Value} [ht:TStr2 P t z0 z1] {da db:Dat} {os:List Own} {fs:List bA} {K:cE} (hz:∀ S w,RdC S w (.cat da db) [z0,z1])
  (k:∀ v,K v os ((v,.cat da db)::fs)):oV P t [] os fs K :=
 ⟨fun _ _ hw=>⟨_,_,fun w' _=>dH (build_run0 ht w'),k _,hw.put ⟨[z0,z1],hz _ _,rfl⟩⟩⟩
theorem nK {P:Program} {ts:List TypeId} {ty:TypeId} {k:IntKind} {x y:Int} {os:List Own} {fs:List bA} {K:cE} (h:K (.int k (max x y)) os fs):MaxK P true ts ty [.int k x,.int k y] os fs K :=
 ⟨dD _ (fun w=>by
  simp only [Builtin.max_,List.foldlM,Builtin.max2]
  have:(if y > x then y else x)=max x y:=by omega
  simp [this]) h⟩
theorem gJ {P:Program} {ts:List TypeId} {ty:TypeId} {k:IntKind} {x y:Int} {os:List Own} {fs:List bA} {K:cE} (h:K (.int k (min x y)) os fs):MaxK P false ts ty [.int k x,.int k y] os fs K :=
 ⟨dD _ (fun w=>by
  simp only [Builtin.min_,List.foldlM,Builtin.min2]
  have:(if y<x then y else x)=min x y:=by omega
  simp [this]) h⟩
theorem qM {p:Prop} (h:p:=by repeat (first | exact List.Mem.head _ | apply List.Mem.tail)):p:=h
theorem qS {p:Prop} (h:p:=by repeat (first | exact bP _ | refine aX (by repeat (first | exact List.Mem.head _ | apply List.Mem.tail)) ?_)):p:=h
theorem qF {p:Prop} (h:p:=by repeat (first | exact trivial | refine ⟨rfl,?_⟩ | refine ⟨i64_eq (by first | omega | (simp only; omega)),?_⟩ | refine ⟨u64_eq (by first | omega | (simp only; omega)),?_⟩)):p:=h
theorem qI {p:Prop} (h:p:=by first | exact ⟨by omega,by omega⟩ | (simp only [inK]; omega)):p:=h
theorem qO {p:Prop} (h:p:=by first | omega | (simp only; omega)):p:=h
theorem qD {p:Prop} (h:p:=by intro F hF; repeat (first | exact hF | apply List.Mem.tail)):p:=h
theorem dS {os os':List Own} {fs fs':List bA} (h:Seals (eE os 0) fs os' fs'):Seals os fs os' fs':=aM (aV 0 _ _) h
theorem cF {P:Program} {d:Bool} {g:FuncId} {args:List Value} {os:List Own} {fs cfs:List bA} {K:cE} {R:Value→List Own→List bA→Prop} (hm:aY P g args cfs R) (k:∀ v os' fs',R v os' fs'→K v (os'++os) (fs'++fs)) (hsub:Sub cfs fs:=by repeat (first | exact bP _ | refine aX (by repeat (first | exact List.Mem.head _ | apply List.Mem.tail)) ?_)):CallK P d (.func (.func g) #[] #[]) args os fs K:=bN hm (aT _ _) hsub k
theorem mV {P : Program} {g : FuncId} {fn : Func} {c : Code} {args : List Value} {fs : List bA} {R : Value → List Own → List bA → Prop} (hf : P.funcs[g]? = some fn) (h : VC P fn.ntmps c (argF 0 args) [] fs (retQ P fn R)) (hname : (fn.name == "runtime.NumGoroutine") = false := by kernel_rfl) (hb : fn.body = some c := by exact rfl) (hok : fH fn.ntmps c = true := by kernel_rfl) (hn : args.length ≤ fn.ntmps := by exact Nat.le_of_ble_eq_true rfl) : aY P g args fs R := meets_of_vc hf hname hb hok hn h
theorem cG {P:Program} {d:Bool} {g:FuncId} {args:List Value} {os:List Own} {fs cfs:List bA} {K:cE} {D:Dat} (hm:aY P g args cfs (fun r os fs=>os=[]∧fs=[(r,D)])) (k:∀ v,K v os ((v,D)::fs)) (hsub:Sub cfs fs:=by repeat (first | exact bP _ | refine aX (by repeat (first | exact List.Mem.head _ | apply List.Mem.tail)) ?_)):CallK P d (.func (.func g) #[] #[]) args os fs K:=bN hm (aT _ _) hsub fun v _ _ ⟨a,b⟩=>by subst a b; exact k v
theorem cH {P:Program} {d:Bool} {g:FuncId} {args:List Value} {os:List Own} {fs cfs:List bA} {K:cE} {V:Value} (hm:aY P g args cfs (fun r os fs=>os=[]∧fs=[]∧r=V)) (k:K V os fs) (hsub:Sub cfs fs:=by repeat (first | exact bP _ | refine aX (by repeat (first | exact List.Mem.head _ | apply List.Mem.tail)) ?_)):CallK P d (.func (.func g) #[] #[]) args os fs K:=bN hm (aT _ _) hsub fun v _ _ ⟨a,b,c⟩=>by subst a b c; exact k
theorem gE {α:Type _} {l:List α} {i:Nat} {a:α}:l.getD i a=l[i]?.getD a:=List.getD_eq_getElem?_getD
def Lim (l:List Nat):Prop:=∀ x,x∈l→x<18446744073709551616
def nv:List Nat→Nat
 | []=>0
 | x::r=>x+18446744073709551616*nv r
def mR:List Nat→List Nat
 | []=>[]
 | x::r=>match mR r with
  | []=>if x=0 then [] else [x]
  | y::s=>x::y::s
def b9 (n:Nat):List Nat :=
 if n=0 then [] else (n%18446744073709551616)::b9 (n/18446744073709551616)
termination_by n
decreasing_by omega
theorem dU:b9 0=[]:=by unfold b9; simp
theorem gS {n:Nat} (h:n≠0):b9 n=(n%18446744073709551616)::b9 (n/18446744073709551616):=by rw [b9]; simp [h]
theorem dN (n:Nat):nv (b9 n)=n:=by
 induction n using Nat.strongRecOn with
 | _ n ih =>
  by_cases h:n=0
  ·subst h; simp [dU,nv]
  ·rw [gS h,nv,ih _ qN]; omega
theorem cK (n:Nat):Lim (b9 n):=by
 induction n using Nat.strongRecOn with
 | _ n ih =>
  by_cases h:n=0
  ·subst h; simp [dU,Lim]
  ·rw [gS h]
   intro x hx
   rcases List.mem_cons.1 hx with rfl | hx
   ·omega
   ·exact ih _ qN x hx
theorem Lim.tail {x:Nat} {l:List Nat} (h:Lim (x::l)):Lim l:=fun y hy=>h y (by simp [hy])
theorem Lim.head {x:Nat} {l:List Nat} (h:Lim (x::l)):x<18446744073709551616:=h x qP
theorem Lim.take {l:List Nat} (h:Lim l) (k:Nat):Lim (l.take k):=fun x hx=>h x (List.mem_of_mem_take hx)
theorem Lim.drop {l:List Nat} (h:Lim l) (k:Nat):Lim (l.drop k):=fun x hx=>h x (List.mem_of_mem_drop hx)
theorem Lim.append {l m:List Nat} (h:Lim l) (h':Lim m):Lim (l++m):=fun x hx=>(List.mem_append.1 hx).elim (h x) (h' x)
theorem Lim.get {l:List Nat} (h:Lim l) (i:Nat):l.getD i 0<18446744073709551616:=by
 by_cases hi:i<l.length
 ·simp only [gE,List.getElem?_eq_getElem hi,Option.getD_some]; exact h _ (List.getElem_mem hi)
 ·simp [gE,List.getElem?_eq_none (Nat.le_of_not_lt hi)]
theorem Lim.nil:Lim []:=fun _ h=>by cases h
theorem Lim.cons {x:Nat} {l:List Nat} (h:x<18446744073709551616) (h':Lim l):Lim (x::l):=fun y hy=>by
 rcases List.mem_cons.1 hy with rfl | hy
 ·exact h
 ·exact h' y hy
theorem d9 {l:List Nat} (h:Lim l):mR l=b9 (nv l):=by
 induction l with
 | nil=>simp [mR,nv,dU]
 | cons x r ih =>
  have ih:=ih h.tail
  have hx:=h.head
  simp only [mR,nv,ih]
  by_cases hr:nv r=0
  ·rw [hr,dU]
   by_cases hx0:x=0
   ·simp [hx0,dU]
   ·simp only [hx0,if_false]
    rw [gS qN]
    have h1:(x+18446744073709551616*0)%18446744073709551616=x:=by omega
    have h2:(x+18446744073709551616*0)/18446744073709551616=0:=by omega
    rw [h1,h2,dU]
  ·rw [gS (n:=x+18446744073709551616*nv r) qN]
   have h1:(x+18446744073709551616*nv r)%18446744073709551616=x:=by omega
   have h2:(x+18446744073709551616*nv r)/18446744073709551616=nv r:=by omega
   rw [h1,h2]
   rw [gS hr]
theorem m5 (l:List Nat):(mR l).length≤l.length:=by
 induction l with
 | nil=>simp [mR]
 | cons x r ih =>
  simp only [mR]
  split
  ·split <;> simp
  ·rename_i h; rw [h] at ih; simp at ih ⊢; omega
theorem tV (l:List Nat):mR (l++[0])=mR l:=by
 induction l with
 | nil=>simp [mR]
 | cons x r ih=>simp only [List.cons_append,mR,ih]
theorem trimL_snoc_ne (l:List Nat) {x:Nat} (h:x≠0):mR (l++[x])=l++[x]:=by
 induction l with
 | nil=>simp [mR,h]
 | cons y r ih =>
  simp only [List.cons_append,mR,ih]
  cases hr:r++[x] with
  | nil=>simp at hr
  | cons a b=>rfl
theorem tX {l:List Nat} {k:Nat} (h:k<l.length):l.take (k+1)=l.take k++[l.getD k 0]:=by
 rw [List.take_add_one]
 simp [gE,List.getElem?_eq_getElem h]
theorem kE (l m:List Nat):nv (l++m)=nv l+18446744073709551616^l.length*nv m:=by
 induction l with
 | nil=>simp [nv]
 | cons x r ih =>
  simp only [List.cons_append,nv,ih,List.length_cons,Nat.pow_succ]
  rw [Nat.mul_add,Nat.add_assoc]
  congr 2
  rw [← Nat.mul_assoc,Nat.mul_comm 18446744073709551616]
theorem l9 {l:List Nat} (h:Lim l):nv l<18446744073709551616^l.length:=by
 induction l with
 | nil=>simp [nv]
 | cons x r ih =>
  have ih:=ih h.tail
  have hx:=h.head
  simp only [nv,List.length_cons,Nat.pow_succ]
  have:18446744073709551616*nv r+18446744073709551616≤18446744073709551616*18446744073709551616^r.length:=by
   rw [← Nat.mul_succ]; exact Nat.mul_le_mul_left _ ih
  rw [Nat.mul_comm] at this
  rw [Nat.mul_comm (18446744073709551616^r.length)]
  omega
theorem kI {n:Nat}:b9 n=[]↔n=0:=by
 constructor
 ·intro h
  have:=dN n
  rw [h] at this
  simpa [nv] using this.symm
 ·rintro rfl; exact dU
theorem lims_inj {m n:Nat} (h:b9 m=b9 n):m=n:=by rw [← dN m,h,dN]
theorem e8 {n k:Nat} (h:n<18446744073709551616^k):(b9 n).length≤k:=by
 induction k generalizing n with
 | zero =>
      have:n=0:=by simpa using h
      subst this; simp [dU]
 | succ k ih =>
  by_cases hn:n=0
  ·subst hn; simp [dU]
  ·rw [gS hn,List.length_cons]
   have:n/18446744073709551616<18446744073709551616^k:=by
    rw [Nat.div_lt_iff_lt_mul qN]; rwa [Nat.pow_succ] at h
   have:=ih this
   omega
theorem lims_top {n:Nat} (h:n≠0):∃ l x,b9 n=l++[x]∧x≠0∧x<18446744073709551616:=by
 induction n using Nat.strongRecOn with
 | _ n ih =>
  rw [gS h]
  by_cases h2:n/18446744073709551616=0
  ·exact ⟨[],n%18446744073709551616,by rw [h2,dU]; rfl,by omega,by omega⟩
  ·obtain ⟨l,x,h3,h4,h5⟩:=ih _ qN h2
   exact ⟨(n%18446744073709551616)::l,x,by rw [h3]; rfl,h4,h5⟩
theorem trimL_all_ne {l:List Nat} {k:Nat} (hk:k<l.length) (h:l.getD k 0≠0):mR (l.take (k+1))=l.take (k+1):=by
 rw [tX hk]; exact trimL_snoc_ne _ h
def U (l:List Nat):Dat:=.sl 1 l.length fun i=>.one (.int .u64 (l.getD i 0:Nat))
instance:TSl Tryz.prog 30 22 1:=⟨Tryz.underlying30,by kernel_rfl⟩
instance:TSl Tryz.prog 303 32 2:=⟨Tryz.underlying303,by kernel_rfl⟩
instance:lG Tryz.prog 22:=⟨⟨_,Tryz.underlying22,trivial⟩,by kernel_rfl⟩
instance:lG Tryz.prog 30:=⟨⟨_,Tryz.underlying30,trivial⟩,by kernel_rfl⟩
instance:lG Tryz.prog 303:=⟨⟨_,Tryz.underlying303,trivial⟩,by kernel_rfl⟩
instance:lG Tryz.prog 4:=⟨⟨_,Tryz.underlying4,trivial⟩,by kernel_rfl⟩
instance:lG Tryz.prog 3:=⟨⟨_,Tryz.underlying3,trivial⟩,by kernel_rfl⟩
instance:lG Tryz.prog 2:=⟨⟨_,Tryz.underlying2,trivial⟩,by kernel_rfl⟩
instance:TBool Tryz.prog 4:=⟨Tryz.underlying4⟩
instance:oL Tryz.prog 32 2:=⟨⟨_,Tryz.underlying32,rfl⟩,by kernel_rfl⟩
instance:iU Tryz.prog 32 0 0:=⟨_,_,Tryz.underlying32,rfl,rfl,0,by kernel_rfl⟩
instance:iU Tryz.prog 32 1 1:=⟨_,_,Tryz.underlying32,rfl,rfl,0,by kernel_rfl⟩
theorem rd_false (S:Nat→Prop) (w:World):RdC S w (.one (.bool false)) [.bool false]:=⟨rfl,rfl⟩
theorem rd_nil (S:Nat→Prop) (w:World) (size:Nat) (e:Nat→Dat):RdC S w (.sl size 0 e) [.slice none 0 0] :=
 ⟨none,0,rfl,Nat.le_refl _,Nat.zero_le _,fun _=>⟨rfl,rfl⟩,fun b h=>by simp at h,fun i hi=>absurd hi (Nat.not_lt_zero _)⟩
theorem info_u64:(Tryz.prog.info? 22).map (fun i=>(i.zero,i.size,i.bytes))=some (some (.int .u64 0),1,8):=by kernel_rfl
theorem info_i64:(Tryz.prog.info? 2).map (fun i=>(i.zero,i.size,i.bytes))=some (some (.int .i64 0),1,8):=by kernel_rfl
theorem pW:(Tryz.prog.info? 32).map (fun i=>(i.zero,i.size,i.bytes))=some (some (.agg #[.bool false,.slice none 0 0]),2,32):=by kernel_rfl
theorem info_sl:(Tryz.prog.info? 303).map (fun i=>(i.zero,i.size,i.bytes))=some (some (.slice none 0 0),1,24):=by kernel_rfl
theorem fE {P:Program} {t:TypeId} {z:Value} {s b:Nat} (h:(P.info? t).map (fun i=>(i.zero,i.size,i.bytes))=some (some z,s,b)) :
  ∃ i,P.info? t=some i∧i.size=s∧i.bytes=b∧i.zero=some z:=by
 cases hi:P.info? t with
 | none=>simp [hi] at h
 | some i=>simp [hi] at h; exact ⟨i,rfl,h.2.1,h.2.2,h.1⟩
theorem tel {P:Program} {t:TypeId} {z:Value} {s b:Nat} (h:(P.info? t).map (fun i=>(i.zero,i.size,i.bytes))=some (some z,s,b)) (hz:z.cells.size=s) (hs:0<s):TEl P t s b:=by
 obtain ⟨i,h1,h2,h3,h4⟩:=fE h
 exact ⟨i,z,h1,h2,h3,h4,hz,hs⟩
theorem mQ {P:Program} {t:TypeId} {z:Value} {s b:Nat} {d:Dat} (h:(P.info? t).map (fun i=>(i.zero,i.size,i.bytes))=some (some z,s,b)) (hz:∀ S w,RdC S w d z.cells.toList):iD P t d:=by
 obtain ⟨i,h1,h2,h3,h4⟩:=fE h
 exact ⟨i,z,h1,h4,hz⟩
instance:TEl Tryz.prog 22 1 8:=tel info_u64 rfl qE
instance:TEl Tryz.prog 2 1 8:=tel info_i64 rfl qE
instance:TEl Tryz.prog 32 2 32:=tel pW rfl qE
instance:TEl Tryz.prog 303 1 24:=tel info_sl rfl qE
instance:iD Tryz.prog 22 (.one (.int .u64 0)):=mQ info_u64 fun _ _=>⟨rfl,rfl⟩
instance (size:Nat) (e:Nat→Dat):iD Tryz.prog 303 (.sl size 0 e):=mQ info_sl fun S w=>rd_nil S w size e
instance (size:Nat) (e:Nat→Dat):iD Tryz.prog 32 (.cat (.one (.bool false)) (.sl size 0 e)):=mQ pW fun S w=>⟨[.bool false],[.slice none 0 0],rfl,rd_false S w,rd_nil S w size e⟩
instance:TStr2 Tryz.prog 32 (.bool false) (.slice none 0 0):=⟨⟨_,_,_,Tryz.underlying32,rfl,rfl,rfl,by kernel_rfl,by kernel_rfl⟩,by
 obtain ⟨i,h1,_,_,h4⟩:=fE pW
 exact ⟨i,h1,h4⟩⟩
instance:TAdd64 Tryz.prog 147:=TAdd64.mk' Tryz.func147 qK qK qK qK
def UE (l:List Nat):Nat→Dat:=fun i=>.one (.int .u64 (l.getD i 0:Nat))
def j8 (v:Value) (l:List Nat):Own:=bL v 1 l.length (UE l)
theorem Dyn.sealed {P:Program} {s:Sem Next} {os:List Own} {fs:List bA} {K:cE} (h:Dyn P s os fs fun v os' fs'=>∃ os'' fs'',Seals os' fs' os'' fs''∧K v os'' fs''):Dyn P s os fs K :=
 fun G w hw=>(h G w hw).mono fun _ w' ⟨_,_,⟨o2,f2,hs,hk⟩,hw'⟩=>⟨o2,f2,hk,hs G w' hw'⟩
theorem Grw.sealed {P:Program} {s:Sem Next} {os:List Own} {fs:List bA} {K:cE} (h:Grw P s os fs fun v os' fs'=>∃ os'' fs'',Seals os' fs' os'' fs''∧K v os'' fs''):Grw P s os fs K :=
 fun G w hw=>(h G w hw).mono fun _ w' ⟨hb,_,_,⟨o2,f2,hs,hk⟩,hw'⟩=>⟨hb,o2,f2,hk,hs G w' hw'⟩
theorem k8 {os:List Own}:∀ {pos:Nat} {o x:Own},bQ os pos=some o→bQ (setOwn os pos x) pos=some x:=by
 induction os with
 | nil=>intro pos o x h; simp [bQ] at h
 | cons y r ih =>
  intro pos o x h
  cases pos with
  | zero=>rfl
  | succ pos=>exact ih h
theorem set_set {os:List Own}:∀ {pos:Nat} {x y:Own},setOwn (setOwn os pos x) pos y=setOwn os pos y:=by
 induction os with
 | nil=>intro pos x y; rfl
 | cons z r ih =>
  intro pos x y
  cases pos with
  | zero=>rfl
  | succ pos=>simp only [setOwn,ih]
theorem set_same {os:List Own}:∀ {pos:Nat} {x:Own},bQ os pos=some x→setOwn os pos x=os:=by
 induction os with
 | nil=>intro pos x h; rfl
 | cons z r ih =>
  intro pos x h
  cases pos with
  | zero=>simp only [bQ,Option.some.injEq] at h; rw [h]; rfl
  | succ pos=>simp only [setOwn,ih (show bQ r pos=some x from h)]
theorem eY {l:List Nat} {i j x:Nat} (h:j<l.length):(l.set j x).getD i 0=if i=j then x else l.getD i 0:=by
 simp only [gE,List.getElem?_set]
 by_cases hij:j=i
 ·subst hij; simp [h]
 ·have:i≠j:=fun e=>hij e.symm
  simp [hij,this]
theorem fS {P:Program} {ty:TypeId} {v:Value} {l:List Nat} {j:Nat} {y:Int} {os:List Own} {fs:List bA} {K:cE} [ht:lG P ty] (pos:Nat) (h:bQ os pos=some (j8 v l)) (x:Nat) (hx:y=(x:Int))
  (hj:j<l.length) (k:K undef (setOwn os pos (j8 v (l.set j x))) fs):oT P ty (jP v (j*1)) (.int .u64 y) os fs K:=by
 subst hx
 have h1:=rA (P:=P) (ty:=ty) (x:=.int .u64 (x:Int)) (d:=.one (.int .u64 (x:Int))) (fs:=fs)
  (K:=fun u os' fs'=>∃ os'' fs'',Seals os' fs' os'' fs''∧K u os'' fs'') pos h j hj rfl ht.size (dC rfl)
 refine ⟨Dyn.sealed (h1 ⟨_,_,?_,k⟩).out⟩
 have h2:=Seals.own_cong (os:=setOwn os pos (bL v 1 l.length (upd (UE l) j (.one (.int .u64 (x:Int)))))) (fs:=fs) pos (n':=(l.set j x).length) (UE (l.set j x)) (k8 h) qP fun i hi=>by
  simp only [upd,UE,eY hj]
  by_cases hij:i=j
  ·simp [hij]
  ·simp [hij]
 rw [set_set] at h2
 exact h2
theorem rY {P:Program} {t e:TypeId} {bytes:Nat} [ht:TSl P t e 1] [he:TEl P e 1 bytes] [hz:iD P e (.one (.int .u64 0))] {k1 k2:IntKind} {x y:Int} {os:List Own} {fs:List bA} {K:cE}
  (n:Nat) (hx:x=(n:Int)) (hy:y=(n:Int)) (hb:bytes*n≤281474976710656) (hn:n≤9223372036854775807)
  (k:∀ v,eQ v→K v (j8 v (List.replicate n 0)::os) fs):MakeK P t (.int k1 x) (.int k2 y) os fs K:=by
 have h1:=uQ (P:=P) (t:=t) (d:=.one (.int .u64 0)) (os:=os) (fs:=fs) (k1:=k1) (k2:=k2) (K:=fun u os' fs'=>∃ os'' fs'',Seals os' fs' os'' fs''∧K u os'' fs'') n hx hy hb hn
 refine ⟨Grw.sealed (h1 fun v hv=>⟨_,_,?_,k v hv⟩).out⟩
 exact Seals.own_cong (os:=bL v 1 n (fun _=>.one (.int .u64 0))::os) (fs:=fs) 0 (n':=(List.replicate n 0).length) (UE (List.replicate n 0)) rfl qP fun i hi=>by
  simp [UE,gE,hi]
theorem append_U {P:Program} {t ty e:TypeId} {bytes:Nat} {a b:Value} {l m:List Nat} {os:List Own} {fs:List bA} {K:cE} [ht:TSl P t e 1] [he:TEl P e 1 bytes] (pos:Nat)
  (h:bQ os pos=some (j8 a l)) (hs:eQ a) (hb:Knw os fs b (U m)) (hm:l.length+m.length≤9223372036854775807) (hby:(l.length+m.length)*bytes≤140737488355328)
  (k:∀ v,eQ v→K v (setOwn os pos (j8 v (l++m))) fs):AppendK P [t,t] ty a b os fs K:=by
 have h1:=vV (P:=P) (t:=t) (ty:=ty) (K:=fun u os' fs'=>∃ os'' fs'',Seals os' fs' os'' fs''∧K u os'' fs'') pos h hs hb hm hby
 refine ⟨Dyn.sealed (h1 fun v hv=>⟨_,_,?_,k v hv⟩).out⟩
 have h2:=Seals.own_cong (os:=setOwn os pos (bL v 1 (l.length+m.length) (fun i=>if i<l.length then UE l i else .one (.int .u64 (m.getD (i - l.length) 0:Nat))))) (fs:=fs) pos (n':=(l++m).length) (UE (l++m)) (k8 h) qP fun i hi=>by
  simp only [UE,gE]
  by_cases hil:i<l.length
  ·rw [if_pos hil,List.getElem?_append_left hil]
  ·rw [if_neg hil,List.getElem?_append_right qN]
 rw [set_set] at h2
 exact h2
theorem Seals.U {os:List Own} {fs:List bA} (pos:Nat) {v:Value} {l:List Nat} (h:bQ os pos=some (j8 v l)) (hs:eQ v):Seals os fs (eE os pos) ((v,U l)::fs) :=
 Seals.slice pos (UE l) h hs fun _ _=>rfl
theorem Seals.nil_U (os:List Own) (fs:List bA):Seals os fs (j8 (.slice none 0 0) []::os) fs:=dG os fs 1 (UE [])
theorem eP:eQ (.slice none 0 0):=⟨_,_,_,rfl⟩
theorem fV {P:Program} {t e':TypeId} {kk:IntKind} {x:Int} {v:Value} {l:List Nat} {os:List Own} {fs:List bA} {K:cE} [ht:TSl P t e' 1] (pos:Nat)
  (h:bQ os pos=some (j8 v l)) (hs:eQ v) (j:Nat) (hj:x=(j:Int)) (hlt:j<l.length) (k':K (jP v (j*1)) os fs):jE P t v (.int kk x) os fs K :=
 eM pos h hs j hj hlt k'
theorem len_U {P:Program} {t e' ty:TypeId} {size':Nat} {v:Value} {l:List Nat} {os:List Own} {fs:List bA} {K:cE} [ht:TSl P t e' size'] (pos:Nat)
  (h:bQ os pos=some (j8 v l)) (hs:eQ v) (k:l.length≤9223372036854775807→K (.int .i64 l.length) os fs):LenK P [t] ty v os fs K:=nN pos h hs k
theorem kW {P:Program} {t:TypeId} {v:Value} {l:List Nat} {os:List Own} {fs:List bA} {K:cE} [ht:lG P t] (pos:Nat) (h:bQ os pos=some (j8 v l)) (j:Nat)
  (hj:j<l.length) (k':K (.int .u64 (l.getD j 0:Nat)) os fs):pB P t (jP v (j*1)) os fs K:=by
 refine ⟨fun G w hw=>?_⟩
 obtain ⟨x,fs',h1,h2,h3⟩:=(load_elem (P:=P) (t:=t) (K:=fun y os' fs'=>os'=os∧fs'=(y,UE l j)::fs) pos h j hj (show lG P t from ht) (fun y=>⟨rfl,rfl⟩)).out G w hw
 obtain ⟨_,rfl⟩:=h2
 have hx:x=.int .u64 (l.getD j 0:Nat):=(h3.facts (x,UE l j) qP).one
 subst hx
 exact ⟨_,fs,h1,k',hw⟩
theorem empty_U {P:Program} {t e:TypeId} {bytes:Nat} {os:List Own} {fs:List bA} {K:cE} [ht:TSl P t e 1] [he:TEl P e 1 bytes] (k:∀ v,eQ v→K v (j8 v []::os) fs):BuildSliceK P t 0 [] os fs K:=by
 have h1:=gZ (P:=P) (t:=t) (os:=os) (fs:=fs) (K:=fun u os' fs'=>∃ os'' fs'',Seals os' fs' os'' fs''∧K u os'' fs'') (n:=0) [] [] rfl rfl qE qE trivial
 refine ⟨Grw.sealed (h1 fun v hv=>⟨_,_,?_,k v hv⟩).out⟩
 exact Seals.own_cong (os:=bL v 1 0 (fun i=>([]:List Dat).getD i (.one undef))::os) (fs:=fs) 0 (n':=([]:List Nat).length) (UE []) rfl rfl fun i hi=>absurd hi (Nat.not_lt_zero _)
theorem lit_U {P:Program} {t e:TypeId} {bytes:Nat} {y:Int} {os:List Own} {fs:List bA} {K:cE} [ht:TSl P t e 1] [he:TEl P e 1 bytes] (x:Nat) (hx:y=(x:Int)) (k:∀ v,K v os ((v,U [x])::fs)) :
  BuildSliceK P t 1 [(0,.int .u64 y)] os fs K:=by
 subst hx
 have h1:=iQ (P:=P) (t:=t) (os:=os) (fs:=fs) (K:=fun u os' fs'=>∃ os'' fs'',Seals os' fs' os'' fs''∧K u os'' fs'') (n:=1) [.int .u64 (x:Int)] [.one (.int .u64 (x:Int))] rfl rfl qE qE
  ⟨dC rfl,rfl,trivial⟩
 refine ⟨Grw.sealed (h1 fun v=>⟨_,_,?_,k v⟩).out⟩
 refine aM (Seals.add (((cI (List.Mem.head _)).sl_cong fun i hi=>?_):Knw os _ v (U [x]))) (aD (aX (List.Mem.head _) fun F hF=>List.mem_cons_of_mem _ (List.mem_cons_of_mem _ hF)))
 have hi':i<1:=hi
 have:i=0:=by omega
 subst this
 rfl
theorem take_set_succ {l:List Nat} {i x:Nat} (h:i<l.length):(l.set i x).take (i+1)=l.take i++[x]:=by
 rw [List.take_add_one]
 simp [List.take_set_of_le,h]
theorem fL {l:List Nat} {i x:Nat} (h:i<l.length):nv ((l.set i x).take (i+1))=nv (l.take i)+18446744073709551616^i*x:=by
 rw [take_set_succ h,kE]
 have:(l.take i).length=i:=by simp; omega
 rw [this]; simp [nv]
theorem cV (l:List Nat) (i:Nat):nv (l.take (i+1))=nv (l.take i)+18446744073709551616^i*l.getD i 0:=by
 by_cases h:i<l.length
 ·rw [tX h,kE]
  have:(l.take i).length=i:=by simp; omega
  rw [this]; simp [nv]
 ·rw [List.take_of_length_le qN,List.take_of_length_le qN]
  simp [gE,List.getElem?_eq_none (Nat.le_of_not_lt h)]
theorem Lim.set {l:List Nat} (h:Lim l) (i:Nat) {x:Nat} (hx:x<18446744073709551616):Lim (l.set i x):=fun y hy=>by
 rcases List.mem_or_eq_of_mem_set hy with hy | rfl
 ·exact h y hy
 ·exact hx
theorem Lim.replicate (n:Nat):Lim (List.replicate n 0):=fun x hx=>by rw [List.eq_of_mem_replicate hx]; decide
theorem pP {G:Ctx} {os:List Own} {fs:List bA} {w:World} {pos size n:Nat} {v:Value} {d:Nat→Dat} (hw:Holds G os fs w) (h:bQ os pos=some (bL v size n d)) (hs:eQ v) (hsz:0<size) :
  (v=.slice none 0 0∧n=0)∨∃ r cap,v=.slice (some ⟨r,0,none⟩) n cap∧OwnRow (Good G.A os w) G.B w r size n cap d:=by
 rcases hw.own _ (bU h) 0 Nat.zero_lt_one with h1 | h1 | ⟨r,h1,_⟩ | ⟨_,h2,_⟩
 ·exact .inl h1
 ·exact .inr h1
 ·obtain ⟨_,_,_,rfl⟩:=hs; simp [bL] at h1
 ·simp only [bL] at h2; omega
theorem store_part {P:Program} {ty:TypeId} {x v:Value} {k size:Nat} {e:Nat→Dat} {d d':Dat} {os:List Own} {fs:List bA} {K:cE} (pos:Nat) (h:bQ os pos=some (bL v size 1 e)) (hbx:g9 v) (hk:k+d.cells≤size) (hd0:0<d.cells)
  (ht:(P.info? ty).map (·.size)=some d.cells) (hx:Reads os fs x d)
  (hd:∀ S w cs cs',RdC S w (e 0) cs→RdC S w d cs'→RdC S w d' (cs.take k++cs'++cs.drop (k+cs'.length))) (k':K undef (setOwn os pos (bL v size 1 fun _=>d')) fs):oT P ty (jP v k) x os fs K:=by
 obtain ⟨r,rfl⟩:=hbx
 refine ⟨fun G w hw=>?_⟩
 obtain ⟨cx,x1,x2⟩:=hx G w hw
 have hlx:cx.length=d.cells:=dM x1
 have hov:=hw.own _ (bU h) 0 Nat.zero_lt_one
 obtain ⟨r',cap,hr⟩:=hov.row Nat.zero_lt_one
 have hrr:r'=r:=by have:=hr.blk; simp [bL,lR] at this; exact this.symm
 subst hrr
 obtain ⟨b1,b2,b3,cur,t,b4,b5,b6⟩:=hr.row
 obtain ⟨cs,c1,c2,c3⟩:=b6 0 Nat.zero_lt_one
 have hcap:1≤cap:=b2
 have hs:(bL (.pointer (some ⟨r',0,none⟩)) size 1 e).size=size:=rfl
 have hfit:k+cx.length≤cur.size:=by
  have:1*size≤cap*size:=Nat.mul_le_mul_right _ hcap
  rw [b5,hs,hlx]; omega
 have he:jP (.pointer (some ⟨r',0,none⟩)) k=.pointer (some ⟨r',k,none⟩):=by simp [jP,eI]
 rw [he,tS (m7 (cs:=cx) x2 (RdC.oneCells x1) (by rw [hlx]; exact ht) b4 hfit)]
 refine ⟨_,_,k',?_⟩
 have hhas:(bL (.pointer (some ⟨r',0,none⟩)) size 1 e).has r':=⟨0,Nat.zero_lt_one,hr.blk⟩
 refine hw.step h rfl rfl rfl qP (fun q hq hno=>setRow_other w r' q _ fun e'=>hno (e' ▸ hhas)) (fun b hb=>.inl hb) (fun a b c ha hb _ _=>by
  have ha':a<1:=ha
  have hb':b<1:=hb
  omega) fun mono y hy=>?_
 have hy0:y=0:=by have:y<1:=hy; omega
 subst hy0
 have hc1:cap=1:=by
  rcases hov with ⟨h1,h2⟩ | ⟨q,cap',h1,h2⟩ | ⟨q,h1,h2,h3⟩ | ⟨h1,_⟩
  ·simp [bL] at h1
  ·simp [bL] at h1
  ·have:q=r':=by simp [bL] at h1; exact h1.symm
   subst this
   obtain ⟨_,_,_,cur',t',q4,q5,_⟩:=h3
   obtain ⟨rfl,_⟩:=b4.inj q4
   rw [q5] at b5
   exact (Nat.eq_of_mul_eq_mul_right (show 0<(bL (.pointer (some ⟨q,0,none⟩)) size 1 e).size by rw [hs]; omega) b5).symm
  ·simp [bL] at h1
 subst hc1
 refine .inr (.inr (.inl ⟨r',rfl,rfl,b1,Nat.le_refl _,b3,_,t,b4.set (by simp only [List.size_toArray,List.length_append,List.length_take,List.length_drop,Array.length_toList]; omega),?_,fun i hi=>?_⟩))
 ·simp only [List.size_toArray,List.length_append,List.length_take,List.length_drop,Array.length_toList] at hfit ⊢
  rw [b5] at hfit ⊢
  show _=1*size
  simp only [hs] at hfit ⊢
  omega
 ·have hi0:i=0:=by omega
  subst hi0
  have hm:=mono _ cs c1
  have hmx:=mono _ cx x1
  have c2':cs.length=size:=c2
  refine ⟨cs.take k++cx++cs.drop (k+cx.length),hd _ _ _ _ hm hmx,by
   show _=size
   simp only [List.length_append,List.length_take,List.length_drop]; omega,fun j hj=>?_⟩
  rw [List.getElem?_toArray,kZ _ _ _ _ (by simpa using hfit)]
  have hj':j<size:=hj
  have c3':=c3 j hj'
  have c3'':cur[0*size+j]? = cs[j]? := c3'
  rw [Nat.zero_mul,Nat.zero_add] at c3''
  show (if k≤0*size+j∧0*size+j<k+cx.length then cx[0*size+j - k]? else cur.toList[0*size+j]?)=_
  have c4:cur.toList[j]? = cs[j]? := by rw [Array.getElem?_toList]; exact c3''
  rw [Nat.zero_mul,Nat.zero_add,kZ cs cx k j qN,c4]
def catL:List Dat→Dat
 | []=>.one undef
 | [d]=>d
 | d::e::r=>.cat d (catL (e::r))
def offsOK (P:Program):Nat→List (List Value)→List Field→Prop
 | _,[],[]=>True
 | o,z::zs,f::fs=>f.offset=o∧(P.info? f.type).map (·.size)=some z.length∧offsOK P (o+z.length) zs fs
 | _,_,_=>False
class sJ (P:Program) (t:TypeId) (zs:outParam (List (List Value))):Prop where
 und:∃ fs,P.underlying t=some (.struct fs)∧offsOK P 0 zs fs.toList
 zero:∃ i,P.info? t=some i∧i.zero=some (.agg zs.flatten.toArray)
def putL:List (Nat×Value)→List (List Value)→List (List Value)
 | [],zs=>zs
 | (i,v)::r,zs=>putL r (zs.set i v.cells.toList)
theorem flat_set:∀ (zs:List (List Value)) (i:Nat) (c:List Value),i<zs.length→c.length=(zs.getD i []).length →
  (zs.set i c).flatten=zs.flatten.take (zs.take i).flatten.length++c++zs.flatten.drop ((zs.take i).flatten.length+c.length)
 | z::zs,0,c,_,h=>by
  simp only [List.getD_cons_zero] at h
  simp [h]
 | z::zs,i+1,c,hi,h=>by
  have ih:=flat_set zs i c (by simpa using hi) (by simpa using h)
  simp only [List.set_cons_succ,List.flatten_cons,List.take_succ_cons,List.length_append]
  have t1:∀ n,z.take (z.length+n)=z:=fun n=>List.take_of_length_le qN
  have t2:∀ n,z.drop (z.length+n)=[]:=fun n=>List.drop_of_length_le qN
  rw [ih,Nat.add_assoc,List.take_append,List.drop_append,t1,t2]
  simp
theorem fold_put (off:Nat) (v:Value) (cells:List Value) (h:off+v.cells.size≤cells.length) :
  v.cells.zipIdx.foldl (fun cs (x:Value×Nat)=>cs.setIfInBounds (off+x.2) x.1) cells.toArray=(cells.take off++v.cells.toList++cells.drop (off+v.cells.toList.length)).toArray:=by
 have hfold:v.cells.zipIdx.foldl (fun cs (x:Value×Nat)=>cs.setIfInBounds (off+x.2) x.1) cells.toArray=(v.cells.toList.zipIdx).foldl (fun cs (p:Value×Nat)=>cs.setIfInBounds (off+p.2) p.1) cells.toArray:=by
  rw [← Array.foldl_toList,Array.toList_zipIdx]
 rw [hfold]
 obtain ⟨f1,f2⟩:=fold_set off v.cells.toList 0 cells.toArray (by simpa using h)
 apply Array.ext_getElem?
 intro x
 rw [f2 x]
 simp only [List.getElem?_toArray]
 rw [kZ cells v.cells.toList off x (by simpa using h)]
 simp
theorem offs_get {P:Program}:∀ {zs:List (List Value)} {fs:List Field} {o:Nat},offsOK P o zs fs→∀ i,i<zs.length→∃ f,fs[i]? = some f∧f.offset=o+(zs.take i).flatten.length∧(P.info? f.type).map (·.size)=some (zs.getD i []).length
 | z::zs,f::fs,o,h,0,_=>⟨f,rfl,by simp [h.1],by simpa using h.2.1⟩
 | z::zs,f::fs,o,h,i+1,hi=>by
  obtain ⟨g,h1,h2,h3⟩:=offs_get h.2.2 i (by simpa using hi)
  exact ⟨g,by simpa using h1,by rw [h2]; simp [Nat.add_assoc],by simpa using h3⟩
theorem fill_put {place:Nat→Option (Nat×Nat)}:∀ (ps:List (Nat×Value)) (zs:List (List Value)),(∀ i,i<zs.length→place i=some ((zs.take i).flatten.length,(zs.getD i []).length)) →
  (∀ p,p∈ps→p.1<zs.length∧p.2.cells.size=(zs.getD p.1 []).length)→Instr.fill place zs.flatten.toArray ps=some (putL ps zs).flatten.toArray
 | [],_,_,_=>rfl
 | (i,v)::r,zs,hpl,hp=>by
  obtain ⟨hi,hv⟩:=hp (i,v) (List.mem_cons_self ..)
  simp only at hi hv
  have hsz:(zs.take i).flatten.length+v.cells.size≤zs.flatten.length:=by
   have h1:zs.flatten=(zs.take i).flatten++(zs.drop i).flatten:=by rw [← List.flatten_append,List.take_append_drop]
   have h2:zs.drop i=zs.getD i []::zs.drop (i+1):=by
    rw [List.drop_eq_getElem_cons hi]; simp [gE,hi]
   rw [h1,h2,List.length_append,List.flatten_cons,List.length_append]
   omega
  simp only [Instr.fill,hpl i hi]
  rw [if_neg (by simp [hv]; simpa [hv] using hsz),fold_put _ v _ hsz,← flat_set zs i v.cells.toList hi (by simpa using hv)]
  have keep:∀ j,((zs.set i v.cells.toList).getD j []).length=(zs.getD j []).length:=fun j=>by
   simp only [gE,List.getElem?_set]
   split
   ·rename_i e
    subst e
    simpa [gE] using hv
   ·rfl
  have keepF:∀ j,((zs.set i v.cells.toList).take j).flatten.length=(zs.take j).flatten.length:=fun j=>by
   rw [List.take_set]
   by_cases hij:i<j
   ·have hl:i<(zs.take j).length:=by simp; omega
    rw [flat_set _ i _ hl (by simpa [gE,hij] using hv)]
    have h1:((zs.take j).take i)=zs.take i:=by rw [List.take_take,Nat.min_eq_left qN]
    have h2:(zs.take i).flatten.length+v.cells.toList.length≤(zs.take j).flatten.length:=by
     have e1:(zs.take j).flatten=(zs.take i).flatten++((zs.take j).drop i).flatten:=by
      rw [← h1,← List.flatten_append,List.take_append_drop]
     have e2:(zs.take j).drop i=(zs.take j).getD i []::(zs.take j).drop (i+1):=by
      rw [List.drop_eq_getElem_cons hl]; simp [gE,hij,hi]
     have e3:((zs.take j).getD i []).length=v.cells.size:=by rw [hv]; simp [gE,hij]
     rw [e1,e2,List.length_append,List.flatten_cons,List.length_append]
     simp only [Array.length_toList]; omega
    rw [h1,List.length_append,List.length_append,List.length_take,List.length_drop]
    omega
   ·rw [List.set_eq_of_length_le (by simp; omega)]
  exact fill_put r (zs.set i v.cells.toList) (fun j hj=>by rw [keep,keepF]; exact hpl j (by simpa using hj)) fun p hp'=>by
   obtain ⟨h1,h2⟩:=hp p (List.mem_cons_of_mem _ hp')
   exact ⟨by simpa using h1,by rw [keep]; exact h2⟩
theorem qJ {P:Program} {t:TypeId} {zs:List (List Value)} (ht:sJ P t zs) (ps:List (Nat×Value)) (hp:∀ p,p∈ps→p.1<zs.length∧p.2.cells.size=(zs.getD p.1 []).length) (w:World) :
  (Instr.build t ps.toArray).run P w=.ok (.agg (putL ps zs).flatten.toArray) w:=by
 obtain ⟨fs,h1,h2⟩:=ht.und
 obtain ⟨i,h3,h4⟩:=ht.zero
 have hm:∀ (fs:List Field) (zs:List (List Value)) (o:Nat),offsOK P o zs fs→∃ pl:List (Nat×Nat),(fs.mapM fun f=>do pure (f.offset,← sizeOf f.type):Sem (List (Nat×Nat))).run P w=.ok pl w∧pl=(fs.zip zs).map fun x=>(x.1.offset,x.2.length):=by
  intro fs
  induction fs with
  | nil=>intro zs o h; cases zs with
   | nil=>exact ⟨[],rfl,rfl⟩
   | cons z zs=>exact h.elim
  | cons f fs ih =>
   intro zs o h
   cases zs with
   | nil=>exact h.elim
   | cons z zs =>
    obtain ⟨pl,g1,g2⟩:=ih zs _ h.2.2
    refine ⟨(f.offset,z.length)::pl,?_,by simp [g2]⟩
    rw [List.mapM_cons]
    simp only [Sem.run_bind,dB h.2.1,Result.andThen_ok,Sem.run_pure,g1]
 obtain ⟨pl,g1,g2⟩:=hm _ _ _ h2
 have hpl:∀ j,j<zs.length→pl[j]? = some ((zs.take j).flatten.length,(zs.getD j []).length):=fun j hj=>by
  obtain ⟨f,k1,k2,k3⟩:=offs_get h2 j hj
  have hz:zs[j]? = some (zs.getD j []):=by simp [gE,hj]
  rw [g2,List.getElem?_map]
  have:(fs.toList.zip zs)[j]? = some (f,zs.getD j []):=by
   rw [List.getElem?_zip_eq_some]; exact ⟨k1,hz⟩
  rw [this]
  simp [k2]
 simp only [Instr.build,zeroValue,typeInfo,Sem.run_bind,run_program,Result.andThen_ok,h3,h4,run_underlying h1,Sem.run_pure,Value.cells]
 rw [Array.mapM_eq_mapM_toList,Sem.run_map]
 rw [g1]
 simp only [Result.andThen_ok]
 rw [fill_put (place:=fun j=>pl.toArray[j]?) ps zs (fun j hj=>by rw [List.getElem?_toArray]; exact hpl j hj) hp]
 rfl
theorem RdC.catL {S:Nat→Prop} {w:World}:∀ {zs:List (List Value)} {ds:List Dat},zs.length=ds.length→0<ds.length→(∀ i,i<ds.length→RdC S w (ds.getD i (.one undef)) (zs.getD i []))→RdC S w (catL ds) zs.flatten
 | [],[],_,h,_=>absurd h qP
 | [z],[d],_,_,h=>by simpa [Go.Proofs.YtpbhjlljgbjjlaaGreat.catL] using h 0 qP
 | z::y::zs,d::e::ds,hl,_,h=>by
  refine ⟨z,(y::zs).flatten,by simp,by simpa using h 0 qP,RdC.catL (by simpa using hl) qP fun i hi=>by simpa using h (i+1) (by simpa using hi)⟩
theorem putL_len:∀ (ps:List (Nat×Value)) (zs:List (List Value)),(putL ps zs).length=zs.length
 | [],_=>rfl
 | (i,v)::r,zs=>by simp [putL,putL_len r]
def sN (ps:List (Nat×Value)) (i:Nat):Option Value :=
 match ps with
 | []=>none
 | (k,v)::r=>match Nat.beq k i with
  | true=>some v
  | false=>sN r i
def incr:Nat→List (Nat×Value)→Bool
 | _,[]=>true
 | n,(k,_)::r=>Nat.ble n k&&incr (k+1) r
theorem pickP_lt:∀ {ps:List (Nat×Value)} {n i:Nat},incr n ps=true→i<n→sN ps i=none
 | [],_,_,_,_=>rfl
 | (k,v)::r,n,i,h,hi=>by
  simp only [incr,Bool.and_eq_true] at h
  have hk:=Nat.le_of_ble_eq_true h.1
  simp only [sN]
  have hb:Nat.beq k i=false:=by
   cases hb:Nat.beq k i with
   | false=>rfl
   | true=>have:=Nat.eq_of_beq_eq_true hb; omega
  rw [hb]
  exact pickP_lt h.2 qN
theorem putL_get:∀ {ps:List (Nat×Value)} {n:Nat} {zs:List (List Value)},incr n ps=true→(∀ p,p∈ps→p.1<zs.length)→∀ i,(putL ps zs).getD i []=match sN ps i with
  | some v=>v.cells.toList
  | none=>zs.getD i []
 | [],_,_,_,_,_=>rfl
 | (k,v)::r,n,zs,h,hp,i=>by
  simp only [incr,Bool.and_eq_true] at h
  have hk:k<zs.length:=hp (k,v) (List.mem_cons_self ..)
  simp only [putL,sN]
  rw [putL_get h.2 (fun p hp'=>by simpa using hp p (List.mem_cons_of_mem _ hp')) i]
  cases hb:Nat.beq k i with
  | true =>
   have:=Nat.eq_of_beq_eq_true hb
   subst this
   rw [pickP_lt h.2 (Nat.lt_succ_self _)]
   simp [gE,hk]
  | false =>
   have hne:k≠i:=fun e=>by subst e; simp at hb
   cases sN r i with
   | some u=>rfl
   | none=>simp [gE,List.getElem?_set,hne]
def FldsK (os:List Own) (fs:List bA) (ps:List (Nat×Value)):Nat→List (List Value)→List Dat→Prop
 | _,[],[]=>True
 | i,z::zs,d::ds=>(match sN ps i with
  | some v=>Reads os fs v d∧d.cells=z.length
  | none=>∀ S w,RdC S w d z)∧FldsK os fs ps (i+1) zs ds
 | _,_,_=>False
theorem FldsK.len {os:List Own} {fs:List bA} {ps:List (Nat×Value)}:∀ {zs:List (List Value)} {ds:List Dat} {i:Nat},FldsK os fs ps i zs ds→zs.length=ds.length
 | [],[],_,_=>rfl
 | _::zs,_::ds,_,h=>by simp [FldsK.len h.2]
theorem FldsK.get {os:List Own} {fs:List bA} {ps:List (Nat×Value)}:∀ {zs:List (List Value)} {ds:List Dat} {i:Nat},FldsK os fs ps i zs ds→∀ j,j<ds.length→match sN ps (i+j) with
  | some v=>Reads os fs v (ds.getD j (.one undef))∧(ds.getD j (.one undef)).cells=(zs.getD j []).length
  | none=>∀ S w,RdC S w (ds.getD j (.one undef)) (zs.getD j [])
 | [],[],_,_,_,hj=>absurd hj qP
 | _::zs,_::ds,i,h,0,_=>by simpa using h.1
 | _::zs,_::ds,i,h,j+1,hj=>by
  have:=FldsK.get h.2 j (by simpa using hj)
  rw [show i+(j+1)=i+1+j by omega]
  simpa using this
theorem dE {P:Program} {t:TypeId} {zs:List (List Value)} [ht:sJ P t zs] {ps:List (Nat×Value)} {os:List Own} {fs:List bA} {K:cE} (ds:List Dat) (h:FldsK os fs ps 0 zs ds)
  (k:∀ v,K v os ((v,catL ds)::fs)) (hps:(incr 0 ps&&ps.all fun p=>Nat.blt p.1 zs.length)=true:=by kernel_rfl) (hd:Nat.blt 1 ds.length=true:=by kernel_rfl):oV P t ps os fs K:=by
 simp only [Bool.and_eq_true] at hps
 have hlt:∀ p,p∈ps→p.1<zs.length:=fun p hp=>by simpa using List.all_eq_true.1 hps.2 p hp
 have hd':1<ds.length:=by simpa using hd
 refine ⟨fun G w hw=>?_⟩
 have hsz:∀ p,p∈ps→p.1<zs.length∧p.2.cells.size=(zs.getD p.1 []).length:=by
  have key:∀ {ps':List (Nat×Value)} {n:Nat},incr n ps'=true→∀ p,p∈ps'→sN ps' p.1=some p.2:=by
   intro ps'
   induction ps' with
   | nil=>intro n _ p hp; cases hp
   | cons x r ih =>
    obtain ⟨k0,v0⟩:=x
    intro n hi p hp
    simp only [incr,Bool.and_eq_true] at hi
    rcases List.mem_cons.1 hp with rfl | hp
    ·simp [sN]
    ·have:=ih hi.2 p hp
     simp only [sN]
     cases hb:Nat.beq k0 p.1 with
     | true =>
      have:=Nat.eq_of_beq_eq_true hb
      rw [pickP_lt hi.2 qN] at *
      simp_all
     | false=>exact this
  intro p hp
  refine ⟨hlt p hp,?_⟩
  have:=h.get p.1 (by rw [← h.len]; exact hlt p hp)
  rw [Nat.zero_add,key hps.1 p hp] at this
  obtain ⟨cs,c1,c2⟩:=this.1 G w hw
  rw [← this.2,← dM c1,← c2]
  simp
 have hrun:=fun w'=>qJ ht ps hsz w'
 refine ⟨_,_,fun w' _=>dH (hrun w'),k _,hw.put ⟨(putL ps zs).flatten,RdC.catL (by rw [putL_len,h.len]) qN fun i hi=>?_,?_⟩⟩
 ·rw [putL_get hps.1 hlt]
  have:=h.get i hi
  rw [Nat.zero_add] at this
  cases hp:sN ps i with
  | some v =>
   rw [hp] at this
   obtain ⟨cs,c1,c2⟩:=this.1 G w hw
   show RdC _ _ _ v.cells.toList
   rw [c2]; exact c1
  | none =>
   rw [hp] at this
   exact this _ _
 ·match ds,hd' with
  | _::_::_,_=>rfl
theorem vN {P:Program} {t:TypeId} {z:Value} [ht:sJ P t [[z]]] {v:Value} {os:List Own} {fs:List bA} {K:cE} (hv:v.oneCell'=true) (k:K (.agg #[v]) os fs):oV P t [(0,v)] os fs K:=by
 refine ⟨fun G w hw=>⟨_,fs,fun w' _=>dH ?_,k,hw⟩⟩
 have hc:v.cells = #[v]:=Array.toList_inj.1 (lO hv)
 have:=qJ ht [(0,v)] (fun p hp=>by simp only [List.mem_singleton] at hp; subst hp; exact ⟨by simp,by simp [hc]⟩) w'
 rw [this]
 simp [putL,hc]
class TFldV (P:Program) (t:TypeId) (k:Nat) (off n:outParam Nat) (ag:outParam Bool):Prop where
 und:∃ fs f d,P.underlying t=some (.struct fs)∧fs[k]? = some f∧f.offset=off∧(P.info? f.type).map (·.size)=some n∧P.underlying f.type=some d∧aggD d=ag
theorem isAgg_of {P:Program} {t:TypeId} {d:TypeDesc} {b:Bool} (h:P.underlying t=some d) (hb:aggD d=b) (w:World):(isAgg t).run P w=.ok b w:=by
 cases d <;> simp only [aggD] at hb <;> subst hb <;> simp [isAgg,run_underlying h]
theorem rK {P:Program} {t:TypeId} {k off n:Nat} {ag:Bool} {a:Value} {d d':Dat} {os:List Own} {fs:List bA} {K:cE} [ht:TFldV P t k off n ag] (hm:(a,d)∈fs) (hp:Part off d d')
  (kk:∀ u,K u os ((u,d')::fs)) (hd:d.flat=false:=by rfl) (hn:d'.cells=n:=by rfl) (hag:d'.flat = !ag:=by rfl):FieldK P t a k os fs K:=by
 refine ⟨fun G w hw=>?_⟩
 obtain ⟨cs,h1,h2⟩:=hw.facts _ hm
 obtain ⟨pre,c2,post,e,hl,h3⟩:=hp _ _ _ h1
 obtain ⟨fl,f,td,g1,g2,g3,g4,g5,g6⟩:=ht.und
 have ha:a=.agg cs.toArray:=by cases d <;> first | exact h2 | simp [Dat.flat] at hd
 subst ha
 have hlen:c2.length=d'.cells:=dM h3
 refine ⟨oA d' c2,_,fun w' _=>dH ?_,kk _,hw.put ⟨c2,h3,rfl⟩⟩
 simp only [Instr.field,Sem.run_bind,run_underlying g1,Result.andThen_ok,g2,asAgg,Sem.run_pure,part,g3,isAgg_of g5 g6]
 cases hfl:d'.flat with
 | true =>
  rw [hfl] at hag
  have hag':ag=false:=by cases ag <;> first | rfl | exact absurd hag qE
  obtain ⟨v,rfl,hv1,hv2⟩:=RdC.single hfl h3
  subst hag'
  have:cs.toArray[off]? = some v:=by rw [List.getElem?_toArray,e,List.getElem?_append_right qN]; simp [hl]
  simp [this,hv2]
 | false =>
  rw [hfl] at hag
  have hag':ag=true:=by cases ag <;> first | rfl | exact absurd hag qE
  subst hag'
  have hpk:oA d' c2=.agg c2.toArray:=by cases d' <;> first | rfl | simp [Dat.flat] at hfl
  simp only [if_true,Sem.run_bind,dB g4,Result.andThen_ok,Sem.run_pure,hpk]
  congr 2
  apply Array.toList_inj.1
  rw [Array.toList_extract,e]
  simp only [List.extract_eq_take_drop]
  rw [← hl,List.drop_left,show pre.length+n - pre.length=c2.length by omega,List.take_left]
def Rep (off:Nat) (d n d':Dat):Prop:=off+n.cells≤d.cells∧d'.cells=d.cells∧∀ S w cs cs',RdC S w d cs→RdC S w n cs'→RdC S w d' (cs.take off++cs'++cs.drop (off+cs'.length))
theorem Rep.whole {d n:Dat} (h:d.cells=n.cells):Rep 0 d n n:=⟨by omega,h.symm,fun S w cs cs' h1 h2=>by
 have e1:=dM h1
 have e2:=dM h2
 rw [List.drop_of_length_le qN]
 simpa using h2⟩
theorem Rep.left {off:Nat} {a b n a':Dat} (h:Rep off a n a'):Rep off (.cat a b) n (.cat a' b):=by
 obtain ⟨h1,h2,h3⟩:=h
 refine ⟨by simp only [Dat.cells]; omega,by simp only [Dat.cells,h2],?_⟩
 rintro S w cs cs' ⟨c1,c2,rfl,g1,g2⟩ hn
 have e1:=dM g1
 have e2:=dM hn
 refine ⟨c1.take off++cs'++c1.drop (off+cs'.length),c2,?_,h3 _ _ _ _ g1 hn,g2⟩
 rw [List.take_append_of_le_length qN,List.drop_append_of_le_length qN]
 simp
theorem Rep.right {off:Nat} {a b n b':Dat} (h:Rep off b n b'):Rep (a.cells+off) (.cat a b) n (.cat a b'):=by
 obtain ⟨h1,h2,h3⟩:=h
 refine ⟨by simp only [Dat.cells]; omega,by simp only [Dat.cells,h2],?_⟩
 rintro S w cs cs' ⟨c1,c2,rfl,g1,g2⟩ hn
 have e1:=dM g1
 refine ⟨c1,c2.take off++cs'++c2.drop (off+cs'.length),?_,g1,h3 _ _ _ _ g2 hn⟩
 rw [← e1,List.take_append,List.drop_append,List.take_of_length_le qN,List.drop_of_length_le qN]
 simp only [Nat.add_sub_cancel_left,List.nil_append,Nat.add_assoc,List.append_assoc]
theorem cP {P:Program} {ty:TypeId} {x v:Value} {k size:Nat} {e:Nat→Dat} {d d':Dat} {os:List Own} {fs:List bA} {K:cE} (pos:Nat) (h:bQ os pos=some (bL v size 1 e)) (hbx:g9 v)
  (hr:Rep k (e 0) d d') (hx:Reads os fs x d) (k':K undef (setOwn os pos (bL v size 1 fun _=>d')) fs) (hs:size=(e 0).cells:=by rfl) (ht:(P.info? ty).map (·.size)=some d.cells:=by kernel_rfl):oT P ty (jP v k) x os fs K:=by
 have h0:0<d.cells:=by
               cases d <;> simp only [Dat.cells] <;> first | omega | skip
               rename_i a b; have:∀ d:Dat,0<d.cells:=fun d=>by induction d <;> simp only [Dat.cells] <;> omega
               have:=this a; omega
 exact store_part pos h hbx (by rw [hs]; exact hr.1) h0 ht hx (fun S w cs cs' g1 g2=>hr.2.2 S w cs cs' g1 g2) k'
theorem cD {d n:Dat} (h:d.cells=n.cells):Rep 0 d n n:=Rep.whole h
def ptr0 (r o:Nat):Value:=.pointer (some ⟨r,o,none⟩)
class TPtr (P:Program) (t:TypeId):Prop where
 und:∃ e,P.underlying t=some (.pointer e)
theorem rC {P:Program} {t:TypeId} (ht:TPtr P t) (a:Option Addr) (w:World):(Op.equal t (.pointer a) (.pointer none)).run P w=.ok a.isNone w:=by
 obtain ⟨e,hu⟩:=ht.und
 have h:∀ d,(Op.equalIn (d+1) t (.pointer a) (.pointer none)).run P w=.ok a.isNone w:=fun d=>by
  rw [Op.equalIn,Sem.run_bind,run_underlying hu]
  cases a <;> rfl
 exact h 9999
theorem eq_ptr {P:Program} {t:TypeId} [ht:TPtr P t] {x y:Operand} {a:Option Addr} {os:List Own} {fs:List bA} {K:cE} (k:K (.bool a.isNone) os fs):pC P .eql t x y (.pointer a) (.pointer none) os fs K:=by
 have hrun:∀ w',(do eqGuard .eql t x y (.pointer a) (.pointer none); binOp .eql t (.pointer a) (.pointer none):Sem Value).run P w'=.ok (.bool a.isNone) w':=fun w'=>by
  have h:(binOp .eql t (.pointer a) (.pointer none))=(do pure (.bool (← Op.equal t (.pointer a) (.pointer none)))):=rfl
  have hg:(eqGuard .eql t x y (.pointer a) (.pointer none)).run P w'=.ok () w':=rfl
  rw [Sem.run_bind,hg,Result.andThen_ok,h,Sem.run_bind,rC ht,Result.andThen_ok,Sem.run_pure]
 exact .mk <| dD (.bool a.isNone) hrun k
instance iT1:lG Tryz.prog 5:=⟨⟨_,Tryz.underlying5,trivial⟩,by kernel_rfl⟩
instance iT2:lG Tryz.prog 37:=⟨⟨_,Tryz.underlying37,trivial⟩,by kernel_rfl⟩
instance iT3:lG Tryz.prog 76:=⟨⟨_,Tryz.underlying76,trivial⟩,by kernel_rfl⟩
instance iT6:lG Tryz.prog 29:=⟨⟨_,Tryz.underlying29,trivial⟩,by kernel_rfl⟩
instance iT8:lG Tryz.prog 75:=⟨⟨_,Tryz.underlying75,trivial⟩,by kernel_rfl⟩
instance iT9:lG Tryz.prog 39:=⟨⟨_,Tryz.underlying39,trivial⟩,by kernel_rfl⟩
instance iT10:lG Tryz.prog 66:=⟨⟨_,Tryz.underlying66,trivial⟩,by kernel_rfl⟩
instance iT11:lG Tryz.prog 100:=⟨⟨_,Tryz.underlying100,trivial⟩,by kernel_rfl⟩
instance iT13:lG Tryz.prog 27:=⟨⟨_,Tryz.underlying27,trivial⟩,by kernel_rfl⟩
instance iT14:lG Tryz.prog 74:=⟨⟨_,Tryz.underlying74,trivial⟩,by kernel_rfl⟩
instance iT17:TPtr Tryz.prog 39:=⟨⟨_,Tryz.underlying39⟩⟩
instance iT18:TPtr Tryz.prog 66:=⟨⟨_,Tryz.underlying66⟩⟩
instance iT22:TSl Tryz.prog 37 5 1:=⟨Tryz.underlying37,by kernel_rfl⟩
instance iT23:TSl Tryz.prog 76 4 1:=⟨Tryz.underlying76,by kernel_rfl⟩
instance iT24:TSl Tryz.prog 109 3 1:=⟨Tryz.underlying109,by kernel_rfl⟩
instance iT25:TSl Tryz.prog 104 37 1:=⟨Tryz.underlying104,by kernel_rfl⟩
instance iT26:TSl Tryz.prog 29 46 14:=⟨Tryz.underlying29,by kernel_rfl⟩
instance iT27:TSl Tryz.prog 129 34 3:=⟨Tryz.underlying129,by kernel_rfl⟩
instance iT28:TSl Tryz.prog 75 161 513:=⟨Tryz.underlying75,by kernel_rfl⟩
theorem infT5:(Tryz.prog.info? 5).map (fun i=>(i.zero,i.size,i.bytes))=some (some (.int .u8 0),1,1):=by kernel_rfl
instance iT29:TEl Tryz.prog 5 1 1:=tel infT5 rfl qE
theorem infT4:(Tryz.prog.info? 4).map (fun i=>(i.zero,i.size,i.bytes))=some (some (.bool false),1,1):=by kernel_rfl
instance iT30:TEl Tryz.prog 4 1 1:=tel infT4 rfl qE
theorem infT3:(Tryz.prog.info? 3).map (fun i=>(i.zero,i.size,i.bytes))=some (some (.int .i64 0),1,8):=by kernel_rfl
instance iT31:TEl Tryz.prog 3 1 8:=tel infT3 rfl qE
theorem infT37:(Tryz.prog.info? 37).map (fun i=>(i.zero,i.size,i.bytes))=some (some (.slice none 0 0),1,24):=by kernel_rfl
instance iT32:TEl Tryz.prog 37 1 24:=tel infT37 rfl qE
theorem infT46:(Tryz.prog.info? 46).map (fun i=>(i.zero,i.size,i.bytes))=some (some (.agg ([.int .u64 0,.bool false,.slice none 0 0,.bool false,.slice none 0 0,.int .i64 0,.int .i64 0,.int .i64 0,.int .i64 0,.bool false,.slice none 0 0,.bool false,.slice none 0 0,.bool false]).toArray),14,176):=by kernel_rfl
instance iT33:TEl Tryz.prog 46 14 176:=tel infT46 rfl qE
theorem infT34:(Tryz.prog.info? 34).map (fun i=>(i.zero,i.size,i.bytes))=some (some (.agg ([.bool false,.slice none 0 0,.int .i64 0]).toArray),3,40):=by kernel_rfl
instance iT34:TEl Tryz.prog 34 3 40:=tel infT34 rfl qE
theorem infT161:(Tryz.prog.info? 161).map (fun i=>(i.zero,i.size,i.bytes))=some (some (.agg ((.int .i64 0)::List.replicate 512 (.int .u8 0)).toArray),513,520):=by kernel_rfl
instance iT35:TEl Tryz.prog 161 513 520:=tel infT161 qK qE
theorem infT24:(Tryz.prog.info? 24).map (fun i=>(i.zero,i.size,i.bytes))=some (some (.agg ([.int .i64 0,.int .i64 0,.int .u64 0,.int .u64 0,.int .i64 0]).toArray),5,40):=by kernel_rfl
instance iT36:oL Tryz.prog 24 5:=⟨⟨_,Tryz.underlying24,rfl⟩,by kernel_rfl⟩
instance iT37:sJ Tryz.prog 24 [([.int .i64 0]),([.int .i64 0]),([.int .u64 0]),([.int .u64 0]),([.int .i64 0])]:=⟨⟨_,Tryz.underlying24,rfl,by kernel_rfl,rfl,by kernel_rfl,rfl,by kernel_rfl,rfl,by kernel_rfl,rfl,by kernel_rfl,trivial⟩,by obtain ⟨i,h1,_,_,h4⟩:=fE infT24; exact ⟨i,h1,h4⟩⟩
instance iT38:iU Tryz.prog 24 0 0:=⟨_,_,Tryz.underlying24,rfl,rfl,0,by kernel_rfl⟩
instance iT40:iU Tryz.prog 24 1 1:=⟨_,_,Tryz.underlying24,rfl,rfl,0,by kernel_rfl⟩
instance iT42:iU Tryz.prog 24 2 2:=⟨_,_,Tryz.underlying24,rfl,rfl,0,by kernel_rfl⟩
instance iT44:iU Tryz.prog 24 3 3:=⟨_,_,Tryz.underlying24,rfl,rfl,0,by kernel_rfl⟩
instance iT46:iU Tryz.prog 24 4 4:=⟨_,_,Tryz.underlying24,rfl,rfl,0,by kernel_rfl⟩
instance iT48:oL Tryz.prog 34 3:=⟨⟨_,Tryz.underlying34,rfl⟩,by kernel_rfl⟩
instance iT49:sJ Tryz.prog 34 [([.bool false,.slice none 0 0]),([.int .i64 0])]:=⟨⟨_,Tryz.underlying34,rfl,by kernel_rfl,rfl,by kernel_rfl,trivial⟩,by obtain ⟨i,h1,_,_,h4⟩:=fE infT34; exact ⟨i,h1,h4⟩⟩
instance iT50:iU Tryz.prog 34 0 0:=⟨_,_,Tryz.underlying34,rfl,rfl,1,by kernel_rfl⟩
instance iT52:iU Tryz.prog 34 1 2:=⟨_,_,Tryz.underlying34,rfl,rfl,0,by kernel_rfl⟩
theorem infT42:(Tryz.prog.info? 42).map (fun i=>(i.zero,i.size,i.bytes))=some (some (.agg ([.bool false,.slice none 0 0,.bool false,.slice none 0 0,.int .i64 0]).toArray),5,72):=by kernel_rfl
instance iT54:oL Tryz.prog 42 5:=⟨⟨_,Tryz.underlying42,rfl⟩,by kernel_rfl⟩
instance iT55:sJ Tryz.prog 42 [([.bool false,.slice none 0 0]),([.bool false,.slice none 0 0]),([.int .i64 0])]:=⟨⟨_,Tryz.underlying42,rfl,by kernel_rfl,rfl,by kernel_rfl,rfl,by kernel_rfl,trivial⟩,by obtain ⟨i,h1,_,_,h4⟩:=fE infT42; exact ⟨i,h1,h4⟩⟩
instance iT56:iU Tryz.prog 42 0 0:=⟨_,_,Tryz.underlying42,rfl,rfl,1,by kernel_rfl⟩
instance iT57:TFldV Tryz.prog 42 0 0 2 true:=⟨_,_,_,Tryz.underlying42,rfl,rfl,by kernel_rfl,Tryz.underlying32,rfl⟩
instance iT58:iU Tryz.prog 42 1 2:=⟨_,_,Tryz.underlying42,rfl,rfl,1,by kernel_rfl⟩
instance iT60:iU Tryz.prog 42 2 4:=⟨_,_,Tryz.underlying42,rfl,rfl,0,by kernel_rfl⟩
theorem infT44:(Tryz.prog.info? 44).map (fun i=>(i.zero,i.size,i.bytes))=some (some (.agg ([.bool false,.slice none 0 0,.bool false,.slice none 0 0,.int .i64 0,.int .i64 0,.int .i64 0,.int .i64 0,.bool false,.slice none 0 0,.bool false,.slice none 0 0,.bool false]).toArray),13,168):=by kernel_rfl
instance iT62:oL Tryz.prog 44 13:=⟨⟨_,Tryz.underlying44,rfl⟩,by kernel_rfl⟩
instance iT63:sJ Tryz.prog 44 [([.bool false,.slice none 0 0,.bool false,.slice none 0 0,.int .i64 0]),([.int .i64 0]),([.int .i64 0]),([.int .i64 0]),([.bool false,.slice none 0 0]),([.bool false,.slice none 0 0]),([.bool false])]:=⟨⟨_,Tryz.underlying44,rfl,by kernel_rfl,rfl,by kernel_rfl,rfl,by kernel_rfl,rfl,by kernel_rfl,rfl,by kernel_rfl,rfl,by kernel_rfl,rfl,by kernel_rfl,trivial⟩,by obtain ⟨i,h1,_,_,h4⟩:=fE infT44; exact ⟨i,h1,h4⟩⟩
instance iT64:iU Tryz.prog 44 0 0:=⟨_,_,Tryz.underlying44,rfl,rfl,4,by kernel_rfl⟩
instance iT66:iU Tryz.prog 44 1 5:=⟨_,_,Tryz.underlying44,rfl,rfl,0,by kernel_rfl⟩
instance iT68:iU Tryz.prog 44 2 6:=⟨_,_,Tryz.underlying44,rfl,rfl,0,by kernel_rfl⟩
instance iT70:iU Tryz.prog 44 3 7:=⟨_,_,Tryz.underlying44,rfl,rfl,0,by kernel_rfl⟩
instance iT72:iU Tryz.prog 44 4 8:=⟨_,_,Tryz.underlying44,rfl,rfl,1,by kernel_rfl⟩
instance iT74:iU Tryz.prog 44 5 10:=⟨_,_,Tryz.underlying44,rfl,rfl,1,by kernel_rfl⟩
instance iT76:iU Tryz.prog 44 6 12:=⟨_,_,Tryz.underlying44,rfl,rfl,0,by kernel_rfl⟩
instance iT78:oL Tryz.prog 46 14:=⟨⟨_,Tryz.underlying46,rfl⟩,by kernel_rfl⟩
instance iT79:sJ Tryz.prog 46 [([.int .u64 0]),([.bool false,.slice none 0 0,.bool false,.slice none 0 0,.int .i64 0,.int .i64 0,.int .i64 0,.int .i64 0,.bool false,.slice none 0 0,.bool false,.slice none 0 0,.bool false])]:=⟨⟨_,Tryz.underlying46,rfl,by kernel_rfl,rfl,by kernel_rfl,trivial⟩,by obtain ⟨i,h1,_,_,h4⟩:=fE infT46; exact ⟨i,h1,h4⟩⟩
instance iT80:iU Tryz.prog 46 0 0:=⟨_,_,Tryz.underlying46,rfl,rfl,0,by kernel_rfl⟩
instance iT82:iU Tryz.prog 46 1 1:=⟨_,_,Tryz.underlying46,rfl,rfl,12,by kernel_rfl⟩
theorem infT80:(Tryz.prog.info? 80).map (fun i=>(i.zero,i.size,i.bytes))=some (some (.agg ([.int .i64 0,.map none,.slice none 0 0,.bool false,.int .i64 0,.slice none 0 0]).toArray),6,80):=by kernel_rfl
instance iT85:sJ Tryz.prog 80 [([.int .i64 0]),([.map none]),([.slice none 0 0]),([.bool false]),([.int .i64 0,.slice none 0 0])]:=⟨⟨_,Tryz.underlying80,rfl,by kernel_rfl,rfl,by kernel_rfl,rfl,by kernel_rfl,rfl,by kernel_rfl,rfl,by kernel_rfl,trivial⟩,by obtain ⟨i,h1,_,_,h4⟩:=fE infT80; exact ⟨i,h1,h4⟩⟩
instance iT86:iU Tryz.prog 80 0 0:=⟨_,_,Tryz.underlying80,rfl,rfl,0,by kernel_rfl⟩
instance iT88:iU Tryz.prog 80 1 1:=⟨_,_,Tryz.underlying80,rfl,rfl,0,by kernel_rfl⟩
instance iT90:iU Tryz.prog 80 2 2:=⟨_,_,Tryz.underlying80,rfl,rfl,0,by kernel_rfl⟩
instance iT92:iU Tryz.prog 80 3 3:=⟨_,_,Tryz.underlying80,rfl,rfl,0,by kernel_rfl⟩
instance iT94:iU Tryz.prog 80 4 4:=⟨_,_,Tryz.underlying80,rfl,rfl,1,by kernel_rfl⟩
instance iT98:iU Tryz.prog 78 0 0:=⟨_,_,Tryz.underlying78,rfl,rfl,0,by kernel_rfl⟩
instance iT102:oL Tryz.prog 161 513:=⟨⟨_,Tryz.underlying161,rfl⟩,by kernel_rfl⟩
instance iT103:sJ Tryz.prog 161 [([.int .i64 0]),(List.replicate 512 (.int .u8 0))]:=⟨⟨_,Tryz.underlying161,rfl,by kernel_rfl,rfl,by kernel_rfl,trivial⟩,by obtain ⟨i,h1,_,_,h4⟩:=fE infT161; exact ⟨i,h1,h4.trans qK⟩⟩
instance iT104:iU Tryz.prog 161 0 0:=⟨_,_,Tryz.underlying161,rfl,rfl,0,by kernel_rfl⟩
instance iT106:iU Tryz.prog 161 1 1:=⟨_,_,Tryz.underlying161,rfl,rfl,511,by kernel_rfl⟩
theorem infT141:(Tryz.prog.info? 141).map (fun i=>(i.zero,i.size,i.bytes))=some (some (.agg ([.pointer none,.int .i64 0,.int .i64 0,.int .i64 0,.int .i64 0,.bool false]).toArray),6,48):=by kernel_rfl
instance iT109:sJ Tryz.prog 141 [([.pointer none]),([.int .i64 0]),([.int .i64 0]),([.int .i64 0]),([.int .i64 0]),([.bool false])]:=⟨⟨_,Tryz.underlying141,rfl,by kernel_rfl,rfl,by kernel_rfl,rfl,by kernel_rfl,rfl,by kernel_rfl,rfl,by kernel_rfl,rfl,by kernel_rfl,trivial⟩,by obtain ⟨i,h1,_,_,h4⟩:=fE infT141; exact ⟨i,h1,h4⟩⟩
instance iT110:iU Tryz.prog 141 0 0:=⟨_,_,Tryz.underlying141,rfl,rfl,0,by kernel_rfl⟩
instance iT112:iU Tryz.prog 141 1 1:=⟨_,_,Tryz.underlying141,rfl,rfl,0,by kernel_rfl⟩
instance iT114:iU Tryz.prog 141 2 2:=⟨_,_,Tryz.underlying141,rfl,rfl,0,by kernel_rfl⟩
instance iT116:iU Tryz.prog 141 3 3:=⟨_,_,Tryz.underlying141,rfl,rfl,0,by kernel_rfl⟩
instance iT118:iU Tryz.prog 141 4 4:=⟨_,_,Tryz.underlying141,rfl,rfl,0,by kernel_rfl⟩
instance iT120:iU Tryz.prog 141 5 5:=⟨_,_,Tryz.underlying141,rfl,rfl,0,by kernel_rfl⟩
theorem infT102:(Tryz.prog.info? 102).map (fun i=>(i.zero,i.size,i.bytes))=some (some (.agg ([.int .i64 0,.int .i64 0,.int .u64 0,.int .u64 0,.int .i64 0,.pointer none,.slice none 0 0,.slice none 0 0,.bool false,.bool false,.int .i64 0,.pointer none,.pointer none]).toArray),13,128):=by kernel_rfl
instance iT123:sJ Tryz.prog 102 [([.int .i64 0,.int .i64 0,.int .u64 0,.int .u64 0,.int .i64 0]),([.pointer none]),([.slice none 0 0]),([.slice none 0 0]),([.bool false]),([.bool false]),([.int .i64 0]),([.pointer none]),([.pointer none])]:=⟨⟨_,Tryz.underlying102,rfl,by kernel_rfl,rfl,by kernel_rfl,rfl,by kernel_rfl,rfl,by kernel_rfl,rfl,by kernel_rfl,rfl,by kernel_rfl,rfl,by kernel_rfl,rfl,by kernel_rfl,rfl,by kernel_rfl,trivial⟩,by obtain ⟨i,h1,_,_,h4⟩:=fE infT102; exact ⟨i,h1,h4⟩⟩
instance iT124:iU Tryz.prog 102 0 0:=⟨_,_,Tryz.underlying102,rfl,rfl,4,by kernel_rfl⟩
instance iT126:iU Tryz.prog 102 1 5:=⟨_,_,Tryz.underlying102,rfl,rfl,0,by kernel_rfl⟩
instance iT128:iU Tryz.prog 102 2 6:=⟨_,_,Tryz.underlying102,rfl,rfl,0,by kernel_rfl⟩
instance iT130:iU Tryz.prog 102 3 7:=⟨_,_,Tryz.underlying102,rfl,rfl,0,by kernel_rfl⟩
instance iT132:iU Tryz.prog 102 4 8:=⟨_,_,Tryz.underlying102,rfl,rfl,0,by kernel_rfl⟩
instance iT134:iU Tryz.prog 102 5 9:=⟨_,_,Tryz.underlying102,rfl,rfl,0,by kernel_rfl⟩
instance iT136:iU Tryz.prog 102 6 10:=⟨_,_,Tryz.underlying102,rfl,rfl,0,by kernel_rfl⟩
instance iT138:iU Tryz.prog 102 7 11:=⟨_,_,Tryz.underlying102,rfl,rfl,0,by kernel_rfl⟩
instance iT140:iU Tryz.prog 102 8 12:=⟨_,_,Tryz.underlying102,rfl,rfl,0,by kernel_rfl⟩
theorem infT58:(Tryz.prog.info? 58).map (fun i=>(i.zero,i.size,i.bytes))=some (some (.agg ([.slice none 0 0]).toArray),1,24):=by kernel_rfl
instance iT143:sJ Tryz.prog 58 [([.slice none 0 0])]:=⟨⟨_,Tryz.underlying58,rfl,by kernel_rfl,trivial⟩,by obtain ⟨i,h1,_,_,h4⟩:=fE infT58; exact ⟨i,h1,h4⟩⟩
instance iT144:iU Tryz.prog 58 0 0:=⟨_,_,Tryz.underlying58,rfl,rfl,0,by kernel_rfl⟩
theorem infT194:(Tryz.prog.info? 194).map (fun i=>(i.zero,i.size,i.bytes))=some (some (.agg ([.slice none 0 0]).toArray),1,24):=by kernel_rfl
instance iT147:sJ Tryz.prog 194 [([.slice none 0 0])]:=⟨⟨_,Tryz.underlying194,rfl,by kernel_rfl,trivial⟩,by obtain ⟨i,h1,_,_,h4⟩:=fE infT194; exact ⟨i,h1,h4⟩⟩
instance iT148:iU Tryz.prog 194 0 0:=⟨_,_,Tryz.underlying194,rfl,rfl,0,by kernel_rfl⟩
theorem infT236:(Tryz.prog.info? 236).map (fun i=>(i.zero,i.size,i.bytes))=some (some (.agg ([.bool false,.slice none 0 0,.bool false,.slice none 0 0]).toArray),4,64):=by kernel_rfl
instance iT150:oL Tryz.prog 236 4:=⟨⟨_,Tryz.underlying236,rfl⟩,by kernel_rfl⟩
instance iT151:sJ Tryz.prog 236 [([.bool false,.slice none 0 0]),([.bool false,.slice none 0 0])]:=⟨⟨_,Tryz.underlying236,rfl,by kernel_rfl,rfl,by kernel_rfl,trivial⟩,by obtain ⟨i,h1,_,_,h4⟩:=fE infT236; exact ⟨i,h1,h4⟩⟩
instance iT152:iU Tryz.prog 236 0 0:=⟨_,_,Tryz.underlying236,rfl,rfl,1,by kernel_rfl⟩
instance iT154:iU Tryz.prog 236 1 2:=⟨_,_,Tryz.underlying236,rfl,rfl,1,by kernel_rfl⟩
instance iT155:TFldV Tryz.prog 236 1 2 2 true:=⟨_,_,_,Tryz.underlying236,rfl,rfl,by kernel_rfl,Tryz.underlying32,rfl⟩
theorem infT171:(Tryz.prog.info? 171).map (fun i=>(i.zero,i.size,i.bytes))=some (some (.agg ([.bool false,.slice none 0 0,.bool false,.slice none 0 0,.int .i64 0]).toArray),5,72):=by kernel_rfl
instance iT156:oL Tryz.prog 171 5:=⟨⟨_,Tryz.underlying171,rfl⟩,by kernel_rfl⟩
instance iT157:sJ Tryz.prog 171 [([.bool false,.slice none 0 0,.bool false,.slice none 0 0,.int .i64 0])]:=⟨⟨_,Tryz.underlying171,rfl,by kernel_rfl,trivial⟩,by obtain ⟨i,h1,_,_,h4⟩:=fE infT171; exact ⟨i,h1,h4⟩⟩
instance iT158:iU Tryz.prog 171 0 0:=⟨_,_,Tryz.underlying171,rfl,rfl,4,by kernel_rfl⟩
theorem infT213:(Tryz.prog.info? 213).map (fun i=>(i.zero,i.size,i.bytes))=some (some (.agg ([.int .i64 0]).toArray),1,8):=by kernel_rfl
instance iT161:sJ Tryz.prog 213 [([.int .i64 0])]:=⟨⟨_,Tryz.underlying213,rfl,by kernel_rfl,trivial⟩,by obtain ⟨i,h1,_,_,h4⟩:=fE infT213; exact ⟨i,h1,h4⟩⟩
instance iT162:iU Tryz.prog 213 0 0:=⟨_,_,Tryz.underlying213,rfl,rfl,0,by kernel_rfl⟩
theorem infT189:(Tryz.prog.info? 189).map (fun i=>(i.zero,i.size,i.bytes))=some (some (.agg ([.int .u64 0,.int .i64 0]).toArray),2,16):=by kernel_rfl
instance iT164:oL Tryz.prog 189 2:=⟨⟨_,Tryz.underlying189,rfl⟩,by kernel_rfl⟩
instance iT165:sJ Tryz.prog 189 [([.int .u64 0]),([.int .i64 0])]:=⟨⟨_,Tryz.underlying189,rfl,by kernel_rfl,rfl,by kernel_rfl,trivial⟩,by obtain ⟨i,h1,_,_,h4⟩:=fE infT189; exact ⟨i,h1,h4⟩⟩
instance iT166:iU Tryz.prog 189 0 0:=⟨_,_,Tryz.underlying189,rfl,rfl,0,by kernel_rfl⟩
instance iT168:iU Tryz.prog 189 1 1:=⟨_,_,Tryz.underlying189,rfl,rfl,0,by kernel_rfl⟩
instance iCNa1:TSub64 Tryz.prog 163:=TSub64.mk' Tryz.func163 qK qK qK qK
theorem dI (v:Value) (l:List Nat):aY Tryz.prog 87 [v] [(v,U l)] (fun r os fs=>os=[]∧fs=[(r,U (mR l))]):=by
 refine mV Tryz.func87 ?_
 refine bD (X:=Nat×Value) (fun x=>([(0,x.2)],[],[(x.2,U (l.take x.1))])) (fun x=>x.1≤l.length∧mR (l.take x.1)=mR l) (fun x=>x.1) rfl ?_ ?_
 ·exact bB (l.length,v) ⟨by simp,by simp⟩ trivial ⟨rfl,trivial⟩ (by simp only [List.take_length]; exact aT _ _)
 ·rintro ⟨k,u⟩ ⟨h1,h2⟩
  simp only at h1 h2 ⊢
  have hlen:(l.take k).length=k:=by simp; omega
  refine aS qM fun hb=>?_
  refine aO _ rfl (fun hc=>?_) (fun hc=>?_)
  ·refine aS qM fun _=>?_
   refine ar rfl qI ?_
   obtain ⟨j,rfl⟩:∃ j,k=j+1:=⟨k - 1,by omega⟩
   have hlt:j<l.length:=by omega
   have ht:=tX hlt
   refine aZ qM j qN qN fun p=>?_
   refine bF qM ?_
   have hget:(l.take (j+1)).getD j 0=l.getD j 0:=by simp [gE]
   rw [hget]
   refine aO _ rfl (fun hd=>?_) (fun hd=>?_)
   ·refine aS qM fun _=>?_
    refine ar rfl qI ?_
    refine n7 (kl:=.i64) (kh:=.i64) qM 0 j _ _ (.inl ⟨rfl,rfl⟩) (.inr (by rw [hlen]; congr 2; omega)) qN qN fun u'=>?_
    have h0:l.getD j 0=0:=by omega
    refine bB (j,u') ⟨by omega,by rw [← h2,ht,h0,tV]⟩ qP ⟨rfl,trivial⟩ (Seals.cons ?_ (bO _ _))
    have hlj:(l.take j).length=j:=by simp; omega
    refine ((cI (List.Mem.head _)).sl_cong fun i hi=>?_).cast (show Dat.sl 1 (j - 0) (fun i=>Dat.one (.int .u64 ((l.take j).getD i 0:Nat)))=U (l.take j) by rw [U,hlj]; rfl)
    have:(l.take (j+1)).getD (0+i) 0=(l.take j).getD i 0:=by
     simp only [gE,Nat.zero_add]
     rw [List.getElem?_take_of_lt qN,List.getElem?_take_of_lt qN]
    simp only [this]
   ·exact fin ⟨rfl,rfl⟩ (Seals.cons ((cI qM).cast (by rw [← h2,trimL_all_ne hlt qN])) (bO _ _))
  ·have hk:k=0:=by omega
   exact fin ⟨rfl,rfl⟩ (Seals.cons ((cI qM).cast (by rw [← h2,hk]; rfl)) (bO _ _))
end Go.Proofs.YtpbhjlljgbjjlaaGreat
