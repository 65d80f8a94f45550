/- Towards the statement, part 3 of 6: contracts of functions, and what they rest on. Conditions: each theorem names its own. -/
import Derived.Test.YtjebljkoiaojaaaGreatM2
import Derived.ProofKit
import Derived.Deep.Slices
import Derived.Maps.Range
set_option linter.unusedVariables false
set_option linter.unusedSimpArgs false
namespace Go.Proofs.YtjebljkoiaojaaaGreat
open Go.RowKit Go.ChangeShapes Go.WideShapes Go.ChangeAt Go.Deep
section
variable {H:Type} {enc:TypeId×Value→H} {w:World} {base:Nat} {spare:Nat→Bool} {held:Bool}
theorem rd_u64 {fuel:Nat} {cs:List Value} {x:DataW H×List MemPlace} (h:DataW.trod enc Tryz.prog w base spare held fuel 122 cs=some x):∃ n:Nat,n<18446744073709551616∧cs=[.int .u64 (n:Int)]:=by
 obtain ⟨n,rfl,_,hw⟩:=DataW.trod_int Tryz.underlying122 h
 have:0≤n∧n<18446744073709551616:=by
  simp [Lit.wf,IntKind.min,IntKind.max,IntKind.signed,IntKind.bits] at hw
  omega
 exact ⟨n.toNat,by omega,by rw [Int.toNat_of_nonneg this.1]⟩
theorem rd_slice {α:Type} (f:α→Dat) (z:α) (ok:α→Prop) {t e:TypeId} {size:Nat} (ht:Tryz.prog.underlying t=some (.slice e)) (hc:Tryz.prog.cellsOf e=size) (hs:0<size)
  (el:∀ n cs x,cs.length=size→DataW.trod enc Tryz.prog w base spare held n e cs=some x→∃ a,ok a∧RdC (fun b=>b<w.heap.size) w (f a) cs)
  {fuel:Nat} {cs:List Value} {x:DataW H×List MemPlace} (h:DataW.trod enc Tryz.prog w base spare held fuel t cs=some x) :
  ∃ l:List α,(∀ a,a∈l→ok a)∧RdC (fun b=>b<w.heap.size) w (LD size f z l) cs:=by
 rcases open_slice ht h with ⟨rfl,_⟩ | ⟨a,len,cap,m,n,D,Pl,rfl,hb,hl,hm,hmm,_,hx⟩
 ·exact ⟨[],(fun _ h=>by simp at h),gM _ _ _ _⟩
 ·have hle:len≤m:=by rw [hmm]; split <;> omega
  rw [hc] at hx
  have hspot:0<len→a.spot=none:=fun h0=>by
   obtain ⟨cs',h1,h2⟩:=hx 0 qN
   obtain ⟨_,hlen,hcell⟩:=World.cells?_some h1
   have h0:=hcell 0 hs
   rw [List.getElem?_eq_getElem qN] at h0
   have:=World.cell?_spot h0
   simpa [Addr.add] using this
  have hel:∀ i,∃ y:α,i<len→ok y∧∃ cs',RdC (fun b=>b<w.heap.size) w (f y) cs'∧cs'.length=size∧a.spot=none∧CellsAt (fun b=>b<w.heap.size) w a.block (a.off+i*size) cs':=by
   intro i
   by_cases hi:i<len
   ·obtain ⟨cs',h1,h2⟩:=hx i qN
    obtain ⟨_,hlen,hcell⟩:=World.cells?_some h1
    obtain ⟨y,hy1,hy2⟩:=el n cs' _ hlen h2
    have hsp:=hspot qN
    refine ⟨y,fun _=>⟨hy1,cs',hy2,hlen,hsp,fun j hj=>?_⟩⟩
    have h0:=hcell j qN
    have ha:(a.add (i*size)).add j=⟨a.block,a.off+i*size+j,none⟩:=by
     obtain ⟨b,o,s⟩:=a
     simp only at hsp
     subst hsp
     rw [eX,eX]
    rw [ha] at h0
    refine ⟨?_,h0⟩
    rw [List.getElem?_eq_getElem hj] at h0
    unfold World.cell? at h0
    simp only at h0
    split at h0
    ·rename_i heq
     exact (Array.getElem?_eq_some_iff.1 heq).1
    ·simp at h0
   ·exact ⟨z,fun h=>absurd h hi⟩
  have hch:=fun i=>Classical.choose_spec (hel i)
  let g:Nat→α:=fun i=>Classical.choose (hel i)
  have hg:∀ i,i<len→((List.range len).map g).getD i z=g i:=fun i hi=>by simp [gE,hi]
  refine ⟨(List.range len).map g,fun y hy=>?_,?_⟩
  ·obtain ⟨i,hi,rfl⟩:=List.mem_map.1 hy
   exact (hch i (List.mem_range.1 hi)).1
  ·unfold LD
   rw [List.length_map,List.length_range]
   refine ⟨some a,cap,rfl,hl,hm,fun h=>by simp at h,fun b hb' hpos=>?_,fun i hi=>?_⟩
   ·simp only [Option.some.injEq] at hb'
    subst hb'
    obtain ⟨_,_,_,_,hsp,_⟩:=hch 0 hpos
    exact hsp
   ·obtain ⟨_,cs',q1,q2,_,q3⟩:=hch i hi
    refine ⟨a,cs',rfl,?_,q2,q3⟩
    show RdC _ _ (f (((List.range len).map g).getD i z)) cs'
    rw [hg i hi]; exact q1
theorem rd_limbs {fuel:Nat} {cs:List Value} {x:DataW H×List MemPlace} (h:DataW.trod enc Tryz.prog w base spare held fuel 24 cs=some x):∃ l:List Nat,Lim l∧RdC (fun b=>b<w.heap.size) w (U l) cs:=by
 obtain ⟨l,h1,h2⟩:=rd_slice (size:=1) (fun n:Nat=>.one (.int .u64 (n:Int))) 0 (fun n=>n<18446744073709551616) Tryz.underlying24 qK qE (fun n cs x _ h=>by
  obtain ⟨n,hn,rfl⟩:=rd_u64 h
  exact ⟨n,hn,rfl,rfl⟩) h
 exact ⟨l,h1,h2⟩
theorem rd_int2 {P:Program} {t tb tl:TypeId} {f0 f1:Field} (ht:P.underlying t=some (.struct #[f0,f1])) (h0t:f0.type=tb) (h0o:f0.offset=0) (h1t:f1.type=tl) (h1o:f1.offset=1)
  (cb:P.cellsOf tb=1) (cl:P.cellsOf tl=1) (hb:P.underlying tb=some .bool) (el:∀ (n:Nat) (cs:List Value) (x:DataW H×List MemPlace),DataW.trod enc P w base spare held n tl cs=some x→∃ l:List Nat,Lim l∧RdC (fun b=>b<w.heap.size) w (U l) cs)
  {fuel:Nat} {cs:List Value} {x:DataW H×List MemPlace} (hl:cs.length=2) (h:DataW.trod enc P w base spare held fuel t cs=some x):∃ y:Bool×List Nat,Lim y.2∧RdC (fun b=>b<w.heap.size) w (J y) cs:=by
 obtain ⟨y0,y1,n,_,hlen,h0,h1⟩:=trod_struct2 ht h
 rw [h0t,h0o,cb] at h0
 rw [h1t,h1o,cl] at h1
 match cs,hl with
 | [c0,c1],_ =>
  obtain ⟨s,hs,_⟩:=DataW.trod_bool hb h0
  obtain ⟨l,hl1,hl2⟩:=el _ _ _ h1
  have hc0:c0=.bool s:=by simpa using hs
  subst hc0
  exact ⟨(s,l),hl1,[.bool s],[c1],rfl,⟨rfl,rfl⟩,hl2⟩
theorem rd_int {fuel:Nat} {cs:List Value} {x:DataW H×List MemPlace} (hl:cs.length=2) (h:DataW.trod enc Tryz.prog w base spare held fuel 26 cs=some x):∃ y:Bool×List Nat,Lim y.2∧RdC (fun b=>b<w.heap.size) w (J y) cs :=
 rd_int2 Tryz.underlying26 rfl rfl rfl rfl (tb:=4) (tl:=24) qK qK Tryz.underlying4 (fun _ _ _ h=>rd_limbs h) hl h
theorem rd_poly {fuel:Nat} {cs:List Value} {x:DataW H×List MemPlace} (h:DataW.trod enc Tryz.prog w base spare held fuel 23 cs=some x):∃ r:Row,(∀ y,y∈r→Lim y.2)∧RdC (fun b=>b<w.heap.size) w (V r) cs:=by
 obtain ⟨l,h1,h2⟩:=rd_slice (size:=2) J z0 (fun y=>Lim y.2) Tryz.underlying23 qK qE (fun n cs x hl h=>rd_int hl h) h
 exact ⟨l,h1,h2⟩
end
theorem i64_of {n:Int} (h:(Lit.int .i64 n).wf=true) : -9223372036854775808≤n∧n<9223372036854775808:=by
 simp [Lit.wf,IntKind.min,IntKind.max,IntKind.signed,IntKind.bits] at h
 omega
theorem calls_of_meets {g:FuncId} {args:List Value} {fs:List bD} {w:World} (h:Meets Tryz.prog g args fs (fun r os fs'=>os=[]∧fs'=[]∧r=.bool true)) (hf:HF (fun b=>b<w.heap.size) w fs) :
  Calls Tryz.prog g args.toArray w fun e w'=>e=.returned (.bool true)∧Below w.heap.size w w':=by
 refine (h.calls (fun _=>False) w (fun _ h=>h.elim) (hf.mono (fun _ _=>rfl) fun b hb=>⟨hb,id⟩)).mono ?_
 rintro e w' ⟨v,os',fs',rfl,⟨rfl,rfl,rfl⟩,hh⟩
 exact ⟨rfl,hh.below⟩
theorem own0:ownKnob Tryz.prog.godebug=none:=by kernel_rfl
theorem laid0:laidOutB Tryz.prog=true:=by kernel_rfl
open Go.RowKit
class TMap (P:Program) (t:TypeId) (k e:outParam TypeId):Prop where
 und:P.underlying t=some (.map k e)
 keyed:Maps.Keyed P k
def oQ (v:Value) (n:Nat) (k:Nat→Value) (d:Nat→Dat):Own:=bE v 0 0 (fun _=>.mp n k d)
def ownW (p:Value) (n:Nat) (k:Nat→Value) (d:Nat→Dat) (c:Value):Own:=bE p 0 0 (fun i=>if i=0 then .mp n k d else .one c)
def oY (P:Program) (t:TypeId) (v:Value):Prop:=∃ l,keyOf P t v=some l
def skip {α:Type} (j:Nat) (f:Nat→α) (i:Nat):α:=if i<j then f i else f (i+1)
theorem map_make {P:Program} {t:TypeId} {os:List Own} {fs:List bD} {K:bZ} (ks:Nat→Value) (d:Nat→Dat)
  (k:∀ v,(∃ r,v=.map (some r))→K v (oQ v 0 ks d::os) fs):MapMakeK P t os fs K:=by
 refine ⟨fun G w hw=>?_⟩
 have hrun:(val (Instr.makeMap t none)).run P w=.ok (.value (.map (some w.heap.size))) (w.alloc (.map #[] 0)):=by
  simp [val,Instr.makeMap,newObj]
  rfl
 rw [hrun]
 have hb:Below w.heap.size w (w.alloc (.map #[] 0)):=(Below.refl _ _).alloc (Nat.le_refl _) _
 have hnew:(w.alloc (.map #[] 0)).heap[w.heap.size]? = some (.map #[] 0):=by show (w.heap.push _)[w.heap.size]? = _; simp
 exact ⟨hb,_,fs,k _ ⟨_,rfl⟩,hw.alloc _ (.map #[] 0) _ hb rfl (.inr rfl) (.inr (.inr (.inr ⟨rfl,rfl,0,ks,d,rfl,.inl ⟨_, #[],0,rfl,hw.size,hnew,⟨by simp,by simp⟩,Nat.zero_le _,rfl,fun i hi=>absurd hi (Nat.not_lt_zero _)⟩⟩)))⟩
theorem Holds.step2 {G:Ctx} {os:List Own} {fs:List bD} {w w':World} (h:Holds G os fs w) {pos:Nat} {o o':Own} (hp:a8 os pos=some o)
  (ho:w'.os=w.os) (htp:w'.tape=w.tape) (hou:w'.output=w.output) (hsz:w.heap.size≤w'.heap.size)
  (hblk:∀ k,k<w.heap.size→¬ o.has k→w'.heap[k]? = w.heap[k]?)
  (hnew:∀ b,o'.has b→o.has b∨(w.heap.size≤b))
  (hinj:∀ i j b,i<o'.m→j<o'.m→l8 (o'.v i)=some b→l8 (o'.v j)=some b→i=j)
  (hown:lL (Good G.A os w) w w'→(∀ b,Good G.A os w b→Good G.A (setOwn os pos o') w' b)→∀ i,i<o'.m→OwnVal (Good G.A (setOwn os pos o') w') G.B w' (o'.v i) o'.size (o'.n i) (o'.e i)) :
  Holds G (setOwn os pos o') fs w':=by
 have hmem:∀ b,o.has b→eS os b:=fun b hb=>cP.2 ⟨o,bF hp,hb⟩
 have hg:∀ b,Good G.A os w b→Good G.A (setOwn os pos o') w' b:=fun b ⟨g1,g2,g3⟩=>⟨Nat.lt_of_lt_of_le g1 hsz,g2,fun hb=>by
  rcases jU hb with hb | hb
  ·rcases hnew b hb with hb | hb
   ·exact g3 (hmem b hb)
   ·omega
  ·exact g3 hb⟩
 have ha:lL (Good G.A os w) w w':=fun b hb=>hblk b hb.1 fun h'=>hb.2.2 (hmem b h')
 exact h.step hp ho htp hou hsz hblk hnew hinj fun _=>hown ha hg
theorem Ents.get {S:Nat→Prop} {w:World} {es:Array MapEntry} {n:Nat} {k:Nat→Value} {e:Nat→Dat} (h:Ents S w es n k e) {x:MapEntry} {i:Nat} (hx:es.toList[i]? = some x) :
  i<n∧x.key=k i∧∃ cs,RdC S w (e i) cs∧x.val=qG (e i) cs:=by
 have hx':es[i]? = some x:=by simpa using hx
 have hi:i<n:=by have:=(Array.getElem?_eq_some_iff.1 hx').1; have:=h.1; omega
 obtain ⟨y,h1,h2⟩:=h.2 i hi
 rw [hx'] at h1
 obtain rfl:=Option.some.inj h1
 exact ⟨hi,h2⟩
theorem Ents.keys {P:Program} {t:TypeId} {S:Nat→Prop} {w:World} {es:Array MapEntry} {n:Nat} {k:Nat→Value} {e:Nat→Dat} (h:Ents S w es n k e) (hk:∀ i,i<n→oY P t (k i)) :
  ∀ x,x∈es.toList→∃ l,keyOf P t x.key=some l:=fun x hx=>by
 obtain ⟨i,hi⟩:=List.getElem?_of_mem hx
 obtain ⟨h1,h2,_⟩:=h.get hi
 rw [h2]
 exact hk i h1
theorem Stp.push {es:Array MapEntry} {clock:Nat} (h:Stp es clock) (key val:Value):Stp (es.push { key,val,born:=clock }) (clock+1):=by
 refine ⟨fun x hx=>?_,?_⟩
 ·simp only [Array.toList_push,List.mem_append,List.mem_singleton] at hx
  rcases hx with hx | rfl
  ·exact Nat.lt_succ_of_lt (h.1 x hx)
  ·exact Nat.lt_succ_self _
 ·simp only [Array.toList_push,List.map_append,List.map_cons,List.map_nil]
  refine List.nodup_append.2 ⟨h.2,by simp,fun a ha b hb=>?_⟩
  simp only [List.mem_singleton] at hb
  obtain ⟨x,hx,rfl⟩:=List.mem_map.1 ha
  have:=h.1 x hx
  omega
def mpu {α:Type} (j:Nat) (x:α) (f:Nat→α) (i:Nat):α:=if i=j then x else f i
theorem mpu_same {α:Type} (j:Nat) (x:α) (f:Nat→α):mpu j x f j=x:=by simp [mpu]
theorem vN {α:Type} {j:Nat} (x:α) (f:Nat→α) {i:Nat} (h:i≠j):mpu j x f i=f i:=by simp [mpu,h]
theorem map_new {P:Program} {t k e:TypeId} [ht:TMap P t k e] {v key x:Value} {n:Nat} {ks:Nat→Value} {d:Nat→Dat} {dx:Dat} {os:List Own} {fs:List bD} {K:bZ} (pos:Nat) (h:a8 os pos=some (oQ v n ks d))
  (hv:∃ r,v=.map (some r)) (hks:∀ i,i<n→oY P k (ks i)) (hkey:oY P k key) (hno:∀ i,i<n→ks i≠key) (hn:n<maxLen) (hx:Knw os fs x dx)
  (kk:K undef (setOwn os pos (oQ v (n+1) (mpu n key ks) (mpu n dx d))) fs):MapPutK P t v key x os fs K:=by
 refine ⟨fun G w hw=>?_⟩
 obtain ⟨cs,hx1,rfl⟩:=hx G w hw
 obtain ⟨r,rfl⟩:=hv
 rcases hw.own _ (bF h) 0 Nat.zero_lt_one with ⟨h1,_⟩ | ⟨_,_,h1,_⟩ | ⟨_,h1,_⟩ | ⟨_,_,n',k',d',he,⟨r',es,clock,h1,h2,h3,h4,h5,h6⟩ | ⟨_,_,_,_,_,_,_,h1,_⟩⟩
 ·simp [oQ,bE] at h1
 ·simp [oQ,bE] at h1
 ·simp [oQ,bE] at h1
 ·simp only [oQ,bE,Value.map.injEq,Option.some.injEq] at h1
  subst h1
  simp only [oQ,bE,Dat.mp.injEq] at he
  obtain ⟨rfl,rfl,rfl⟩:=he
  obtain ⟨l,hl⟩:=hkey
  have hfind:(Instr.findKey k key es.toList).run P w=.ok none w:=by
   rcases ht.keyed.find w hl es.toList (h6.keys hks) with ⟨g1,_⟩ | ⟨j,e0,g1,g2,g3⟩
   ·exact g1
   ·obtain ⟨q1,q2,_⟩:=h6.get g2
    exact absurd (q2.symm.trans g3) (hno j q1)
  have hrun:(Instr.mapUpdate t (.map (some r)) key (qG dx cs)).run P w=.ok () (ChangeMaps.setBlock w r (.map (es.push ⟨key,qG dx cs,clock⟩) (clock+1))):=by
   simp [Instr.mapUpdate,run_underlying ht.und,MapKept.run_getObj_map h3,ht.keyed.check w false hl,hfind,MapKept.run_setObj_map _ h3,Result.andThen,ChangeMaps.setBlock]
  rw [uK hrun]
  refine ⟨_,fs,kk,hw.step2 h rfl rfl rfl (by simp [ChangeMaps.setBlock]) (fun b _ hb=>?_) (fun b hb=>.inl ?_) (fun i j b hi hj _ _=>by simp only [oQ,bE] at hi hj; omega) fun ha hg i hi=>?_⟩
  ·exact (MapKept.heap_set h3).2 b fun e=>hb ⟨0,Nat.zero_lt_one,by rw [e]; rfl⟩
  ·obtain ⟨i,_,hb⟩:=hb; exact ⟨0,Nat.zero_lt_one,hb⟩
  ·have hes:=h6.mono ha hg
   have hdx:=hx1.mono ha hg
   refine .inr (.inr (.inr ⟨rfl,rfl,n+1,_,_,rfl,.inl ⟨r,_,_,rfl,h2,(MapKept.heap_set h3).1,h4.push _ _,by omega,by simp [h6.1],fun y hy=>?_⟩⟩))
   by_cases hyn:y=n
   ·subst hyn
    rw [mpu_same,mpu_same]
    exact ⟨⟨key,qG dx cs,clock⟩,by rw [← h6.1]; simp,rfl,cs,hdx,rfl⟩
   ·obtain ⟨u,u1,u2,u3⟩:=hes.2 y qN
    rw [vN _ _ hyn,vN _ _ hyn]
    refine ⟨u,?_,u2,u3⟩
    rw [Array.getElem?_push,if_neg (by rw [h6.1]; omega)]
    exact u1
 ·simp [oQ,bE] at h1
theorem Stp.modify {es:Array MapEntry} {clock:Nat} (h:Stp es clock) (j:Nat) (key val:Value):Stp (es.modify j fun e=>{ e with key:=key,val:=val }) clock:=by
 have hm:(es.modify j fun e=>{ e with key:=key,val:=val }).toList.map (·.born)=es.toList.map (·.born):=by
  refine List.ext_getElem? fun i=>?_
  simp only [List.getElem?_map,Array.toList_modify]
  rw [List.getElem?_modify]
  by_cases hij:j=i
  ·simp only [hij,if_true]; cases es.toList[i]? <;> rfl
  ·simp [hij]
 refine ⟨fun x hx=>?_,by rw [hm]; exact h.2⟩
 have:x.born∈es.toList.map (·.born):=by rw [← hm]; exact List.mem_map.2 ⟨x,hx,rfl⟩
 obtain ⟨y,hy,hyb⟩:=List.mem_map.1 this
 rw [← hyb]
 exact h.1 y hy
theorem map_set {P:Program} {t k e:TypeId} [ht:TMap P t k e] {v key x:Value} {n:Nat} {ks:Nat→Value} {d:Nat→Dat} {dx:Dat} {os:List Own} {fs:List bD} {K:bZ} (pos:Nat) (h:a8 os pos=some (oQ v n ks d))
  (hv:∃ r,v=.map (some r)) (hks:∀ i,i<n→oY P k (ks i)) (hkey:oY P k key) (j:Nat) (hj:j<n) (hjk:ks j=key) (hone:∀ i,i<n→ks i=key→i=j) (hx:Knw os fs x dx)
  (kk:K undef (setOwn os pos (oQ v n ks (mpu j dx d))) fs):MapPutK P t v key x os fs K:=by
 refine ⟨fun G w hw=>?_⟩
 obtain ⟨cs,hx1,rfl⟩:=hx G w hw
 obtain ⟨r,rfl⟩:=hv
 rcases hw.own _ (bF h) 0 Nat.zero_lt_one with ⟨h1,_⟩ | ⟨_,_,h1,_⟩ | ⟨_,h1,_⟩ | ⟨_,_,n',k',d',he,⟨r',es,clock,h1,h2,h3,h4,h5,h6⟩ | ⟨_,_,_,_,_,_,_,h1,_⟩⟩
 ·simp [oQ,bE] at h1
 ·simp [oQ,bE] at h1
 ·simp [oQ,bE] at h1
 ·simp only [oQ,bE,Value.map.injEq,Option.some.injEq] at h1
  subst h1
  simp only [oQ,bE,Dat.mp.injEq] at he
  obtain ⟨rfl,rfl,rfl⟩:=he
  obtain ⟨l,hl⟩:=hkey
  obtain ⟨e0,hfind,g2,g3⟩:∃ e0,(Instr.findKey k key es.toList).run P w=.ok (some (j,e0.val)) w∧es.toList[j]? = some e0∧e0.key=key:=by
   rcases ht.keyed.find w hl es.toList (h6.keys hks) with ⟨_,g2⟩ | ⟨j',e0,g1,g2,g3⟩
   ·obtain ⟨u,u1,u2,_⟩:=h6.2 j hj
    exact absurd (u2.trans hjk) (g2 u (List.mem_of_getElem? (by simpa using u1)))
   ·obtain ⟨q1,q2,_⟩:=h6.get g2
    obtain rfl:=hone j' q1 (q2.symm.trans g3)
    exact ⟨e0,g1,g2,g3⟩
  have hes0:es[j]? = some e0:=by simpa using g2
  have hrun:(Instr.mapUpdate t (.map (some r)) key (qG dx cs)).run P w=.ok () (ChangeMaps.setBlock w r (.map (es.modify j fun e=>{ e with key:=key,val:=qG dx cs }) clock)):=by
   simp [Instr.mapUpdate,run_underlying ht.und,MapKept.run_getObj_map h3,ht.keyed.check w false hl,hfind,hes0,g3,ht.keyed.stays w hl,MapKept.run_setObj_map _ h3,Result.andThen,ChangeMaps.setBlock]
  rw [uK hrun]
  refine ⟨_,fs,kk,hw.step2 h rfl rfl rfl (by simp [ChangeMaps.setBlock]) (fun b _ hb=>?_) (fun b hb=>.inl ?_) (fun i j b hi hj _ _=>by simp only [oQ,bE] at hi hj; omega) fun ha hg i hi=>?_⟩
  ·exact (MapKept.heap_set h3).2 b fun e=>hb ⟨0,Nat.zero_lt_one,by rw [e]; rfl⟩
  ·obtain ⟨i,_,hb⟩:=hb; exact ⟨0,Nat.zero_lt_one,hb⟩
  ·have hes:=h6.mono ha hg
   have hdx:=hx1.mono ha hg
   refine .inr (.inr (.inr ⟨rfl,rfl,n,_,_,rfl,.inl ⟨r,_,_,rfl,h2,(MapKept.heap_set h3).1,h4.modify _ _ _,h5,by simp [h6.1],fun y hy=>?_⟩⟩))
   obtain ⟨u,u1,u2,u3⟩:=hes.2 y hy
   by_cases hyn:y=j
   ·subst hyn
    rw [mpu_same]
    exact ⟨{ u with key:=key,val:=qG dx cs },by rw [Array.getElem?_modify,if_pos rfl,u1]; rfl,hjk.symm,cs,hdx,rfl⟩
   ·rw [vN _ _ hyn]
    refine ⟨u,?_,u2,u3⟩
    rw [Array.getElem?_modify,if_neg (fun h=>hyn h.symm)]
    exact u1
 ·simp [oQ,bE] at h1
theorem Rd.mp {S:Nat→Prop} {w:World} {v:Value} {n:Nat} {k:Nat→Value} {e:Nat→Dat} (h:Rd S w v (.mp n k e)) :
  ∃ r es clock,v=.map (some r)∧S r∧w.heap[r]? = some (.map es clock)∧Stp es clock∧n≤maxLen∧Ents S w es n k e:=by
 obtain ⟨cs,⟨r,es,clock,rfl,h2,h3,h4,h5,h6,h7⟩,rfl⟩:=h
 exact ⟨r,es,clock,rfl,h2,h3,h4,h6,h5,fun i hi=>let ⟨x,cs',k1,k2,k3,k4⟩:=h7 i hi; ⟨x,k1,k2,cs',k3,k4⟩⟩
theorem map_get {P:Program} {t k e:TypeId} [ht:TMap P t k e] {v key:Value} {n:Nat} {ks:Nat→Value} {d:Nat→Dat} {os:List Own} {fs:List bD} {K:bZ} (hm:(v,.mp n ks d)∈fs)
  (hks:∀ i,i<n→oY P k (ks i)) (hkey:oY P k key) (j:Nat) (hj:j<n) (hjk:ks j=key) (hone:∀ i,i<n→ks i=key→i=j)
  (kk:∀ u,K u os ((u,d j)::fs)):sL P t v key false os fs K:=by
 refine ⟨fun G w hw=>?_⟩
 obtain ⟨r,es,clock,rfl,h2,h3,h4,h5,h6⟩:=(hw.facts _ hm).mp
 obtain ⟨l,hl⟩:=hkey
 obtain ⟨u,u1,u2,cs,u3,u4⟩:=h6.2 j hj
 refine ⟨u.val,_,fun w' hb=>c9 ?_,kk _,hw.put ⟨cs,u3,u4⟩⟩
 have h3':w'.heap[r]? = some (.map es clock):=(hb.block r h2.1).trans h3
 have hfind:(Instr.findKey k key es.toList).run P w'=.ok (some (j,u.val)) w':=by
  rcases ht.keyed.find w' hl es.toList (h6.keys hks) with ⟨_,g2⟩ | ⟨j',e0,g1,g2,g3⟩
  ·exact absurd (u2.trans hjk) (g2 u (List.mem_of_getElem? (by simpa using u1)))
  ·obtain ⟨q1,q2,_⟩:=h6.get g2
   obtain rfl:=hone j' q1 (q2.symm.trans g3)
   have:es[j']? = some e0:=by simpa using g2
   rw [u1] at this
   obtain rfl:=Option.some.inj this
   exact g1
 simp [Instr.lookup,run_underlying ht.und,MapKept.run_getObj_map h3',ht.keyed.check w' _ hl,hfind,Result.andThen]
class TZeroV (P:Program) (t:TypeId) (d:outParam Dat):Prop where
 zero:∃ i z,P.info? t=some i∧i.zero=some z∧(∀ S w,Rd S w z d)
theorem map_none {P:Program} {t k e:TypeId} [ht:TMap P t k e] {z:Dat} [hz:TZeroV P e z] {v key:Value} {n:Nat} {ks:Nat→Value} {d:Nat→Dat} {os:List Own} {fs:List bD} {K:bZ} (hm:(v,.mp n ks d)∈fs)
  (hks:∀ i,i<n→oY P k (ks i)) (hkey:oY P k key) (hno:∀ i,i<n→ks i≠key)
  (kk:∀ u,K u os ((u,z)::fs)):sL P t v key false os fs K:=by
 refine ⟨fun G w hw=>?_⟩
 obtain ⟨r,es,clock,rfl,h2,h3,h4,h5,h6⟩:=(hw.facts _ hm).mp
 obtain ⟨l,hl⟩:=hkey
 obtain ⟨i,zv,z1,z2,z3⟩:=hz.zero
 refine ⟨zv,_,fun w' hb=>c9 ?_,kk _,hw.put (z3 _ _)⟩
 have h3':w'.heap[r]? = some (.map es clock):=(hb.block r h2.1).trans h3
 have hfind:(Instr.findKey k key es.toList).run P w'=.ok none w':=by
  rcases ht.keyed.find w' hl es.toList (h6.keys hks) with ⟨g1,_⟩ | ⟨j,e0,g1,g2,g3⟩
  ·exact g1
  ·obtain ⟨q1,q2,_⟩:=h6.get g2
   exact absurd (q2.symm.trans g3) (hno j q1)
 simp [Instr.lookup,run_underlying ht.und,MapKept.run_getObj_map h3',ht.keyed.check w' _ hl,hfind,Result.andThen,zeroValue,typeInfo,z1,z2]
theorem leftOf_none (es:Array MapEntry):leftOf es #[]=es:=by simp [leftOf]
theorem map_range {P:Program} {t k e:TypeId} [ht:TMap P t k e] {v:Value} {n:Nat} {ks:Nat→Value} {d:Nat→Dat} {os:List Own} {fs:List bD} {K:bZ} (hm:(v,.mp n ks d)∈fs)
  (kk:∀ p,l5 p→K p (ownW p n ks d (.bool false)::os) fs):RangeK P t v os fs K:=by
 refine ⟨fun G w hw=>?_⟩
 obtain ⟨r,es,clock,rfl,h2,h3,h4,h5,h6⟩:=(hw.facts _ hm).mp
 have hrun:(val (Instr.range t (.map (some r)))).run P w=.ok (.value (.pointer (some ⟨w.heap.size,0,none⟩))) (w.alloc (.mapIter (some r) clock #[] clock)):=iT (run_range_map w t k e r es clock ht.und h3)
 rw [hrun]
 have hb:Below w.heap.size w (w.alloc (.mapIter (some r) clock #[] clock)):=(Below.refl _ _).alloc (Nat.le_refl _) _
 have hnew:(w.alloc (.mapIter (some r) clock #[] clock)).heap[w.heap.size]? = some (.mapIter (some r) clock #[] clock):=by show (w.heap.push _)[w.heap.size]? = _; simp
 have hg:∀ b,Good G.A os w b→Good G.A (ownW (.pointer (some ⟨w.heap.size,0,none⟩)) n ks d (.bool false)::os) (w.alloc (.mapIter (some r) clock #[] clock)) b:=fun b ⟨g1,g2,g3⟩ =>
  ⟨Nat.lt_of_lt_of_le g1 hb.size,g2,fun ho=>ho.elim (fun ⟨i,hi,hv⟩=>by
   simp only [ownW,bE,l8,Option.some.injEq] at hv
   omega) g3⟩
 have ha:lL (Good G.A os w) w (w.alloc (.mapIter (some r) clock #[] clock)):=pS _ Good.lt
 refine ⟨hb,_,fs,kk _ ⟨_,rfl⟩,hw.alloc _ (.mapIter (some r) clock #[] clock) _ hb rfl (.inr rfl) (.inr (.inr (.inr ⟨rfl,rfl,n,ks,d,rfl,.inr
  ⟨_,r,clock, #[],clock,es,clock,rfl,hw.size,hnew,hg r h2,(hb.block r h2.1).trans h3,h4,h4.1,Nat.le_refl _,Nat.le_refl _,by rw [leftOf_none]; exact h6.mono ha hg,fun c hc=>?_⟩⟩)))⟩
 simp only [ownW,bE,if_neg (show ¬ (1:Nat)=0 by decide),Dat.one.injEq] at hc
 cases hc
theorem leftOf_push {es:Array MapEntry} {seen:Array Nat} {x:MapEntry} {j:Nat} (hn:(es.toList.map (·.born)).Nodup) (hx:(leftOf es seen).toList[j]? = some x) :
  (leftOf es (seen.push x.born)).toList=(leftOf es seen).toList.eraseIdx j:=by
 have h1:(leftOf es (seen.push x.born)).toList=(leftOf es seen).toList.filter (fun y => !(y.born==x.born)):=by
  simp only [leftOf,Array.toList_filter,List.filter_filter]
  congr 1
  funext y
  rw [contains_push]
  cases seen.contains y.born <;> cases (y.born==x.born) <;> rfl
 rw [h1]
 refine ChangeMaps.filter_eq_eraseIdx (fun y=>y.born==x.born) _ j x hx qP ?_
 have h2:((leftOf es seen).toList.map (·.born)).Nodup:=by
  refine List.Nodup.sublist ?_ hn
  simp only [leftOf,Array.toList_filter]
  exact List.Sublist.map _ List.filter_sublist
 rw [List.Nodup,List.pairwise_map] at h2
 refine h2.imp fun {a b} hab ⟨e1,e2⟩=>hab ?_
 simp only [beq_iff_eq] at e1 e2
 rw [e1,e2]
theorem walk_next {P:Program} {p:Value} {ty:TypeId} {n:Nat} {ks:Nat→Value} {d:Nat→Dat} {c:Value} {os:List Own} {fs:List bD} {K:bZ} (pos:Nat) (h:a8 os pos=some (ownW p n ks d c)) (hp:l5 p)
  (h0:n=0→K (.tuple #[.bool false]) os fs)
  (h1:∀ j x,j<n→K (.tuple #[.bool true,ks j,x]) (setOwn os pos (ownW p (n - 1) (skip j ks) (skip j d) (.tuple #[ks j,x]))) ((x,d j)::fs)):NextK P p false ty os fs K:=by
 refine ⟨fun G w hw=>?_⟩
 obtain ⟨r0,rfl⟩:=hp
 rcases hw.own _ (bF h) 0 Nat.zero_lt_one with ⟨g1,_⟩ | ⟨_,_,g1,_⟩ | ⟨_,_,g1,_⟩ | ⟨_,_,n',k',d',he,⟨r',es,clock,g1,_⟩ | ⟨r',b,since,seen,last,es,clock,g1,g2,g3,g4,g5,g6,g7,g8,g8',g9,_⟩⟩
 ·simp [ownW,bE] at g1
 ·simp [ownW,bE] at g1
 ·simp [ownW,bE] at g1
 ·simp [ownW,bE] at g1
 simp only [ownW,bE,Value.pointer.injEq,Option.some.injEq,Addr.mk.injEq,and_true] at g1
 subst g1
 simp only [ownW,bE,if_true,Dat.mp.injEq] at he
 obtain ⟨rfl,rfl,rfl⟩:=he
 rcases run_next_at (P:=P) w ty r0 b since last seen es clock g3 g5 g7 g8 with ⟨q1,q2⟩ | ⟨x,q1,w1,q2,q3⟩
 ·rw [iT q2]
  exact ⟨os,fs,h0 (by rw [← g9.1]; exact q1),hw⟩
 ·obtain ⟨j,hj⟩:=List.getElem?_of_mem q1
  obtain ⟨hjn,hk,cs,hcs,hv⟩:=g9.get hj
  rw [iT q3]
  have hr1:w1.heap[r0]? = some (.mapIter (some b) since seen last):=by rcases q2 with rfl | rfl <;> exact g3
  have hset:=MapKept.heap_set (o':=.mapIter (some b) since (seen.push x.born) clock) hr1
  have hw1:w1.heap=w.heap∧w1.os=w.os∧w1.tape=w.tape∧w1.output=w.output:=by rcases q2 with rfl | rfl <;> exact ⟨rfl,rfl,rfl,rfl⟩
  have hne:∀ y,y≠r0→(ChangeMaps.setBlock w1 r0 (.mapIter (some b) since (seen.push x.born) clock)).heap[y]? = w.heap[y]? := fun y hy=>(hset.2 y hy).trans (by rw [hw1.1])
  have hbr:b≠r0:=fun e=>by rw [e,g3] at g5; cases g5
  have hkx:=h1 j x.val hjn
  rw [← hk] at hkx
  refine ⟨_,_,hkx,Holds.put (hw.step2 h hw1.2.1 hw1.2.2.1 hw1.2.2.2 (by simp [ChangeMaps.setBlock,hw1.1]) (fun y _ hy=>hne y fun e=>hy ⟨0,Nat.zero_lt_one,by rw [e]; rfl⟩) (fun y hy=>.inl ?_) (fun i j b hi hj _ _=>by simp only [ownW,bE] at hi hj; omega) fun ha hg i hi=>?_) ?_⟩
  ·obtain ⟨i,_,hy⟩:=hy; exact ⟨0,Nat.zero_lt_one,hy⟩
  ·refine .inr (.inr (.inr ⟨rfl,rfl,n - 1,_,_,rfl,.inr ⟨r0,b,since,seen.push x.born,clock,es,clock,rfl,g2,hset.1,hg b g4,(hne b hbr).trans g5,g6,g7,g8',g8',?_,fun c hc=>?_⟩⟩))
   ·have hl:=leftOf_push g6.2 hj
    have hes:=g9.mono ha hg
    have hlen:(leftOf es seen).toList.length=n:=by simpa using g9.1
    refine ⟨?_,fun y hy=>?_⟩
    ·have:(leftOf es (seen.push x.born)).toList.length=n - 1:=by rw [hl,List.length_eraseIdx,hlen,if_pos hjn]
     simpa using this
    ·have hget:(leftOf es (seen.push x.born))[y]? = (leftOf es seen)[if y<j then y else y+1]? := by
      rw [← Array.getElem?_toList,hl,List.getElem?_eraseIdx]
      split <;> simp
     obtain ⟨u,u1,u2,u3⟩:=hes.2 (if y<j then y else y+1) (by split <;> omega)
     refine ⟨u,hget.trans u1,?_,?_⟩
     ·rw [u2]; unfold skip; split <;> rfl
     ·have e1:skip j d y=d (if y<j then y else y+1):=by unfold skip; split <;> rfl
      rw [e1]; exact u3
   ·simp only [ownW,bE,if_neg (show ¬ (1:Nat)=0 by decide),Dat.one.injEq,Value.tuple.injEq] at hc
    exact ⟨x,seen,(mem_left q1).1,rfl,hc.symm,rfl⟩
  ·have ha:lL (Good G.A os w) w (ChangeMaps.setBlock w1 r0 (.mapIter (some b) since (seen.push x.born) clock)):=fun y hy=>hne y fun e=>hy.2.2 (by rw [e]; exact cP.2 ⟨_,bF h,0,Nat.zero_lt_one,rfl⟩)
   refine ⟨cs,hcs.mono ha fun y ⟨z1,z2,z3⟩=>⟨by simpa [ChangeMaps.setBlock,hw1.1] using z1,z2,fun hy=>?_⟩,hv⟩
   rcases jU hy with hy | hy
   ·obtain ⟨i,hi,hy⟩:=hy
    exact z3 (cP.2 ⟨_,bF h,0,Nat.zero_lt_one,hy⟩)
   ·exact z3 hy
theorem rP {P:Program} {p:Value} {n:Nat} {ks:Nat→Value} {d:Nat→Dat} {c:Array Value} {os:List Own} {fs:List bD} {K:bZ} (pos:Nat) (h:a8 os pos=some (ownW p n ks d (.tuple c))) (hp:l5 p)
  (kk:K (.tuple c) os fs):EntryK P p os fs K:=by
 refine ⟨fun G w hw=>?_⟩
 obtain ⟨r0,rfl⟩:=hp
 rcases hw.own _ (bF h) 0 Nat.zero_lt_one with ⟨g1,_⟩ | ⟨_,_,g1,_⟩ | ⟨_,_,g1,_⟩ | ⟨_,_,n',k',d',he,⟨r',es,clock,g1,_⟩ | ⟨r',b,since,seen,last,es,clock,g1,g2,g3,g4,g5,g6,g7,g8,g8',g9,g10⟩⟩
 ·simp [ownW,bE] at g1
 ·simp [ownW,bE] at g1
 ·simp [ownW,bE] at g1
 ·simp [ownW,bE] at g1
 simp only [ownW,bE,Value.pointer.injEq,Option.some.injEq,Addr.mk.injEq,and_true] at g1
 subst g1
 obtain ⟨x,s0,q1,rfl,rfl,rfl⟩:=g10 c rfl
 rw [iT (run_entry_at (P:=P) w r0 b since s0 es last x g3 g5 q1 g6.2)]
 exact ⟨os,fs,kk,hw⟩
theorem Seals.map {os:List Own} {fs:List bD} (pos:Nat) {v:Value} {n:Nat} {ks:Nat→Value} {d:Nat→Dat} (h:a8 os pos=some (oQ v n ks d)) (hv:∃ r,v=.map (some r)) :
  Seals os fs (cR os pos) ((v,.mp n ks d)::fs):=by
 intro G w hw
 refine (hw.drop pos).put ?_
 have hg:∀ b,Good G.A os w b→Good G.A (cR os pos) w b:=fun b ⟨h1,h2,h3⟩=>⟨h1,h2,fun hb=>h3 (by
  obtain ⟨x,hx,hxb⟩:=cP.1 hb
  obtain ⟨i,_,hi⟩:=iK hx
  exact cP.2 ⟨x,bF hi,hxb⟩)⟩
 obtain ⟨r,rfl⟩:=hv
 rcases hw.own _ (bF h) 0 Nat.zero_lt_one with ⟨h1,_⟩ | ⟨_,_,h1,_⟩ | ⟨_,h1,_⟩ | ⟨_,_,n',k',d',he,⟨r',es,clock,h1,h2,h3,h4,h5,h6⟩ | ⟨_,_,_,_,_,_,_,h1,_⟩⟩
 ·simp [oQ,bE] at h1
 ·simp [oQ,bE] at h1
 ·simp [oQ,bE] at h1
 ·simp only [oQ,bE,Value.map.injEq,Option.some.injEq] at h1
  subst h1
  simp only [oQ,bE,Dat.mp.injEq] at he
  obtain ⟨rfl,rfl,rfl⟩:=he
  refine ⟨[.map (some r)],⟨r,es,clock,rfl,oD hw h ⟨0,Nat.zero_lt_one,rfl⟩,h3,h4,h6.1,h5,fun i hi=>?_⟩,rfl⟩
  obtain ⟨x,x1,x2,cs,x3,x4⟩:=h6.2 i hi
  exact ⟨x,cs,x1,x2,x3.mono (fun _ _=>rfl) hg,x4⟩
 ·simp [oQ,bE] at h1
class TSpot (P:Program) (k:TypeId):Prop where
 und : ∃ f0 f1, P.underlying k = some (.struct #[f0, f1]) ∧ f0.offset = 0 ∧ f1.offset = 1 ∧ (f0.name != "_") = true ∧ (f1.name != "_") = true ∧ P.underlying f0.type = some (.int .i64) ∧ P.underlying f1.type = some (.int .i64) ∧
  P.cellsOf k=2∧P.cellsOf f0.type=1∧P.cellsOf f1.type=1
 kt:P.keyType k=true
 some:∃ m,P.types.size=m+1
def spot (x y:Int):Value:=.agg #[.int .i64 x,.int .i64 y]
def jD (x y:Int):Dat:=.cat (.one (.int .i64 x)) (.one (.int .i64 y))
theorem spot_inj {x y x' y':Int} (h:spot x y=spot x' y'):x=x'∧y=y':=by
 simp only [spot,Value.agg.injEq,Array.mk.injEq,List.cons.injEq,Value.int.injEq,true_and,and_true] at h
 exact h
theorem spot_key {P:Program} {k:TypeId} [ht:TSpot P k] {x y:Int} (hx:inK .i64 x) (hy:inK .i64 y):oY P k (spot x y):=by
 obtain ⟨f0,f1,h1,h2,h3,h4,h5,h6,h7,h8,h9,h10⟩:=ht.und
 obtain ⟨m,hm⟩:=ht.some
 simp only [inK] at hx hy
 have wx:(Lit.int .i64 x).wf=true:=by simp [Lit.wf,IntKind.min,IntKind.max,IntKind.bits,IntKind.signed]; omega
 have wy:(Lit.int .i64 y).wf=true:=by simp [Lit.wf,IntKind.min,IntKind.max,IntKind.bits,IntKind.signed]; omega
 refine ⟨.string (keyBytes [.int .i64 x,.int .i64 y]),?_⟩
 unfold keyOf
 simp only [h1,ht.kt,spot,Value.formed,h8,Bool.true_and,List.size_toArray,List.length_cons,List.length_nil,beq_self_eq_true,if_true,hm,Value.cells]
 have e:P.keyLits (m+1+1) k [.int .i64 x,.int .i64 y]=some [.int .i64 x,.int .i64 y]:=by
  unfold Program.keyLits
  simp only [h1,h8,List.length_cons,List.length_nil]
  have k0:P.keyLits (m+1) f0.type [.int .i64 x]=some [.int .i64 x]:=by unfold Program.keyLits; simp [h6,wx]
  have k1:P.keyLits (m+1) f1.type [.int .i64 y]=some [.int .i64 y]:=by unfold Program.keyLits; simp [h7,wy]
  simp [h2,h3,h4,h5,h9,h10,k0,k1]
 rw [e]; rfl
theorem Rd.spot {S:Nat→Prop} {w:World} {v:Value} {x y:Int} (h:Rd S w v (jD x y)):v=Go.Proofs.YtjebljkoiaojaaaGreat.spot x y:=by
 obtain ⟨cs,⟨c1,c2,rfl,⟨rfl,_⟩,⟨rfl,_⟩⟩,rfl⟩:=h
 rfl
theorem Reads.spot {os:List Own} {fs:List bD} (x y:Int):Reads os fs (spot x y) (jD x y):=fun _ _ _=>⟨[.int .i64 x,.int .i64 y],⟨[_],[_],rfl,⟨rfl,rfl⟩,⟨rfl,rfl⟩⟩,rfl⟩
theorem oX {P:Program} {t:TypeId} {z0 z1:Value} [ht:TStr2 P t z0 z1] {x y:Int} {os:List Own} {fs:List bD} {K:bZ} (k:K (spot x y) os fs):rJ P t [(0,.int .i64 x),(1,.int .i64 y)] os fs K :=
 ⟨fun _ _ hw=>⟨_,_,fun w' _=>c9 (build_run2 ht rfl rfl w'),k,hw⟩⟩
theorem vO {P:Program} {t:TypeId} {v:Value} {size:Nat} {e:Nat→Dat} {x y:Int} {os:List Own} {fs:List bD} {K:bZ} [ht:TAgg P t 2] (pos:Nat) (h:a8 os pos=some (bE v size 1 e)) (hb:l5 v)
  (hd:e 0=jD x y) (k':K (spot x y) os fs):kE P t v os fs K:=by
 obtain ⟨r,rfl⟩:=hb
 refine ⟨fun G w hw=>?_⟩
 have hov:=hw.own _ (bF h) 0 Nat.zero_lt_one
 obtain ⟨r',cap,hr⟩:=hov.row Nat.zero_lt_one
 obtain ⟨cs,g1,g2,g3⟩:=hr.row.cellsAt Nat.zero_lt_one
 have hrr:r'=r:=by have:=hr.blk; simp [bE,l8] at this; exact this.symm
 subst hrr
 have g1':RdC (Good G.A os w) w (jD x y) cs:=hd ▸ g1
 have hp:qG (jD x y) cs=spot x y:=Rd.spot ⟨cs,g1',rfl⟩
 refine ⟨_,fs,fun w' hb=>c9 ?_,k',hw⟩
 have:=mD (P:=P) (t:=t) (w:=w') (r:=r') (o:=0) (d:=jD x y) ht g1' fun j hj=>by
  have:=g3 w' (hb.block r' (hov.blk hr.blk).2) j hj
  simpa using this
 rwa [hp] at this
class TKy (P:Program) (k:TypeId):Prop where
 key:∀ {x y:Int},inK .i64 x→inK .i64 y→oY P k (spot x y)
instance (priority:=low) TSpot.ky {P:Program} {k:TypeId} [TSpot P k]:TKy P k:=⟨spot_key⟩
section
variable {α:Type}
def spk (t:Nat×Nat×α):Value:=spot (t.1:Nat) (t.2.1:Nat)
def Nd (L:List (Nat×Nat×α)):Prop:=L.Pairwise fun s t=>¬ (s.1=t.1∧s.2.1=t.2.1)
def In64 (L:List (Nat×Nat×α)):Prop:=∀ t,t∈L→t.1<1073741824∧t.2.1<1073741824
def lk (z:α) (L:List (Nat×Nat×α)) (i j:Nat):α:=((L.find? fun t=>t.1==i&&t.2.1==j).map fun t=>t.2.2).getD z
def s9 (z:α) (L:List (Nat×Nat×α)) (i:Nat):Value:=spk (L.getD i (0,0,z))
def mapE (f:α→Dat) (z:α) (L:List (Nat×Nat×α)) (i:Nat):Dat:=f (L.getD i (0,0,z)).2.2
def MD (f:α→Dat) (z:α) (L:List (Nat×Nat×α)):Dat:=.mp L.length (s9 z L) (mapE f z L)
def mC (f:α→Dat) (z:α) (v:Value) (L:List (Nat×Nat×α)):Own:=oQ v L.length (s9 z L) (mapE f z L)
theorem qR {P:Program} {k:TypeId} [TKy P k] {z:α} {L:List (Nat×Nat×α)} (h:In64 L) (i:Nat) (hi:i<L.length):oY P k (s9 z L i):=by
 have hm:L.getD i (0,0,z)∈L:=by rw [gE,List.getElem?_eq_getElem hi]; exact List.getElem_mem hi
 have:=h _ hm
 exact TKy.key ⟨by omega,by omega⟩ ⟨by omega,by omega⟩
theorem mapK_eq {z:α} {L:List (Nat×Nat×α)} {i a b:Nat} (h:s9 z L i=spot (a:Nat) (b:Nat)):(L.getD i (0,0,z)).1=a∧(L.getD i (0,0,z)).2.1=b:=by
 have:=spot_inj h
 omega
theorem lk_some {z:α} {L:List (Nat×Nat×α)} {i j:Nat}:(∃ n,n<L.length∧s9 z L n=spot (i:Nat) (j:Nat)∧lk z L i j=(L.getD n (0,0,z)).2.2)∨((∀ n,n<L.length→s9 z L n≠spot (i:Nat) (j:Nat))∧lk z L i j=z):=by
 unfold lk
 cases hf:L.find? fun t=>t.1==i&&t.2.1==j with
 | none =>
  refine .inr ⟨fun n hn e=>?_,rfl⟩
  obtain ⟨e1,e2⟩:=mapK_eq e
  have hm:L.getD n (0,0,z)∈L:=by rw [gE,List.getElem?_eq_getElem hn]; exact List.getElem_mem hn
  have:=List.find?_eq_none.1 hf _ hm
  rw [e1,e2] at this
  simp at this
 | some t =>
  have h1:=List.find?_some hf
  obtain ⟨n,hn,e⟩:=List.mem_iff_getElem.1 (List.mem_of_find?_eq_some hf)
  have hg:L.getD n (0,0,z)=t:=by rw [gE,List.getElem?_eq_getElem hn]; exact e
  simp only [Bool.and_eq_true,beq_iff_eq] at h1
  refine .inl ⟨n,hn,?_,by rw [hg]; rfl⟩
  unfold s9
  rw [hg]
  unfold spk
  rw [h1.1,h1.2]
theorem Nd.one {z:α} {L:List (Nat×Nat×α)} (h:Nd L) {m n:Nat} (hm:m<L.length) (hn:n<L.length) (e:s9 z L m=s9 z L n):m=n:=by
 have:=spot_inj e
 simp only [gE,List.getElem?_eq_getElem hm,List.getElem?_eq_getElem hn,Option.getD_some] at this
 have e1:L[m].1=L[n].1∧L[m].2.1=L[n].2.1:=by omega
 rcases Nat.lt_trichotomy m n with hlt | rfl | hgt
 ·exact absurd e1 (List.pairwise_iff_getElem.1 h m n hm hn hlt)
 ·rfl
 ·exact absurd ⟨e1.1.symm,e1.2.symm⟩ (List.pairwise_iff_getElem.1 h n m hn hm hgt)
theorem get_L {P:Program} {t k e:TypeId} [ht:TMap P t k e] [TKy P k] {f:α→Dat} {z:α} [hz:TZeroV P e (f z)] {v:Value} {L:List (Nat×Nat×α)} {i j:Nat} {os:List Own} {fs:List bD} {K:bZ} (hm:(v,MD f z L)∈fs)
  (hL:In64 L) (hn:Nd L) (hi:i<1073741824) (hj:j<1073741824) (kk:∀ u,K u os ((u,f (lk z L i j))::fs)):sL P t v (spot (i:Nat) (j:Nat)) false os fs K:=by
 have hkey:oY P k (spot (i:Nat) (j:Nat)):=TKy.key ⟨by omega,by omega⟩ ⟨by omega,by omega⟩
 rcases lk_some (z:=z) (L:=L) (i:=i) (j:=j) with ⟨n,h1,h2,h3⟩ | ⟨h1,h2⟩
 ·refine map_get hm (qR hL) hkey n h1 h2 (fun m hm e=>hn.one hm h1 (e.trans h2.symm)) fun u=>?_
  have:=kk u
  rw [h3] at this; exact this
 ·refine map_none hm (qR hL) hkey h1 fun u=>?_
  have:=kk u
  rw [h2] at this; exact this
theorem get_own_L {P:Program} {t k e:TypeId} [ht:TMap P t k e] [TKy P k] {f:α→Dat} {z:α} [hz:TZeroV P e (f z)] {v:Value} {L:List (Nat×Nat×α)} {i j:Nat} {os:List Own} {fs:List bD} {K:bZ} (pos:Nat) (h:a8 os pos=some (mC f z v L))
  (hv:∃ r,v=.map (some r)) (hL:In64 L) (hn:Nd L) (hi:i<1073741824) (hj:j<1073741824) (kk:∀ u,K u os ((u,f (lk z L i j))::fs)):sL P t v (spot (i:Nat) (j:Nat)) false os fs K:=by
 have hkey:oY P k (spot (i:Nat) (j:Nat)):=TKy.key ⟨by omega,by omega⟩ ⟨by omega,by omega⟩
 refine ⟨fun G w hw=>?_⟩
 obtain ⟨r,rfl⟩:=hv
 rcases hw.own _ (bF h) 0 Nat.zero_lt_one with ⟨h1,_⟩ | ⟨_,_,h1,_⟩ | ⟨_,h1,_⟩ | ⟨_,_,n',k',d',he,⟨r',es,clock,h1,h2,h3,h4,h5,h6⟩ | ⟨_,_,_,_,_,_,_,h1,_⟩⟩
 ·simp [mC,oQ,bE] at h1
 ·simp [mC,oQ,bE] at h1
 ·simp [mC,oQ,bE] at h1
 ·simp only [mC,oQ,bE,Value.map.injEq,Option.some.injEq] at h1
  subst h1
  simp only [mC,oQ,bE,Dat.mp.injEq] at he
  obtain ⟨rfl,rfl,rfl⟩:=he
  obtain ⟨l,hl⟩:=hkey
  have hks:=qR (P:=P) (k:=k) (z:=z) hL
  have hbr:r<w.heap.size:=(Array.getElem?_eq_some_iff.1 h3).1
  rcases lk_some (z:=z) (L:=L) (i:=i) (j:=j) with ⟨n,g1,g2,g3⟩ | ⟨g1,g2⟩
  ·obtain ⟨u,u1,u2,cs,u3,u4⟩:=h6.2 n g1
   rw [g3] at kk
   refine ⟨u.val,_,fun w' hb=>c9 ?_,kk _,hw.put ⟨cs,u3,u4⟩⟩
   have h3':w'.heap[r]? = some (.map es clock):=(hb.block r hbr).trans h3
   have hfind:(Instr.findKey k (spot (i:Nat) (j:Nat)) es.toList).run P w'=.ok (some (n,u.val)) w':=by
    rcases ht.keyed.find w' hl es.toList (h6.keys hks) with ⟨_,q2⟩ | ⟨j',e0,q1,q2,q3⟩
    ·exact absurd (u2.trans g2) (q2 u (List.mem_of_getElem? (by simpa using u1)))
    ·obtain ⟨p1,p2,_⟩:=h6.get q2
     obtain rfl:=hn.one (z:=z) p1 g1 ((p2.symm.trans q3).trans g2.symm)
     have:es[j']? = some e0:=by simpa using q2
     rw [u1] at this
     obtain rfl:=Option.some.inj this
     exact q1
   simp [Instr.lookup,run_underlying ht.und,MapKept.run_getObj_map h3',ht.keyed.check w' _ hl,hfind,Result.andThen]
  ·obtain ⟨i0,zv,z1,z2,z3⟩:=hz.zero
   rw [g2] at kk
   refine ⟨zv,_,fun w' hb=>c9 ?_,kk _,hw.put (z3 _ _)⟩
   have h3':w'.heap[r]? = some (.map es clock):=(hb.block r hbr).trans h3
   have hfind:(Instr.findKey k (spot (i:Nat) (j:Nat)) es.toList).run P w'=.ok none w':=by
    rcases ht.keyed.find w' hl es.toList (h6.keys hks) with ⟨q1,_⟩ | ⟨j',e0,q1,q2,q3⟩
    ·exact q1
    ·obtain ⟨p1,p2,_⟩:=h6.get q2
     exact absurd (p2.symm.trans q3) (g1 j' p1)
   simp [Instr.lookup,run_underlying ht.und,MapKept.run_getObj_map h3',ht.keyed.check w' _ hl,hfind,Result.andThen,zeroValue,typeInfo,z1,z2]
 ·simp [mC,oQ,bE] at h1
theorem mpu_K {z:α} (L:List (Nat×Nat×α)) (t:Nat×Nat×α):mpu L.length (spk t) (s9 z L)=s9 z (L++[t]):=by
 funext i
 unfold mpu s9
 by_cases h:i=L.length
 ·subst h; simp [gE]
 ·rw [if_neg h]
  simp only [gE]
  by_cases h2:i<L.length
  ·rw [List.getElem?_append_left h2]
  ·rw [List.getElem?_eq_none qN,List.getElem?_eq_none (by simp; omega)]
theorem mpu_E {f:α→Dat} {z:α} (L:List (Nat×Nat×α)) (t:Nat×Nat×α):mpu L.length (f t.2.2) (mapE f z L)=mapE f z (L++[t]):=by
 funext i
 unfold mpu mapE
 by_cases h:i=L.length
 ·subst h; simp [gE]
 ·rw [if_neg h]
  simp only [gE]
  by_cases h2:i<L.length
  ·rw [List.getElem?_append_left h2]
  ·rw [List.getElem?_eq_none qN,List.getElem?_eq_none (by simp; omega)]
theorem set_K {z:α} {L:List (Nat×Nat×α)} {n:Nat} (hn:n<L.length) (a:α):s9 z (L.set n ((L.getD n (0,0,z)).1,(L.getD n (0,0,z)).2.1,a))=s9 z L:=by
 funext i
 unfold s9
 simp only [gE,List.getElem?_set]
 by_cases h:n=i
 ·subst h; simp [hn,spk]
 ·simp [h]
theorem set_E {f:α→Dat} {z:α} {L:List (Nat×Nat×α)} {n:Nat} (hn:n<L.length) (a:α):mapE f z (L.set n ((L.getD n (0,0,z)).1,(L.getD n (0,0,z)).2.1,a))=mpu n (f a) (mapE f z L):=by
 funext i
 unfold mapE mpu
 simp only [gE,List.getElem?_set]
 by_cases h:n=i
 ·subst h; simp [hn]
 ·simp [h,Ne.symm h]
theorem skip_K {z:α} {L:List (Nat×Nat×α)} (j:Nat):skip j (s9 z L)=s9 z (L.eraseIdx j):=by
 funext i
 unfold skip s9
 simp only [gE,List.getElem?_eraseIdx]
 split <;> rfl
theorem skip_E {f:α→Dat} {z:α} {L:List (Nat×Nat×α)} (j:Nat):skip j (mapE f z L)=mapE f z (L.eraseIdx j):=by
 funext i
 unfold skip mapE
 simp only [gE,List.getElem?_eraseIdx]
 split <;> rfl
def mput (L:List (Nat×Nat×α)) (i j:Nat) (a:α):List (Nat×Nat×α) :=
 match L.findIdx? fun t=>t.1==i&&t.2.1==j with
 | some n=>L.set n (i,j,a)
 | none=>L++[(i,j,a)]
theorem put_L {P:Program} {t k e:TypeId} [ht:TMap P t k e] [TKy P k] {f:α→Dat} {z:α} {v x:Value} {L:List (Nat×Nat×α)} {i j:Nat} (a:α) {os:List Own} {fs:List bD} {K:bZ} (pos:Nat) (h:a8 os pos=some (mC f z v L))
  (hv:∃ r,v=.map (some r)) (hL:In64 L) (hnd:Nd L) (hi:i<1073741824) (hj:j<1073741824) (hn:L.length<maxLen) (hx:Knw os fs x (f a))
  (kk:K undef (setOwn os pos (mC f z v (mput L i j a))) fs):MapPutK P t v (spot (i:Nat) (j:Nat)) x os fs K:=by
 have hkey:oY P k (spot (i:Nat) (j:Nat)):=TKy.key ⟨by omega,by omega⟩ ⟨by omega,by omega⟩
 unfold mput at kk
 cases hf:L.findIdx? fun t=>t.1==i&&t.2.1==j with
 | none =>
  rw [hf] at kk
  refine map_new pos h hv (qR hL) hkey (fun n hn e=>?_) hn hx ?_
  ·obtain ⟨e1,e2⟩:=mapK_eq e
   have hm:L.getD n (0,0,z)∈L:=by rw [gE,List.getElem?_eq_getElem hn]; exact List.getElem_mem hn
   have:=List.findIdx?_eq_none_iff.1 hf _ hm
   rw [e1,e2] at this
   simp at this
  ·have e1:=mpu_K (z:=z) L (i,j,a)
   have e2:=mpu_E (f:=f) (z:=z) L (i,j,a)
   simp only at e2
   show K undef (setOwn os pos (oQ v (L.length+1) (mpu L.length (spk (i,j,a)) (s9 z L)) (mpu L.length (f a) (mapE f z L)))) fs
   rw [e1,e2]
   simp only [mC,List.length_append,List.length_cons,List.length_nil] at kk
   exact kk
 | some n =>
  rw [hf] at kk
  obtain ⟨hnl,h1,_⟩:=List.findIdx?_eq_some_iff_getElem.1 hf
  simp only [Bool.and_eq_true,beq_iff_eq] at h1
  have hg:L.getD n (0,0,z)=L[n]:=by rw [gE,List.getElem?_eq_getElem hnl]; rfl
  have hk:s9 z L n=spot (i:Nat) (j:Nat):=by unfold s9 spk; rw [hg,h1.1,h1.2]
  refine map_set pos h hv (qR hL) hkey n hnl hk (fun m hm e=>hnd.one hm hnl (e.trans hk.symm)) hx ?_
  have e1:=set_K (z:=z) hnl a
  have e2:=set_E (f:=f) (z:=z) hnl a
  rw [hg,h1.1,h1.2] at e1 e2
  simp only [mC,List.length_set,e1,e2] at kk
  exact kk
def ownWD (f:α→Dat) (z:α) (p:Value) (L:List (Nat×Nat×α)) (c:Value):Own:=ownW p L.length (s9 z L) (mapE f z L) c
theorem make_L {P:Program} {t:TypeId} (f:α→Dat) (z:α) {os:List Own} {fs:List bD} {K:bZ} (k:∀ v,(∃ r,v=.map (some r))→K v (mC f z v []::os) fs):MapMakeK P t os fs K :=
 map_make (s9 z []) (mapE f z []) k
theorem range_L {P:Program} {t k e:TypeId} [ht:TMap P t k e] {f:α→Dat} {z:α} {v:Value} {L:List (Nat×Nat×α)} {os:List Own} {fs:List bD} {K:bZ} (hm:(v,MD f z L)∈fs)
  (kk:∀ p,l5 p→K p (ownWD f z p L (.bool false)::os) fs):RangeK P t v os fs K:=map_range hm kk
theorem next_L {P:Program} {p:Value} {ty:TypeId} {f:α→Dat} {z:α} {L:List (Nat×Nat×α)} {c:Value} {os:List Own} {fs:List bD} {K:bZ} (pos:Nat) (h:a8 os pos=some (ownWD f z p L c)) (hp:l5 p)
  (h0:L=[]→K (.tuple #[.bool false]) os fs)
  (h1:∀ n i j a x,n<L.length→L[n]? = some (i,j,a)→K (.tuple #[.bool true,spot (i:Nat) (j:Nat),x]) (setOwn os pos (ownWD f z p (L.eraseIdx n) (.tuple #[spot (i:Nat) (j:Nat),x]))) ((x,f a)::fs)):NextK P p false ty os fs K:=by
 refine walk_next pos h hp (fun e=>h0 (List.eq_nil_of_length_eq_zero e)) fun n x hn=>?_
 obtain ⟨⟨i,j,a⟩,hg⟩:∃ t,L[n]? = some t:=⟨_,List.getElem?_eq_getElem hn⟩
 have hg':L.getD n (0,0,z)=(i,j,a):=by rw [gE,hg]; rfl
 have:=h1 n i j a x hn hg
 unfold ownWD at this
 rw [List.length_eraseIdx,if_pos hn,← skip_K,← skip_E] at this
 unfold s9 mapE spk at this ⊢
 rw [hg']
 exact this
theorem Seals.mapL {f:α→Dat} {z:α} {os:List Own} {fs:List bD} (pos:Nat) {v:Value} {L:List (Nat×Nat×α)} (h:a8 os pos=some (mC f z v L)) (hv:∃ r,v=.map (some r)) :
  Seals os fs (cR os pos) ((v,MD f z L)::fs):=Seals.map pos h hv
end
class TArr2 (P:Program) (t:TypeId):Prop where
 und:∃ e,P.underlying t=some (.array 2 e)∧P.underlying e=some (.int .i64)∧(P.info? e).map (·.size)=some 1∧P.cellsOf t=2∧P.cellsOf e=1
 zero:∃ i,P.info? t=some i∧i.zero=some (.agg #[.int .i64 0,.int .i64 0])
 kt:P.keyType t=true
 some:∃ m,P.types.size=m+1
theorem mI {P:Program} {t:TypeId} [ht:TArr2 P t] {x y:Int} {os:List Own} {fs:List bD} {K:bZ} (k:K (spot x y) os fs):rJ P t [(0,.int .i64 x),(1,.int .i64 y)] os fs K:=by
 obtain ⟨e,h1,h2,h3,h4,h5⟩:=ht.und
 obtain ⟨i,h7,h8⟩:=ht.zero
 refine ⟨fun _ _ hw=>⟨_,_,fun w' _=>c9 ?_,k,hw⟩⟩
 simp [Instr.build,zeroValue,typeInfo,h7,h8,run_underlying h1,bQ h3,Instr.fill,spot,show (Value.agg #[.int .i64 0,.int .i64 0]).cells = #[.int .i64 0,.int .i64 0] from rfl,show ∀ z,(Value.int .i64 z).cells = #[.int .i64 z] from fun _=>rfl]
theorem arr_key {P:Program} {k:TypeId} [ht:TArr2 P k] {x y:Int} (hx:inK .i64 x) (hy:inK .i64 y):oY P k (spot x y):=by
 obtain ⟨e,h1,h2,h3,h4,h5⟩:=ht.und
 obtain ⟨m,hm⟩:=ht.some
 simp only [inK] at hx hy
 have wx:(Lit.int .i64 x).wf=true:=by simp [Lit.wf,IntKind.min,IntKind.max,IntKind.bits,IntKind.signed]; omega
 have wy:(Lit.int .i64 y).wf=true:=by simp [Lit.wf,IntKind.min,IntKind.max,IntKind.bits,IntKind.signed]; omega
 refine ⟨.string (keyBytes [.int .i64 x,.int .i64 y]),?_⟩
 unfold keyOf
 simp only [h1,ht.kt,spot,Value.formed,h4,Bool.true_and,List.size_toArray,List.length_cons,List.length_nil,beq_self_eq_true,if_true,hm,Value.cells]
 have e:P.keyLits (m+1+1) k [.int .i64 x,.int .i64 y]=some [.int .i64 x,.int .i64 y]:=by
  unfold Program.keyLits
  simp only [h1,h4,List.length_cons,List.length_nil]
  have k0:∀ z,(Lit.int .i64 z).wf=true→P.keyLits (m+1) e [.int .i64 z]=some [.int .i64 z]:=fun z hz=>by unfold Program.keyLits; simp [h2,hz]
  have e2:List.range 2=[0,1]:=rfl
  simp [e2,h5,k0 x wx,k0 y wy]
 rw [e]; rfl
instance (priority:=low) TArr2.ky {P:Program} {k:TypeId} [TArr2 P k]:TKy P k:=⟨arr_key⟩
theorem fA {P:Program} {t:TypeId} [ht:TArr2 P t] {v:Value} {kk:IntKind} {x:Int} {os:List Own} {fs:List bD} {K:bZ} (hb:l5 v) (j:Nat) (hj:x=(j:Int)) (hlt:j<2) (k:K (k6 v j) os fs) :
  eM P t v (.int kk x) os fs K:=by
 obtain ⟨e,h1,h2,h3,h4,h5⟩:=ht.und
 obtain ⟨r,rfl⟩:=hb
 subst hj
 refine ⟨fun _ _ hw=>⟨_,_,fun w' _=>c9 ?_,k,hw⟩⟩
 have h0:(0:Int)≤(j:Int)∧(j:Int)<2:=by omega
 simp [Instr.indexAt,asIntOf,run_underlying h1,Instr.sureAddr,bQ h3,k6,h0]
 intro h; omega
instance (priority:=low) TArr2.agg {P:Program} {t:TypeId} [ht:TArr2 P t]:TAgg P t 2:=by
 obtain ⟨e,h1,h2,h3,h4,h5⟩:=ht.und
 refine ⟨⟨_,h1,rfl⟩,?_⟩
 obtain ⟨i,h6,h7⟩:=ht.zero
 unfold Program.cellsOf at h4
 rw [h6] at h4 ⊢
 simpa using h4
class TPlan (P:Program) (t:TypeId):Prop where
 und:∃ fs f0 f1 f2 f3,P.underlying t=some (.struct fs)∧fs = #[f0,f1,f2,f3]∧f0.offset=0∧f1.offset=1∧f2.offset=2∧f3.offset=3∧(P.info? f0.type).map (·.size)=some 1∧(P.info? f1.type).map (·.size)=some 1∧(P.info? f2.type).map (·.size)=some 1∧(P.info? f3.type).map (·.size)=some 2
 zero:∃ i,P.info? t=some i∧i.zero=some (.agg #[.slice none 0 0,.map none,.slice none 0 0,.bool false,.slice none 0 0])
def planZ:Value:=.agg #[.slice none 0 0,.map none,.slice none 0 0,.bool false,.slice none 0 0]
theorem mW {P:Program} {t:TypeId} [ht:TPlan P t] {os:List Own} {fs:List bD} {K:bZ} (k:K planZ os fs):rJ P t [] os fs K:=by
 obtain ⟨_,f0,f1,f2,f3,h1,rfl,h3,h4,h5,h6,h7,h8,h9,h10⟩:=ht.und
 obtain ⟨i,k1,k2⟩:=ht.zero
 refine ⟨fun _ _ hw=>⟨_,_,fun w' _=>c9 ?_,k,hw⟩⟩
 simp [Instr.build,zeroValue,typeInfo,k1,k2,run_underlying h1,bQ h7,bQ h8,bQ h9,bQ h10,h3,h4,h5,h6,Instr.fill,Value.cells,Array.zipIdx,planZ]
theorem run_plan {P:Program} {t:TypeId} (ht:TPlan P t) {a b p q:Value} (ha:a.cells = #[a]) (hb:b.cells = #[b]) (w:World) :
  (Instr.build t #[(0,a),(1,b),(3,.agg #[p,q])]).run P w=.ok (.agg #[a,b,.slice none 0 0,p,q]) w:=by
 obtain ⟨_,f0,f1,f2,f3,h1,rfl,h3,h4,h5,h6,h7,h8,h9,h10⟩:=ht.und
 obtain ⟨i,k1,k2⟩:=ht.zero
 have e1:∀ l,(Value.agg l).cells=l:=fun _=>rfl
 simp [Instr.build,zeroValue,typeInfo,k1,k2,run_underlying h1,bQ h7,bQ h8,bQ h9,bQ h10,h3,h4,h5,h6,Instr.fill,e1,ha,hb,Array.zipIdx]
def tU (x m s:Value) (d:Dat):Dat:=.cat (.one x) (.cat (.one m) (.cat (.one s) d))
theorem one_slice {v:Value} {size n:Nat} {e:Nat→Dat} {S:Nat→Prop} {w:World} (h:Rd S w v (.sl size n e)):∃ a c,v=.slice a n c:=by
 obtain ⟨a,c,h,_⟩:=h.sl
 exact ⟨a,c,h⟩
theorem build_plan {P:Program} {t:TypeId} [ht:TPlan P t] {x m i:Value} {size n:Nat} {e:Nat→Dat} {d1 d2:Dat} {os:List Own} {fs:List bD} {K:bZ} (hx:(x,.sl size n e)∈fs) (hm:∃ r,m=.map (some r)) (hi:(i,.cat d1 d2)∈fs) (hc:d1.cells+d2.cells=2)
  (k:∀ v,K v os ((v,tU x m (.slice none 0 0) (.cat d1 d2))::fs)):rJ P t [(0,x),(1,m),(3,i)] os fs K:=by
 refine ⟨fun G w hw=>?_⟩
 obtain ⟨r,rfl⟩:=hm
 obtain ⟨cs,a1,he⟩:=hw.facts _ hi
 obtain ⟨a,c,rfl⟩:=one_slice (hw.facts _ hx)
 have hl:=dJ a1
 simp only [Dat.cells,hc] at hl
 match cs,hl with
 | [p,q],_ =>
  obtain rfl:i=.agg #[p,q]:=he
  exact ⟨_,_,fun w' _=>c9 (run_plan ht rfl rfl w'),k _,hw.put ⟨[.slice a n c,.map (some r),.slice none 0 0,p,q],⟨[_],[_,_,p,q],rfl,⟨rfl,rfl⟩,⟨[_],[_,p,q],rfl,⟨rfl,rfl⟩,⟨[_],[p,q],rfl,⟨rfl,rfl⟩,a1⟩⟩⟩,rfl⟩⟩
theorem flat_up {S:Nat→Prop} {w:World} {v:Value} {d:Dat} (hd:d.flat=true) (h:Rd S w v d):RdC S w d [v]:=by
 obtain ⟨cs,h1,rfl⟩:=h
 obtain ⟨u,rfl,_,h2⟩:=RdC.single hd h1
 rw [h2]; exact h1
theorem Knw.plan {os:List Own} {fs:List bD} {u x m s:Value} {d dx dm ds:Dat} (h:(u,tU x m s d)∈fs) (hx:(x,dx)∈fs) (hm:(m,dm)∈fs) (hs:(s,ds)∈fs) (fx:dx.flat=true) (fm:dm.flat=true) (fs':ds.flat=true) :
  Knw os fs u (.cat dx (.cat dm (.cat ds d))):=fun G w hw=>by
 obtain ⟨cs,⟨c1,c2,rfl,⟨rfl,_⟩,c3,c4,rfl,⟨rfl,_⟩,c5,c6,rfl,⟨rfl,_⟩,h1⟩,he⟩:=hw.facts _ h
 exact ⟨_,⟨[x],_,rfl,flat_up fx (hw.facts _ hx),[m],_,rfl,flat_up fm (hw.facts _ hm),[s],c6,rfl,flat_up fs' (hw.facts _ hs),h1⟩,he⟩
theorem planB_put {x m s s':Value} {d:Dat} (S:Nat→Prop) (w:World) (cs cs':List Value) (h:RdC S w (tU x m s d) cs) (h':RdC S w (.one s') cs'):RdC S w (tU x m s' d) (cs.take 2++cs'++cs.drop (2+cs'.length)):=by
 obtain ⟨c1,c2,rfl,⟨rfl,a1⟩,c3,c4,rfl,⟨rfl,a3⟩,c5,c6,rfl,⟨rfl,a5⟩,a6⟩:=h
 obtain ⟨rfl,b⟩:=h'
 exact ⟨[x],_,rfl,⟨rfl,a1⟩,[m],_,rfl,⟨rfl,a3⟩,[s'],c6,rfl,⟨rfl,b⟩,a6⟩
def kD (n:Nat):Dat:=.one (.int .i64 (n:Int))
theorem get_num {P:Program} {t k e:TypeId} [ht:TMap P t k e] [TKy P k] [hz:TZeroV P e (kD 0)] {v:Value} {L:List (Nat×Nat×Nat)} {i j:Nat} {os:List Own} {fs:List bD} {K:bZ} (hm:(v,MD kD 0 L)∈fs)
  (hL:In64 L) (hn:Nd L) (hi:i<1073741824) (hj:j<1073741824) (kk:K (.int .i64 (lk 0 L i j:Nat)) os fs):sL P t v (spot (i:Nat) (j:Nat)) false os fs K:=by
 have h:=get_L (P:=P) (t:=t) (f:=kD) (z:=0) (K:=fun u os' fs'=>os'=os∧fs'=(u,kD (lk 0 L i j))::fs) hm hL hn hi hj fun u=>⟨rfl,rfl⟩
 refine ⟨fun G w hw=>?_⟩
 obtain ⟨u,fs',h1,⟨_,rfl⟩,h3⟩:=h.out G w hw
 obtain rfl:=Rd.one (h3.facts _ (.head _))
 exact ⟨_,fs,h1,kk,h3.weaken_facts fun F hF=>.tail _ hF⟩
theorem mput_newG {α:Type} {L:List (Nat×Nat×α)} {i j:Nat} (h:∀ t,t∈L→¬ (t.1=i∧t.2.1=j)) (a:α):mput L i j a=L++[(i,j,a)]:=by
 unfold mput
 rw [List.findIdx?_eq_none_iff.2 fun t ht=>by
  have:=h t ht
  cases hb:(t.1==i&&t.2.1==j)
  ·rfl
  ·simp only [Bool.and_eq_true,beq_iff_eq] at hb; exact absurd hb this]
def pev:List Int→Int→Int
 | [],_=>0
 | c::l,x=>c+x*pev l x
def nrm:List Int→List Int
 | []=>[]
 | c::l=>match nrm l with
  | []=>if c=0 then [] else [c]
  | d::m=>c::d::m
theorem fO (c:Int) (l:List Int):nrm (c::l)=if nrm l=[]∧c=0 then [] else c::nrm l:=by
 rw [nrm]
 cases h:nrm l with
 | nil=>by_cases hc:c=0 <;> simp [hc]
 | cons d m=>simp
theorem gZ (l:List Int):nrm (nrm l)=nrm l:=by
 induction l with
 | nil=>rfl
 | cons c l ih =>
  rw [fO]
  by_cases h:nrm l=[]∧c=0
  ·rw [if_pos h]; rfl
  ·rw [if_neg h,fO,ih,if_neg h]
theorem dL (l:List Int) (x:Int):pev (nrm l) x=pev l x:=by
 induction l with
 | nil=>rfl
 | cons c l ih =>
  rw [fO]
  by_cases h:nrm l=[]∧c=0
  ·rw [if_pos h,h.2]
   rw [h.1] at ih
   simp only [pev] at ih ⊢
   rw [← ih]; simp
  ·rw [if_neg h]; simp only [pev]; rw [ih]
theorem gT (l:List Int) (i:Nat):(nrm l).getD i 0=l.getD i 0:=by
 induction l generalizing i with
 | nil=>rfl
 | cons c l ih =>
  rw [fO]
  by_cases h:nrm l=[]∧c=0
  ·rw [if_pos h]
   cases i with
   | zero=>simp [h.2]
   | succ i=>rw [List.getD_cons_succ,← ih i,h.1]; simp
  ·rw [if_neg h]
   cases i with
   | zero=>rfl
   | succ i=>rw [List.getD_cons_succ,List.getD_cons_succ,ih]
theorem cA (l:List Int):(nrm l).length≤l.length:=by
 induction l with
 | nil=>exact Nat.le_refl _
 | cons c l ih =>
  rw [fO]
  split
  ·simp
  ·simp only [List.length_cons]; omega
theorem nrm_last (l:List Int) (h:0<(nrm l).length):(nrm l).getD ((nrm l).length - 1) 0≠0:=by
 induction l with
 | nil=>simp [nrm] at h
 | cons c l ih =>
  rw [fO] at h ⊢
  by_cases hc:nrm l=[]∧c=0
  ·rw [if_pos hc] at h; simp at h
  ·rw [if_neg hc] at h ⊢
   cases e:nrm l with
   | nil =>
    have:c≠0:=fun h0=>hc ⟨e,h0⟩
    simpa using this
   | cons d m =>
    have:=ih (by rw [e]; simp)
    rw [e] at this
    simpa using this
theorem vL {l:List Int} (h:l=[]∨l.getD (l.length - 1) 0≠0):nrm l=l:=by
 induction l with
 | nil=>rfl
 | cons c l ih =>
  rcases h with h | h
  ·simp at h
  ·rw [fO]
   cases l with
   | nil =>
    have:c≠0:=by simpa using h
    simp [nrm,this]
   | cons d m =>
    have h':(d::m).getD ((d::m).length - 1) 0≠0:=by simpa using h
    rw [ih (.inr h')]
    simp
theorem kT:∀ {l m:List Int},(∀ i,l.getD i 0=m.getD i 0)→nrm l=nrm m
 | [],[],_=>rfl
 | [],d::m,h=>by
  have h0:d=0:=by have:=h 0; simpa using this.symm
  have h1:=kT (l:=[]) (m:=m) fun i=>by have:=h (i+1); simpa using this
  rw [fO,← h1,if_pos ⟨rfl,h0⟩]; rfl
 | c::l,[],h=>by
  have h0:c=0:=by have:=h 0; simpa using this
  have h1:=kT (l:=l) (m:=[]) fun i=>by have:=h (i+1); simpa using this
  rw [fO,h1,if_pos ⟨rfl,h0⟩]; rfl
 | c::l,d::m,h=>by
  have h0:c=d:=by have:=h 0; simpa using this
  have h1:=kT (l:=l) (m:=m) fun i=>by have:=h (i+1); simpa using this
  rw [fO,fO,h1,h0]
theorem pY {c k x:Int} (h:c=x*k) (hx:c.natAbs<x.natAbs):c=0:=by
 by_cases hk:k=0
 ·rw [h,hk,Int.mul_zero]
 ·exfalso
  have h1:c.natAbs=x.natAbs*k.natAbs:=by rw [h,Int.natAbs_mul]
  have h2:1≤k.natAbs:=by omega
  have h3:x.natAbs*1≤x.natAbs*k.natAbs:=Nat.mul_le_mul_left _ h2
  omega
theorem lV:∀ {l m:List Int} (N:Nat),(∀ x:Int,(N:Int)≤x→pev l x=pev m x)→nrm l=nrm m
 | [],[],_,_=>rfl
 | [],d::m,N,h=>by
  have h0:d=0:=by
   have:=h (N+d.natAbs+1) qN
   simp only [pev] at this
   refine pY (x:=(N:Int)+d.natAbs+1) (k := - pev m ((N:Int)+d.natAbs+1)) ?_ qN
   rw [Int.mul_neg]; omega
  have h1:=lV (l:=[]) (m:=m) (N+1) fun x hx=>by
   have:=h x qN
   simp only [pev,h0] at this ⊢
   have:x*pev m x=0:=by omega
   rcases Int.mul_eq_zero.1 this with h2 | h2
   ·omega
   ·exact h2.symm
  rw [fO,← h1,if_pos ⟨rfl,h0⟩]; rfl
 | c::l,[],N,h=>by
  have h0:c=0:=by
   have:=h (N+c.natAbs+1) qN
   simp only [pev] at this
   refine pY (x:=(N:Int)+c.natAbs+1) (k := - pev l ((N:Int)+c.natAbs+1)) ?_ qN
   rw [Int.mul_neg]; omega
  have h1:=lV (l:=l) (m:=[]) (N+1) fun x hx=>by
   have:=h x qN
   simp only [pev,h0] at this ⊢
   have:x*pev l x=0:=by omega
   rcases Int.mul_eq_zero.1 this with h2 | h2
   ·omega
   ·exact h2
  rw [fO,h1,if_pos ⟨rfl,h0⟩]; rfl
 | c::l,d::m,N,h=>by
  have h0:c - d=0:=by
   have:=h (N+(c - d).natAbs+1) qN
   simp only [pev] at this
   refine pY (x:=(N:Int)+(c - d).natAbs+1) (k:=pev m ((N:Int)+(c - d).natAbs+1) - pev l ((N:Int)+(c - d).natAbs+1)) ?_ qN
   rw [Int.mul_sub]; omega
  have h1:=lV (l:=l) (m:=m) (N+1) fun x hx=>by
   have:=h x qN
   simp only [pev] at this
   have h2:x*(pev l x - pev m x)=0:=by rw [Int.mul_sub]; omega
   rcases Int.mul_eq_zero.1 h2 with h3 | h3 <;> omega
  rw [fO,fO,h1,show c=d by omega]
theorem ev_ext {l m:List Int} (h:∀ x,pev l x=pev m x):nrm l=nrm m:=lV 0 fun x _=>h x
theorem q7 {l m:List Int} (h:nrm l=nrm m) (x:Int):pev l x=pev m x:=by rw [← dL l,h,dL]
theorem ev_append (l m:List Int) (x:Int):pev (l++m) x=pev l x+x^l.length*pev m x:=by
 induction l with
 | nil=>simp [pev]
 | cons c l ih=>simp only [List.cons_append,pev,ih,List.length_cons,Int.pow_succ]; grind
theorem eK (c:Int) (l:List Int) (x:Int):pev (l.map fun y=>c*y) x=c*pev l x:=by
 induction l with
 | nil=>simp [pev]
 | cons d l ih=>simp only [List.map_cons,pev,ih]; grind
theorem ev_replicate (n:Nat) (x:Int):pev (List.replicate n 0) x=0:=by
 induction n with
 | zero=>rfl
 | succ n ih=>rw [List.replicate_succ,pev,ih]; simp
theorem ev_take_succ {l:List Int} {i:Nat} (h:i<l.length) (x:Int):pev (l.take (i+1)) x=pev (l.take i) x+x^i*l.getD i 0:=by
 have e:l.take (i+1)=l.take i++[l.getD i 0]:=by rw [List.take_add_one]; simp [gE,h]
 rw [e,ev_append,List.length_take,Nat.min_eq_left (Nat.le_of_lt h)]
 simp [pev]
theorem ev_getD {l:List Int} {n:Nat} (h:l.length≤n) (x:Int):pev ((List.range n).map fun i=>l.getD i 0) x=pev l x:=by
 have:nrm ((List.range n).map fun i=>l.getD i 0)=nrm l:=kT fun i=>by
  by_cases hi:i<n
  ·simp [gE,hi]
  ·have:l.length≤i:=by omega
   simp [gE,hi,this]
 exact q7 this x
def Nm (l:List Int):Prop:=nrm l=l
theorem Nm.nil:Nm []:=rfl
theorem Nm.nrm (l:List Int):Nm (nrm l):=gZ l
theorem Nm.ext {l m:List Int} (hl:Nm l) (hm:Nm m) (h:∀ x,pev l x=pev m x):l=m:=by rw [← hl,← hm]; exact ev_ext h
def lst (n:Nat) (f:Nat→Int):List Int:=(List.range n).map f
theorem eC (n:Nat) (f:Nat→Int):(lst n f).length=n:=by simp [lst]
theorem nW {n:Nat} {f:Nat→Int} {i:Nat} (h:i<n):(lst n f).getD i 0=f i:=by simp [lst,gE,h]
theorem qT (n:Nat) (f:Nat→Int) (i:Nat):(lst n f).getD i 0=if i<n then f i else 0:=by
 by_cases h:i<n
 ·rw [nW h,if_pos h]
 ·rw [if_neg h,gE,List.getElem?_eq_none (by rw [eC]; omega)]; rfl
theorem nX {n:Nat} {f g:Nat→Int} (h:∀ i,i<n→f i=g i):lst n f=lst n g:=List.map_congr_left fun i hi=>h i (List.mem_range.1 hi)
theorem mem_lst {n:Nat} {f:Nat→Int} {x:Int} (h:x∈lst n f):∃ i,i<n∧x=f i:=by
 obtain ⟨i,h1,h2⟩:=List.mem_map.1 h
 exact ⟨i,List.mem_range.1 h1,h2.symm⟩
theorem lst_succ (n:Nat) (f:Nat→Int):lst (n+1) f=f 0::lst n fun i=>f (i+1):=by
 simp [lst,List.range_succ_eq_map,Function.comp_def]
theorem fU {l:List Int} {i:Nat} (h:l.length≤i):l.getD i 0=0:=by rw [gE,List.getElem?_eq_none h]; rfl
theorem iJ (n:Nat) (f:Nat→Int) (x:Int):pev (lst (n+1) f) x=f 0+x*pev (lst n fun i=>f (i+1)) x:=by rw [lst_succ]; rfl
theorem mG (n:Nat) (f g:Nat→Int) (x:Int):pev (lst n fun i=>f i+g i) x=pev (lst n f) x+pev (lst n g) x:=by
 induction n generalizing f g with
 | zero=>rfl
 | succ n ih=>rw [iJ,iJ,iJ,ih]; grind
theorem ev_lst_mul (n:Nat) (c:Int) (f:Nat→Int) (x:Int):pev (lst n fun i=>c*f i) x=c*pev (lst n f) x:=by
 induction n generalizing f with
 | zero=>simp [lst,pev]
 | succ n ih=>rw [iJ,iJ,ih]; grind
theorem pN (n:Nat) (x:Int):pev (lst n fun _=>0) x=0:=by
 induction n with
 | zero=>rfl
 | succ n ih=>rw [iJ,ih]; simp
theorem wL {l:List Int} {n:Nat} (h:l.length≤n) (x:Int):pev (lst n fun i=>l.getD i 0) x=pev l x:=ev_getD h x
def up (s:Nat) (l:List Int):List Int:=List.replicate s 0++l
theorem ev_up (s:Nat) (l:List Int) (x:Int):pev (up s l) x=x^s*pev l x:=by
 rw [up,ev_append,ev_replicate,List.length_replicate]; simp
theorem up_len (s:Nat) (l:List Int):(up s l).length=s+l.length:=by simp [up]
theorem up_get (s:Nat) (l:List Int) (i:Nat):(up s l).getD i 0=if i<s then 0 else l.getD (i - s) 0:=by
 unfold up
 by_cases h:i<s
 ·rw [if_pos h,gE,List.getElem?_append_left (by simpa using h)]; simp [h]
 ·rw [if_neg h,gE,List.getElem?_append_right (by simpa using Nat.le_of_not_lt h)]; simp [gE]
theorem up_lst (s n:Nat) (f:Nat→Int):up s (lst n f)=lst (s+n) fun i=>if i<s then 0 else f (i - s):=by
 refine List.ext_getElem? fun i=>?_
 by_cases h:i<s+n
 ·rw [List.getElem?_eq_getElem (by rw [up_len,eC]; exact h),List.getElem?_eq_getElem (by rw [eC]; exact h)]
  have h1:=up_get s (lst n f) i
  have h2:=nW (n:=s+n) (f:=fun i=>if i<s then 0 else f (i - s)) h
  rw [gE,List.getElem?_eq_getElem (by rw [up_len,eC]; exact h)] at h1
  rw [gE,List.getElem?_eq_getElem (by rw [eC]; exact h)] at h2
  simp only [Option.getD_some] at h1 h2
  rw [h1,h2]
  by_cases hs:i<s
  ·simp [hs]
  ·simp only [hs,if_false]; rw [nW qN]
 ·rw [List.getElem?_eq_none (by rw [up_len,eC]; omega),List.getElem?_eq_none (by rw [eC]; omega)]
def padd (l m:List Int):List Int:=nrm (lst (max l.length m.length) fun i=>l.getD i 0+m.getD i 0)
def psub (l m:List Int):List Int:=nrm (lst (max l.length m.length) fun i=>l.getD i 0 - m.getD i 0)
def ptim (c:Int) (l:List Int):List Int:=nrm (l.map fun y=>c*y)
def prai (c:Int) (s:Nat) (l:List Int):List Int:=nrm (up s (l.map fun y=>c*y))
theorem gS (l m:List Int) (x:Int):pev (padd l m) x=pev l x+pev m x:=by
 rw [padd,dL,mG,wL (Nat.le_max_left _ _),wL (Nat.le_max_right _ _)]
theorem iC (l m:List Int) (x:Int):pev (psub l m) x=pev l x - pev m x:=by
 have e:(fun i=>l.getD i 0 - m.getD i 0)=fun i=>l.getD i 0+(-1)*m.getD i 0:=funext fun i=>by omega
 rw [psub,dL,e,mG,ev_lst_mul,wL (Nat.le_max_left _ _),wL (Nat.le_max_right _ _)]; omega
theorem cL (c:Int) (l:List Int) (x:Int):pev (ptim c l) x=c*pev l x:=by rw [ptim,dL,eK]
theorem jA (c:Int) (s:Nat) (l:List Int) (x:Int):pev (prai c s l) x=x^s*(c*pev l x):=by rw [prai,dL,ev_up,eK]
theorem ev_lst_isum (n m:Nat) (f:Nat→Nat→Int) (x:Int):pev (lst n fun y=>cM (fun t=>f t y) m) x=cM (fun t=>pev (lst n (f t)) x) m:=by
 induction m with
 | zero=>exact pN n x
 | succ m ih=>simp only [cM]; rw [mG,ih]
theorem ev_isum (l:List Int) (x:Int):pev l x=cM (fun i=>l.getD i 0*x^i) l.length:=by
 have:∀ (l:List Int),pev l x=cM (fun i=>l.getD i 0*x^i) l.length:=by
  intro l
  have h:∀ n,n≤l.length→pev (l.take n) x=cM (fun i=>l.getD i 0*x^i) n:=by
   intro n
   induction n with
   | zero=>intro _; rfl
   | succ n ih=>intro hn; rw [ev_take_succ qN,ih qN,cM,Int.mul_comm]
  have:=h l.length (Nat.le_refl _)
  rwa [List.take_length] at this
 exact this l
def conv (a b:List Int) (m y:Nat):Int:=cM (fun t=>if t≤y then a.getD t 0*b.getD (y - t) 0 else 0) m
def pmul (l m:List Int):List Int :=
 let a:=nrm l
 let b:=nrm m
 if a=[]∨b=[] then [] else nrm (lst (a.length+b.length - 1) fun y=>conv a b a.length y)
theorem ev_shifted (b:List Int) (t n:Nat) (h:t+b.length≤n) (c x:Int):pev (lst n fun y=>if t≤y then c*b.getD (y - t) 0 else 0) x=c*x^t*pev b x:=by
 have e:pev (lst n fun y=>if t≤y then c*b.getD (y - t) 0 else 0) x=pev (up t (b.map fun y=>c*y)) x:=by
  refine q7 (kT fun i=>?_) x
  rw [up_get,qT]
  by_cases h1:i<t
  ·rw [if_pos h1,if_neg (by omega:¬ t≤i)]; split <;> rfl
  ·rw [if_neg h1]
   by_cases h2:i<n
   ·rw [if_pos h2,if_pos qN]
    simp [gE]
    cases b[i - t]? <;> simp
   ·rw [if_neg h2,fU]; rw [List.length_map]; omega
 rw [e,ev_up,eK]; grind
theorem ev_conv (a b:List Int) (x:Int) (hb:b≠[]) (ha:a≠[]):pev (lst (a.length+b.length - 1) fun y=>conv a b a.length y) x=pev a x*pev b x:=by
 unfold conv
 rw [ev_lst_isum]
 have h:∀ t,t<a.length→pev (lst (a.length+b.length - 1) fun y=>if t≤y then a.getD t 0*b.getD (y - t) 0 else 0) x=pev b x*(a.getD t 0*x^t):=fun t ht=>by
  rw [ev_shifted b t _ (by have:=List.length_pos_iff.2 hb; omega)]; grind
 rw [bI h,fY,← ev_isum,Int.mul_comm]
theorem bN (l m:List Int) (x:Int):pev (pmul l m) x=pev l x*pev m x:=by
 unfold pmul
 simp only
 split
 ·rename_i h
  rcases h with h | h
  ·rw [← dL l,h]; simp [pev]
  ·rw [← dL m,h]; simp [pev]
 ·rename_i h
  rw [dL,ev_conv _ _ _ (fun e=>h (.inr e)) (fun e=>h (.inl e)),dL,dL]
theorem padd_nm (l m:List Int):Nm (padd l m):=gZ _
theorem uZ (l m:List Int):Nm (psub l m):=gZ _
theorem ptim_nm (c:Int) (l:List Int):Nm (ptim c l):=gZ _
theorem prai_nm (c:Int) (s:Nat) (l:List Int):Nm (prai c s l):=gZ _
theorem pmul_nm (l m:List Int):Nm (pmul l m):=by unfold pmul; simp only; split; exact rfl; exact gZ _
def dg (l:List Int):Nat:=(nrm l).length
def ld (l:List Int):Int:=l.getD (dg l - 1) 0
theorem mH {l m:List Int} (h:∀ x,pev l x=pev m x) (i:Nat):l.getD i 0=m.getD i 0:=by rw [← gT l,ev_ext h,gT]
theorem dg_ext {l m:List Int} (h:∀ x,pev l x=pev m x):dg l=dg m:=by unfold dg; rw [ev_ext h]
theorem ld_ext {l m:List Int} (h:∀ x,pev l x=pev m x):ld l=ld m:=by unfold ld; rw [dg_ext h,mH h]
theorem eH {l:List Int} (h:Nm l):dg l=l.length:=by unfold dg; rw [h]
theorem jK {l:List Int} {n:Nat}:dg l≤n↔∀ i,n≤i→l.getD i 0=0:=by
 constructor
 ·intro h i hi
  rw [← gT]
  exact fU (Nat.le_trans h hi)
 ·intro h
  refine Nat.le_of_not_lt fun hn=>?_
  have:=nrm_last l (show 0<(nrm l).length by unfold dg at hn; omega)
  rw [gT] at this
  exact this (h _ (by unfold dg at hn; omega))
theorem dY (l:List Int):dg l≤l.length:=cA l
theorem nY {l:List Int} (h:0<dg l):ld l≠0:=by
 have:=nrm_last l h
 rwa [gT] at this
theorem cT {l:List Int}:dg l=0↔∀ x,pev l x=0:=by
 constructor
 ·intro h x
  rw [← dL,List.length_eq_zero_iff.1 h]; rfl
 ·intro h
  have:=dg_ext (l:=l) (m:=[]) fun x=>by rw [h]; rfl
  rw [this]; rfl
theorem pA {l:List Int} (h:¬ ∀ x,pev l x=0):0<dg l:=Nat.pos_of_ne_zero fun e=>h (cT.1 e)
theorem co_psub (l m:List Int) (i:Nat):(psub l m).getD i 0=l.getD i 0 - m.getD i 0:=by
 rw [psub,gT,qT]
 split
 ·rfl
 ·rw [fU qN,fU qN]; rfl
theorem mT (l m:List Int) (i:Nat):(padd l m).getD i 0=l.getD i 0+m.getD i 0:=by
 rw [padd,gT,qT]
 split
 ·rfl
 ·rw [fU qN,fU qN]; rfl
theorem tM (c:Int) (l:List Int) (i:Nat):(l.map fun y=>c*y).getD i 0=c*l.getD i 0:=by
 simp only [gE,List.getElem?_map]
 cases l[i]? <;> simp
theorem sH (c:Int) (s:Nat) (l:List Int) (i:Nat):(prai c s l).getD i 0=if i<s then 0 else c*l.getD (i - s) 0:=by
 rw [prai,gT,up_get]
 split
 ·rfl
 ·rw [tM]
theorem pQ (c:Int) (l:List Int) (i:Nat):(ptim c l).getD i 0=c*l.getD i 0:=by rw [ptim,gT,tM]
theorem vB {a b:List Int} (ha:0<dg a) (hb:0<dg b):dg (pmul a b)+1=dg a+dg b∧ld (pmul a b)=ld a*ld b:=by
 have ea:ld a=(nrm a).getD ((nrm a).length - 1) 0:=by rw [gT]; rfl
 have eb:ld b=(nrm b).getD ((nrm b).length - 1) 0:=by rw [gT]; rfl
 have h1:¬ (nrm a=[]∨nrm b=[]):=by
  unfold dg at ha hb
  rintro (h | h)
  ·rw [h] at ha; simp at ha
  ·rw [h] at hb; simp at hb
 have hn:(lst ((nrm a).length+(nrm b).length - 1) fun y=>conv (nrm a) (nrm b) (nrm a).length y).getD ((nrm a).length+(nrm b).length - 1 - 1) 0=ld a*ld b:=by
  unfold dg at ha hb
  rw [nW qN,conv,gW (r:=(nrm a).length - 1) qN fun k hk hne=>by
   split
   ·rw [fU (l:=nrm b) qN,Int.mul_zero]
   ·rfl]
  rw [if_pos qN,ea,eb]
  congr 2; omega
 have hne:ld a*ld b≠0:=Int.mul_ne_zero (nY ha) (nY hb)
 have e:pmul a b=lst ((nrm a).length+(nrm b).length - 1) fun y=>conv (nrm a) (nrm b) (nrm a).length y:=by
  unfold pmul
  simp only
  rw [if_neg h1]
  refine vL (.inr ?_)
  rw [eC,hn]; exact hne
 have hd:dg (pmul a b)=(nrm a).length+(nrm b).length - 1:=by
  rw [eH (pmul_nm a b),e,eC]
 refine ⟨by rw [hd]; unfold dg at ha hb ⊢; omega,?_⟩
 unfold ld
 rw [hd,e,hn]
 rfl
theorem qQ {a b c:List Int} (h:∀ x,pev c x=pev a x*pev b x) (ha:0<dg a) (hb:0<dg b):dg c+1=dg a+dg b∧ld c=ld a*ld b:=by
 have e:∀ x,pev c x=pev (pmul a b) x:=fun x=>by rw [h,bN]
 rw [dg_ext e,ld_ext e]
 exact vB ha hb
theorem mul_zero' {a b:List Int} (h:∀ x,pev a x*pev b x=0):dg a=0∨dg b=0:=by
 by_cases ha:0<dg a
 ·by_cases hb:0<dg b
  ·exfalso
   have h1:=(vB ha hb).1
   have h2:dg (pmul a b)=0:=cT.2 fun x=>by rw [bN,h]
   omega
  ·right; omega
 ·left; omega
theorem cancel {a u v:List Int} (ha:0<dg a) (h:∀ x,pev a x*pev u x=pev a x*pev v x) (x:Int):pev u x=pev v x:=by
 have h1:∀ x,pev a x*pev (psub u v) x=0:=fun x=>by rw [iC,Int.mul_sub,h]; omega
 rcases mul_zero' h1 with h2 | h2
 ·omega
 ·have:=cT.1 h2 x
  rw [iC] at this; omega
def Dv (a b:List Int):Prop:=∃ u,∀ x,pev b x=pev a x*pev u x
theorem Dv.refl (a:List Int):Dv a a:=⟨[1],fun x=>by simp [pev]⟩
theorem Dv.trans {a b c:List Int} (h:Dv a b) (k:Dv b c):Dv a c:=by
 obtain ⟨u,hu⟩:=h; obtain ⟨v,hv⟩:=k
 exact ⟨pmul u v,fun x=>by rw [hv,hu,bN]; grind⟩
theorem Dv.zero (a:List Int) {b:List Int} (h:∀ x,pev b x=0):Dv a b:=⟨[],fun x=>by rw [h]; simp [pev]⟩
theorem Dv.mul_right {a b c d:List Int} (h:Dv a b) (e:∀ x,pev d x=pev b x*pev c x):Dv a d:=by
 obtain ⟨u,hu⟩:=h
 exact ⟨pmul u c,fun x=>by rw [e,hu,bN]; grind⟩
theorem Dv.add {a b c d:List Int} (h:Dv a b) (k:Dv a c) (e:∀ x,pev d x=pev b x+pev c x):Dv a d:=by
 obtain ⟨u,hu⟩:=h; obtain ⟨v,hv⟩:=k
 exact ⟨padd u v,fun x=>by rw [e,hu,hv,gS]; grind⟩
theorem Dv.sub {a b c d:List Int} (h:Dv a b) (k:Dv a c) (e:∀ x,pev d x=pev b x - pev c x):Dv a d:=by
 obtain ⟨u,hu⟩:=h; obtain ⟨v,hv⟩:=k
 exact ⟨psub u v,fun x=>by rw [e,hu,hv,iC]; grind⟩
theorem Dv.ext {a b c d:List Int} (h:Dv a b) (h1:∀ x,pev a x=pev c x) (h2:∀ x,pev b x=pev d x):Dv c d:=by
 obtain ⟨u,hu⟩:=h
 exact ⟨u,fun x=>by rw [← h2,hu,h1]⟩
theorem Dv.deg {a b:List Int} (h:Dv a b) (hb:0<dg b):0<dg a∧dg a≤dg b:=by
 obtain ⟨u,hu⟩:=h
 have ha:0<dg a:=pA fun h=>by
  have:=(cT (l:=b)).2 fun x=>by rw [hu,h]; simp
  omega
 have h2:0<dg u:=pA fun h=>by
  have:=(cT (l:=b)).2 fun x=>by rw [hu,h]; simp
  omega
 have:=(qQ hu ha h2).1
 exact ⟨ha,by omega⟩
theorem red_dg {p q:List Int} (hq:0<dg q) (hp:dg q≤dg p):dg (psub (prai (ld q) 0 p) (prai (ld p) (dg p - dg q) q))<dg p:=by
 have:dg (psub (prai (ld q) 0 p) (prai (ld p) (dg p - dg q) q))≤dg p - 1:=jK.2 fun i hi=>by
  rw [co_psub,sH,sH,if_neg qN,if_neg qN,Nat.sub_zero]
  by_cases h:i=dg p - 1
  ·rw [h,show dg p - 1 - (dg p - dg q)=dg q - 1 by omega]
   show ld q*ld p - ld p*ld q=0
   grind
  ·rw [jK.1 (Nat.le_refl (dg p)) i qN,jK.1 (Nat.le_refl (dg q)) (i - (dg p - dg q)) qN]; simp
 omega
theorem pseudo {q:List Int} (hq:0<dg q):∀ (n:Nat) (p:List Int),dg p≤n→∃ t r,dg r<dg q∧∀ x,ld q^(n+1 - dg q)*pev p x=pev q x*pev t x+pev r x
 | 0,p,hp=>⟨[],p,by omega,fun x=>by rw [show 0+1 - dg q=0 by omega]; simp [pev]⟩
 | n+1,p,hp=>by
  by_cases h:dg p<dg q
  ·refine ⟨[],ptim (ld q^(n+1+1 - dg q)) p,?_,fun x=>by rw [cL]; simp [pev]⟩
   refine Nat.lt_of_le_of_lt (jK.2 fun i hi=>?_) h
   rw [pQ,jK.1 (Nat.le_refl _) i hi,Int.mul_zero]
  ·have h1:=red_dg hq (Nat.le_of_not_lt h)
   obtain ⟨t,r,h2,h3⟩:=pseudo hq n _ (show dg (psub (prai (ld q) 0 p) (prai (ld p) (dg p - dg q) q))≤n by omega)
   refine ⟨padd t (prai (ld q^(n+1 - dg q)*ld p) (dg p - dg q) [1]),r,h2,fun x=>?_⟩
   have h4:=h3 x
   rw [iC,jA,jA] at h4
   rw [gS,jA,show n+1+1 - dg q=(n+1 - dg q)+1 by omega,Int.pow_succ]
   simp only [pev,Int.pow_zero] at h4 ⊢
   grind
def cE (l:List Int):Nat:=l.foldr (fun c g=>Nat.gcd c.natAbs g) 0
theorem f8 {k:Nat} {l:List Int}:k ∣ cE l↔∀ i,(k:Int) ∣ l.getD i 0:=by
 induction l with
 | nil=>exact ⟨fun _ i=>by simp,fun _=>Nat.dvd_zero k⟩
 | cons c l ih =>
  show k ∣ Nat.gcd c.natAbs (cE l)↔_
  rw [Nat.dvd_gcd_iff,ih]
  constructor
  ·rintro ⟨h1,h2⟩ i
   cases i with
   | zero=>exact Int.ofNat_dvd_left.2 h1
   | succ i=>simpa using h2 i
  ·intro h
   exact ⟨Int.ofNat_dvd_left.1 (by simpa using h 0),fun i=>by simpa using h (i+1)⟩
theorem rC {l m:List Int} (h:∀ x,pev l x=pev m x):cE l=cE m :=
 Nat.dvd_antisymm (f8.2 fun i=>by rw [← mH h]; exact f8.1 (Nat.dvd_refl _) i) (f8.2 fun i=>by rw [mH h]; exact f8.1 (Nat.dvd_refl _) i)
theorem dZ {l:List Int}:cE l=0↔dg l=0:=by
 constructor
 ·intro h
  have:=f8.1 (show 0 ∣ cE l from ⟨0,by omega⟩)
  refine Nat.eq_zero_of_not_pos fun hp=>nY hp ?_
  exact Int.zero_dvd.1 (this _)
 ·intro h
  refine Nat.eq_zero_of_zero_dvd (f8.2 fun i=>?_)
  rw [jK.1 (Nat.le_of_eq h) i (Nat.zero_le i)]; exact ⟨0,by simp⟩
theorem cont_map (c:Int) (l:List Int):cE (l.map fun y=>c*y)=c.natAbs*cE l:=by
 induction l with
 | nil=>rfl
 | cons d l ih =>
  show Nat.gcd (c*d).natAbs (cE _)=c.natAbs*Nat.gcd d.natAbs (cE l)
  rw [ih,Int.natAbs_mul,Nat.gcd_mul_left]
theorem uD {l m:List Int} {c:Int} (h:∀ x,pev m x=c*pev l x):cE m=c.natAbs*cE l:=by
 rw [← cont_map]; exact rC fun x=>by rw [h,eK]
theorem by_const {k:Nat} {l:List Int} (h:k ∣ cE l):∃ u,∀ x,pev l x=k*pev u x:=by
 refine ⟨l.map fun y=>y/k,fun x=>?_⟩
 rw [← eK]
 congr 1
 rw [List.map_map]
 have:∀ y,y∈l→y=((fun y=>(k:Int)*y) ∘ fun y=>y/k) y:=fun y hy=>by
  obtain ⟨i,hi,rfl⟩:=List.mem_iff_getElem.1 hy
  have:=f8.1 h i
  rw [gE,List.getElem?_eq_getElem hi] at this
  exact (Int.mul_ediv_cancel' this).symm
 exact (List.map_id l).symm.trans (List.map_congr_left this)
theorem u9 {l:List Int} (h:0<dg l):∃ u,cE u=1∧∀ x,pev l x=cE l*pev u x:=by
 obtain ⟨u,hu⟩:=by_const (Nat.dvd_refl (cE l))
 refine ⟨u,?_,hu⟩
 have h1:=uD hu
 rw [Int.natAbs_natCast] at h1
 have h2:cE l≠0:=fun e=>by have:=dZ.1 e; omega
 exact Nat.eq_of_mul_eq_mul_left (Nat.pos_of_ne_zero h2) qN
def tail (l:List Int):List Int:=psub l (prai (ld l) (dg l - 1) [1])
theorem tail_dg {l:List Int} (h:0<dg l):dg (tail l)<dg l:=by
 have:dg (tail l)≤dg l - 1:=jK.2 fun i hi=>by
  rw [tail,co_psub,sH,if_neg qN]
  by_cases e:i=dg l - 1
  ·rw [e,Nat.sub_self]; simp [ld]
  ·rw [jK.1 (Nat.le_refl (dg l)) i qN,fU (l:=[1]) (by simp; omega)]; simp
 omega
theorem tail_ev (l:List Int) (x:Int):pev l x=pev (tail l) x+ld l*x^(dg l - 1):=by
 rw [tail,iC,jA]; simp only [pev]; grind
theorem gauss:∀ (n:Nat) (a b c:List Int),dg a+dg b≤n→(∀ x,pev c x=pev a x*pev b x)→cE c=cE a*cE b:=by
 intro n
 induction n with
 | zero =>
  intro a b c hn h
  have h1:dg a=0:=by omega
  have h2:dg c=0:=cT.2 fun x=>by rw [h,cT.1 h1]; simp
  rw [dZ.2 h1,dZ.2 h2]; simp
 | succ n ih =>
  intro a b c hn h
  by_cases ha:dg a=0
  ·have h2:dg c=0:=cT.2 fun x=>by rw [h,cT.1 ha]; simp
   rw [dZ.2 ha,dZ.2 h2]; simp
  by_cases hb:dg b=0
  ·have h2:dg c=0:=cT.2 fun x=>by rw [h,cT.1 hb]; simp
   rw [dZ.2 hb,dZ.2 h2]; simp
  obtain ⟨a1,ha1,ea⟩:=u9 (Nat.pos_of_ne_zero ha)
  obtain ⟨b1,hb1,eb⟩:=u9 (Nat.pos_of_ne_zero hb)
  have hca:cE a≠0:=fun e=>ha (dZ.1 e)
  have hcb:cE b≠0:=fun e=>hb (dZ.1 e)
  have hda:0<dg a1:=pA fun e=>ha (cT.2 fun x=>by rw [ea,e]; simp)
  have hdb:0<dg b1:=pA fun e=>hb (cT.2 fun x=>by rw [eb,e]; simp)
  have da:dg a1≤dg a:=((show Dv a1 a from ⟨[(cE a:Int)],fun x=>by rw [ea]; simp only [pev]; grind⟩).deg qN).2
  have db:dg b1≤dg b:=((show Dv b1 b from ⟨[(cE b:Int)],fun x=>by rw [eb]; simp only [pev]; grind⟩).deg qN).2
  have key:cE (pmul a1 b1)=1:=by
   have hk:∀ (u v:List Int),dg u+dg v≤n+1→cE u=1→cE v=1→0<dg u→Nat.gcd (cE (pmul u v)) (ld u).natAbs=1:=fun u v hl hu hv hd=>by
    have t:=tail_dg hd
    have e1:=ih (tail u) v (pmul (tail u) v) qN (bN _ _)
    rw [hv,Nat.mul_one] at e1
    have g1:Nat.gcd (cE (pmul u v)) (ld u).natAbs ∣ cE (tail u):=by
     rw [← e1]
     refine f8.2 fun i=>?_
     have e2:∀ x,pev (pmul (tail u) v) x=pev (psub (pmul u v) (prai (ld u) (dg u - 1) v)) x:=fun x=>by
      rw [bN,iC,bN,jA,tail_ev u x]; grind
     rw [mH e2,co_psub,sH]
     refine Int.dvd_sub (Int.dvd_trans (Int.natCast_dvd_natCast.2 (Nat.gcd_dvd_left _ _)) (f8.1 (Nat.dvd_refl _) i)) ?_
     split
     ·exact ⟨0,by simp⟩
     ·exact Int.dvd_trans (Int.ofNat_dvd_left.2 (Nat.gcd_dvd_right _ _)) ⟨_,rfl⟩
    have g2:Nat.gcd (cE (pmul u v)) (ld u).natAbs ∣ cE u:=by
     refine f8.2 fun i=>?_
     have e3:∀ x,pev u x=pev (padd (tail u) (prai (ld u) (dg u - 1) [1])) x:=fun x=>by
      rw [gS,jA,tail_ev u x]; simp only [pev]; grind
     rw [mH e3,mT,sH]
     refine Int.dvd_add (f8.1 g1 i) ?_
     split
     ·exact ⟨0,by simp⟩
     ·exact Int.dvd_trans (Int.ofNat_dvd_left.2 (Nat.gcd_dvd_right _ _)) ⟨_,rfl⟩
    rw [hu] at g2
    exact Nat.dvd_one.1 g2
   have k1:=hk a1 b1 qN ha1 hb1 hda
   have k2:=hk b1 a1 qN hb1 ha1 hdb
   have e4:cE (pmul b1 a1)=cE (pmul a1 b1):=rC fun x=>by rw [bN,bN,Int.mul_comm]
   rw [e4] at k2
   have h5:(cE (pmul a1 b1):Int) ∣ ld a1*ld b1:=by
    rw [← (vB hda hdb).2]
    exact f8.1 (Nat.dvd_refl _) _
   have h6:cE (pmul a1 b1) ∣ (ld a1).natAbs*(ld b1).natAbs:=by rw [← Int.natAbs_mul]; exact Int.ofNat_dvd_left.1 h5
   have h7:cE (pmul a1 b1) ∣ (ld b1).natAbs:=Nat.Coprime.dvd_of_dvd_mul_left k1 h6
   have h8:Nat.gcd (cE (pmul a1 b1)) (ld b1).natAbs=cE (pmul a1 b1):=Nat.gcd_eq_left h7
   omega
  have e5:∀ x,pev c x=((cE a*cE b:Nat):Int)*pev (pmul a1 b1) x:=fun x=>by
   rw [h,ea,eb,bN]; push_cast; grind
  rw [uD e5,key,Int.natAbs_natCast,Nat.mul_one]
theorem wV {a b c:List Int} (h:∀ x,pev c x=pev a x*pev b x):cE c=cE a*cE b:=gauss _ a b c (Nat.le_refl _) h
theorem Dv.prim {a b:List Int} {k:Int} (ha:cE a=1) (hk:k≠0) (h:Dv a (b.map fun y=>k*y)):Dv a b:=by
 obtain ⟨u,hu⟩:=h
 have h1:=wV hu
 rw [ha,Nat.one_mul,cont_map] at h1
 obtain ⟨v,hv⟩:=by_const (k:=k.natAbs) (l:=u) ⟨cE b,by rw [h1]⟩
 have h2:∀ x,k*pev b x=pev a x*(k.natAbs*pev v x):=fun x=>by rw [← hv,← hu,eK]
 refine ⟨v.map fun y=>(k.sign)*y,fun x=>?_⟩
 rw [eK]
 have h3:=h2 x
 have h4:(k.natAbs:Int)=k*k.sign:=by rw [Int.mul_sign_self]
 rw [h4] at h3
 refine Int.eq_of_mul_eq_mul_left hk ?_
 rw [h3]; grind
theorem Dv.cnt {a b:List Int} (h:Dv a b):cE a ∣ cE b:=by
 obtain ⟨u,hu⟩:=h
 exact ⟨_,wV hu⟩
def Gc (g p q:List Int):Prop:=Dv g p∧Dv g q∧(∀ h,Dv h p→Dv h q→Dv h g)∧0≤ld g
theorem const_ev {u:List Int} (h:dg u≤1) (x:Int):pev u x=u.getD 0 0:=by
 have:nrm u=nrm [u.getD 0 0]:=kT fun i=>by
  cases i with
  | zero=>rfl
  | succ i=>rw [jK.1 h (i+1) qN]; rfl
 rw [q7 this]; simp [pev]
def j0 (l:List Int):Int:=if ld l<0 then - (cE l:Int) else cE l
def pprim (l:List Int):List Int:=nrm ((nrm l).map fun y=>y/j0 l)
theorem fF (l:List Int):(j0 l).natAbs=cE l:=by
 unfold j0; split <;> omega
theorem iW (l:List Int) (x:Int):pev l x=j0 l*pev (pprim l) x:=by
 rw [pprim,dL,← eK,List.map_map]
 rw [← dL l]
 congr 1
 have:∀ y,y∈nrm l→y=((fun y=>j0 l*y) ∘ fun y=>y/j0 l) y:=fun y hy=>by
  obtain ⟨i,hi,rfl⟩:=List.mem_iff_getElem.1 hy
  have h1:=f8.1 (Nat.dvd_refl (cE l)) i
  rw [← gT,gE,List.getElem?_eq_getElem hi] at h1
  have h2:j0 l ∣ (nrm l)[i]:=by
   rw [← Int.natAbs_dvd,fF]; exact h1
  exact (Int.mul_ediv_cancel' h2).symm
 exact (List.map_id _).symm.trans (List.map_congr_left this)
theorem mL (l:List Int):Nm (pprim l):=gZ _
theorem pprim_zero {l:List Int} (h:dg l=0):pprim l=[]:=by
 unfold pprim
 rw [List.length_eq_zero_iff.1 h]; rfl
theorem dO (l:List Int):dg (pprim l)=dg l:=by
 by_cases h:dg l=0
 ·rw [pprim_zero h,h]; rfl
 have h0:j0 l≠0:=fun e=>h (dZ.1 (by have:=fF l; omega))
 have e:∀ x,pev l x=pev [j0 l] x*pev (pprim l) x:=fun x=>by rw [iW]; simp [pev]
 have h1:0<dg (pprim l):=pA fun e1=>h (cT.2 fun x=>by rw [iW,e1]; simp)
 have h2:dg [j0 l]=1:=by simp [dg,nrm,h0]
 have:=(qQ e qN h1).1
 omega
theorem fD {l:List Int} (h:0<dg l):cE (pprim l)=1:=by
 have h1:=uD (iW l)
 rw [fF] at h1
 have h2:cE l≠0:=fun e=>by have:=dZ.1 e; omega
 exact Nat.eq_of_mul_eq_mul_left (Nat.pos_of_ne_zero h2) qN
theorem oP {l:List Int} (h:0<dg l):0<ld (pprim l):=by
 have h1:=nY (l:=pprim l) (by rw [dO]; exact h)
 have h2:ld l=j0 l*ld (pprim l):=by
  have e:∀ x,pev l x=pev (ptim (j0 l) (pprim l)) x:=fun x=>by rw [cL,← iW]
  unfold ld
  rw [mH e,pQ,dO]
 have h3:=nY h
 unfold j0 at h2
 refine Int.not_le.1 fun hn=>?_
 have h4:ld (pprim l)<0:=by omega
 have hc:(0:Int)≤cE l:=Int.natCast_nonneg _
 split at h2
 ·have:=Int.mul_nonneg_of_nonpos_of_nonpos (show -(cE l:Int)≤0 by omega) (Int.le_of_lt h4); omega
 ·have:=Int.mul_nonpos_of_nonneg_of_nonpos hc (Int.le_of_lt h4); omega
theorem prim_dv {h r:List Int} (hh:cE h=1):Dv h (pprim r)↔Dv h r:=by
 constructor
 ·rintro ⟨u,hu⟩
  exact ⟨ptim (j0 r) u,fun x=>by rw [iW,hu,cL]; grind⟩
 ·intro hd
  by_cases h0:dg r=0
  ·exact Dv.zero _ fun x=>by rw [pprim_zero h0]; rfl
  have h1:j0 r≠0:=fun e=>h0 (dZ.1 (by have:=fF r; omega))
  exact Dv.prim hh h1 (hd.ext (fun _=>rfl) fun x=>by rw [eK,← iW])
theorem gcd_step {a b t r h:List Int} {k:Int} (hh:cE h=1) (hk:k≠0) (e:∀ x,k*pev a x=pev b x*pev t x+pev r x):Dv h a∧Dv h b↔Dv h b∧Dv h (pprim r):=by
 rw [prim_dv hh]
 constructor
 ·rintro ⟨h1,h2⟩
  refine ⟨h2,(h1.mul_right (c:=[k]) (d:=ptim k a) fun x=>by rw [cL]; simp only [pev]; grind).sub (h2.mul_right (c:=t) (d:=pmul b t) fun x=>bN _ _ _) fun x=>?_⟩
  rw [cL,bN,e]; omega
 ·rintro ⟨h1,h2⟩
  refine ⟨Dv.prim hh hk ((h1.mul_right (c:=t) (d:=pmul b t) fun x=>bN _ _ _).add h2 fun x=>?_),h1⟩
  rw [eK,e,bN]
theorem gcd_end {p q a:List Int} (ha:0<dg a→cE a=1∧0<ld a) (hz:dg a=0→dg p=0∧dg q=0)
  (h:∀ h,cE h=1→(Dv h a↔Dv h (pprim p)∧Dv h (pprim q))):Gc (ptim (Nat.gcd (cE p) (cE q):Nat) a) p q:=by
 by_cases h0:dg a=0
 ·obtain ⟨h1,h2⟩:=hz h0
  have e:∀ x,pev (ptim (Nat.gcd (cE p) (cE q):Nat) a) x=0:=fun x=>by rw [cL,cT.1 h0]; simp
  refine ⟨Dv.zero _ (cT.1 h1),Dv.zero _ (cT.1 h2),fun d _ _=>Dv.zero _ e,?_⟩
  unfold ld; rw [jK.1 (Nat.le_of_eq (cT.2 e)) _ (Nat.zero_le _)]; exact Int.le_refl _
 obtain ⟨ha1,ha2⟩:=ha qN
 obtain ⟨k1,k2⟩:=(h a ha1).1 (Dv.refl a)
 have side:∀ (p:List Int) (c:Nat),c ∣ cE p→Dv a (pprim p)→Dv (ptim (c:Nat) a) p:=fun p c hc hd=>by
  obtain ⟨u,hu⟩:=hd
  obtain ⟨s,hs⟩:(c:Int) ∣ j0 p:=by rw [← Int.dvd_natAbs,fF]; exact Int.natCast_dvd_natCast.2 hc
  exact ⟨ptim s u,fun x=>by rw [iW,hu,cL,cL,hs]; grind⟩
 refine ⟨side p _ (Nat.gcd_dvd_left _ _) k1,side q _ (Nat.gcd_dvd_right _ _) k2,fun d hp hq=>?_,?_⟩
 ·by_cases hd:dg d=0
  ·have z:∀ {p:List Int},Dv d p→cE p=0:=fun ⟨u,hu⟩=>dZ.2 (cT.2 fun x=>by rw [hu,cT.1 hd]; simp)
   exact Dv.zero _ fun x=>by rw [cL,z hp,z hq]; simp
  have hd:0<dg d:=by omega
  have hdp:Dv (pprim d) d:=⟨[j0 d],fun x=>by rw [iW]; simp only [pev]; grind⟩
  have h1:=(h (pprim d) (fD hd)).2 ⟨(prim_dv (fD hd)).2 (hdp.trans hp),(prim_dv (fD hd)).2 (hdp.trans hq)⟩
  obtain ⟨u,hu⟩:=h1
  have hc:cE d ∣ Nat.gcd (cE p) (cE q):=Nat.dvd_gcd hp.cnt hq.cnt
  obtain ⟨s,hs⟩:j0 d ∣ (Nat.gcd (cE p) (cE q):Nat):=by rw [← Int.natAbs_dvd,fF]; exact Int.natCast_dvd_natCast.2 hc
  exact ⟨ptim s u,fun x=>by rw [cL,cL,hu,hs,iW d]; grind⟩
 ·have e:ld (ptim (Nat.gcd (cE p) (cE q):Nat) a)=if Nat.gcd (cE p) (cE q)=0 then 0 else (Nat.gcd (cE p) (cE q):Nat)*ld a:=by
   by_cases hg:Nat.gcd (cE p) (cE q)=0
   ·rw [if_pos hg]
    unfold ld; rw [pQ,hg]; simp
   ·rw [if_neg hg]
    have e:∀ x,pev (ptim (Nat.gcd (cE p) (cE q):Nat) a) x=pev [((Nat.gcd (cE p) (cE q):Nat):Int)] x*pev a x:=fun x=>by rw [cL]; simp [pev]
    have h2:dg [((Nat.gcd (cE p) (cE q):Nat):Int)]=1:=by simp only [dg,nrm]; rw [if_neg qN]; rfl
    have h3:ld [((Nat.gcd (cE p) (cE q):Nat):Int)]=(Nat.gcd (cE p) (cE q):Nat):=by unfold ld; rw [h2]; rfl
    rw [(qQ e qN qN).2,h3]
  rw [e]
  split
  ·exact Int.le_refl _
  ·exact Int.mul_nonneg (Int.natCast_nonneg _) (Int.le_of_lt ha2)
theorem ipow_ne {a:Int} (h:a≠0):∀ n:Nat,a^n≠0
 | 0=>by rw [Int.pow_zero]; omega
 | n+1=>by rw [Int.pow_succ]; exact Int.mul_ne_zero (ipow_ne h n) h
theorem gc_run:∀ (n:Nat) (p q a b:List Int),dg b≤n→(0<dg a→cE a=1∧0<ld a)→(0<dg b→cE b=1∧0<ld b)→(dg a=0∧dg b=0→dg p=0∧dg q=0) →
  (∀ h,cE h=1→(Dv h a∧Dv h b↔Dv h (pprim p)∧Dv h (pprim q)))→∃ g,Gc g p q:=by
 intro n
 induction n with
 | zero =>
  intro p q a b hb ha _ hz h
  have hb0:dg b=0:=by omega
  refine ⟨_,gcd_end (a:=a) ha (fun h0=>hz ⟨h0,hb0⟩) fun d hd=>?_⟩
  rw [← h d hd]
  exact ⟨fun k=>⟨k,Dv.zero _ (cT.1 hb0)⟩,fun k=>k.1⟩
 | succ n ih =>
  intro p q a b hb ha hbp hz h
  by_cases h0:dg b=0
  ·exact ih p q a b qN ha hbp hz h
  obtain ⟨t,r,hr,e⟩:=pseudo (q:=b) qN (dg a) a (Nat.le_refl _)
  have hk:ld b^(dg a+1 - dg b)≠0:=fun e=>by
   have:=nY (l:=b) qN
   exact ipow_ne this _ e
  refine ih p q b (pprim r) (by rw [dO]; omega) hbp (fun h1=>?_) (fun h1=>by omega) fun d hd=>?_
  ·rw [dO] at h1
   exact ⟨fD h1,oP h1⟩
  ·rw [← h d hd,gcd_step hd hk e]
theorem wF (p q:List Int):∃ g,Gc g p q:=by
 refine gc_run _ p q (pprim p) (pprim q) (Nat.le_refl _) (fun h=>?_) (fun h=>?_) (fun h=>?_) fun _ _=>Iff.rfl
 ·rw [dO] at h; exact ⟨fD h,oP h⟩
 ·rw [dO] at h; exact ⟨fD h,oP h⟩
 ·rwa [dO,dO] at h
theorem gc_mul {g p q r d:List Int} (h:Gc g p q) (h1:Dv d (pmul p r)) (h2:Dv d (pmul q r)):Dv d (pmul g r):=by
 by_cases hr:dg r=0
 ·exact Dv.zero _ fun x=>by rw [bN,cT.1 hr]; simp
 obtain ⟨k,hk⟩:=wF (pmul p r) (pmul q r)
 obtain ⟨a,ha⟩:=h.1
 obtain ⟨b,hb⟩:=h.2.1
 obtain ⟨u,hu⟩:=hk.2.2.1 (pmul g r) ⟨a,fun x=>by rw [bN,bN,ha]; grind⟩ ⟨b,fun x=>by rw [bN,bN,hb]; grind⟩
 have s:∀ (p:List Int),Dv k (pmul p r)→Dv (pmul g u) p:=fun p ⟨v,hv⟩=>⟨v,fun x=>by
  have:=cancel (a:=r) (u:=p) (v:=pmul (pmul g u) v) qN (fun x=>by
   have:=hv x
   rw [hu,bN,bN] at this
   rw [bN,bN]; grind) x
  rw [this,bN]⟩
 obtain ⟨w,hw⟩:=h.2.2.1 _ (s p hk.1) (s q hk.2.1)
 refine (hk.2.2.1 d h1 h2).trans ⟨w,fun x=>?_⟩
 rw [bN,hw,bN,hu,bN]; grind
def Irr (h:List Int):Prop:=cE h=1∧2≤dg h∧∀ d,cE d=1→Dv d h→dg d=1∨dg d=dg h
theorem Dv.prim_of {d h:List Int} (hh:cE h=1) (k:Dv d h):cE d=1:=by
 have:=k.cnt
 rw [hh] at this
 exact Nat.dvd_one.1 this
theorem r8:∀ (n:Nat) (p:List Int),dg p≤n→cE p=1→2≤dg p→∃ h,Irr h∧Dv h p
 | 0,p,h,_,h2=>by omega
 | n+1,p,hn,hc,h2=>by
  by_cases h:Irr p
  ·exact ⟨p,h,Dv.refl p⟩
  ·have:∃ d,cE d=1∧Dv d p∧dg d≠1∧dg d≠dg p:=Classical.byContradiction fun hn=>h ⟨hc,h2,fun d h3 h4=>by
    by_cases e:dg d=1
    ·exact .inl e
    ·by_cases e2:dg d=dg p
     ·exact .inr e2
     ·exact (hn ⟨d,h3,h4,e,e2⟩).elim⟩
   obtain ⟨d,h3,h4,h5,h6⟩:=this
   have:=h4.deg qN
   obtain ⟨h,h7,h8⟩:=r8 n d qN h3 qN
   exact ⟨h,h7,h8.trans h4⟩
theorem Dv.back {d h:List Int} (hh:cE h=1) (k:Dv d h) (e:dg d=dg h):Dv h d:=by
 have h0:0<dg h:=Nat.pos_of_ne_zero fun e=>by rw [dZ.2 e] at hh; omega
 obtain ⟨u,hu⟩:=k
 have hu0:0<dg u:=pA fun e=>by
  have:=(cT (l:=h)).2 fun x=>by rw [hu,e]; simp
  omega
 have h1:=(qQ hu qN hu0).1
 have h2:=wV hu
 rw [hh] at h2
 have h3:cE u=1:=by
  exact Nat.eq_one_of_mul_eq_one_left h2.symm
 have h4:∀ x,pev u x=u.getD 0 0:=const_ev qN
 have h5:cE u=(u.getD 0 0).natAbs:=by
  have:=rC (l:=u) (m:=[u.getD 0 0]) fun x=>by rw [h4]; simp [pev]
  rw [this]; simp [cE]
 have h6:u.getD 0 0*u.getD 0 0=1:=by
  have:(u.getD 0 0).natAbs=1:=by omega
  have h7:=Int.natAbs_mul_self (a:=u.getD 0 0)
  rw [this] at h7; simpa using h7.symm
 exact ⟨u,fun x=>by rw [hu,h4,Int.mul_assoc,h6,Int.mul_one]⟩
theorem vV {h a b c:List Int} (hh:Irr h) (e:∀ x,pev c x=pev a x*pev b x) (k:Dv h c):Dv h a∨Dv h b:=by
 obtain ⟨g,hg⟩:=wF h a
 have hc:=hg.1.prim_of hh.1
 rcases hh.2.2 g hc hg.1 with h1 | h1
 ·right
  have h2:Dv h (pmul g b):=gc_mul hg ⟨b,fun x=>bN _ _ _⟩ (k.ext (fun _=>rfl) fun x=>by rw [e,bN])
  have h4:∀ x,pev g x=g.getD 0 0:=const_ev qN
  have h5:g.getD 0 0≠0:=by
   have:=nY (l:=g) qN
   rwa [ld,show dg g - 1=0 by omega] at this
  exact Dv.prim hh.1 h5 (h2.ext (fun _=>rfl) fun x=>by rw [bN,eK,h4])
 ·left
  exact (hg.1.back hh.1 h1).trans hg.2.1
def ppow (h:List Int):Nat→List Int
 | 0=>[1]
 | n+1=>pmul (ppow h n) h
theorem kA (h:List Int) (n:Nat) (x:Int):pev (ppow h n) x=pev h x^n:=by
 induction n with
 | zero=>simp [ppow,pev]
 | succ n ih=>rw [ppow,bN,ih,Int.pow_succ]
theorem val_exists {h:List Int} (hh:Irr h):∀ (n:Nat) (w:List Int),dg w≤n→0<dg w→∃ k v,¬ Dv h v∧∀ x,pev w x=pev h x^k*pev v x
 | 0,w,h1,h2=>by omega
 | n+1,w,h1,h2=>by
  by_cases hd:Dv h w
  ·obtain ⟨u,hu⟩:=hd
   have hu0:0<dg u:=pA fun e=>by
    have:=(cT (l:=w)).2 fun x=>by rw [hu,e]; simp
    omega
   have h3:=(qQ hu (by have:=hh.2.1; omega) hu0).1
   have h4:=hh.2.1
   obtain ⟨k,v,h5,h6⟩:=val_exists hh n u qN hu0
   exact ⟨k+1,v,h5,fun x=>by rw [hu,h6,Int.pow_succ]; grind⟩
  ·exact ⟨0,w,hd,fun x=>by simp⟩
def pder (l:List Int):List Int:=nrm (lst (l.length - 1) fun i=>((i+1:Nat):Int)*l.getD (i+1) 0)
theorem kB (l:List Int) (i:Nat):(pder l).getD i 0=((i+1:Nat):Int)*l.getD (i+1) 0:=by
 rw [pder,gT,qT]
 split
 ·rfl
 ·rw [fU (l:=l) qN]; simp
theorem ev_co {l m:List Int} (h:∀ i,l.getD i 0=m.getD i 0) (x:Int):pev l x=pev m x:=q7 (kT h) x
theorem qC {l m:List Int} (h:∀ x,pev l x=pev m x) (x:Int):pev (pder l) x=pev (pder m) x:=ev_co (fun i=>by rw [kB,kB,mH h]) x
theorem pder_nm (l:List Int):Nm (pder l):=gZ _
theorem pder_nil:pder []=[]:=rfl
theorem vF (c:Int) (l:List Int) (x:Int):pev (pder (c::l)) x=pev l x+x*pev (pder l) x:=by
 have e:pev (pder (c::l)) x=pev (padd l (0::pder l)) x:=ev_co (fun i=>by
  rw [kB,mT,List.getD_cons_succ]
  cases i with
  | zero=>simp
  | succ i=>rw [List.getD_cons_succ,kB]; push_cast; grind) x
 rw [e,gS]; simp [pev]
theorem pder_padd (l m:List Int) (x:Int):pev (pder (padd l m)) x=pev (pder l) x+pev (pder m) x:=by
 rw [← gS]
 exact ev_co (fun i=>by rw [kB,mT,mT,kB,kB]; grind) x
theorem pder_ptim (c:Int) (l:List Int) (x:Int):pev (pder (ptim c l)) x=c*pev (pder l) x:=by
 rw [← cL]
 exact ev_co (fun i=>by rw [kB,pQ,pQ,kB]; grind) x
theorem vE:∀ (l m:List Int) (x:Int),pev (pder (pmul l m)) x=pev (pder l) x*pev m x+pev l x*pev (pder m) x
 | [],m,x=>by
  have:pev (pder (pmul [] m)) x=pev (pder []) x:=qC (fun x=>by rw [bN]; simp [pev]) x
  rw [this]; simp [pder_nil,pev]
 | c::l,m,x=>by
  have e:pev (pder (pmul (c::l) m)) x=pev (pder (padd (ptim c m) (0::pmul l m))) x:=qC (fun x=>by
   rw [bN,gS,cL]; simp only [pev]; rw [bN]; grind) x
  rw [e,pder_padd,pder_ptim,vF,vF,vE l m x,bN]; simp only [pev]; grind
theorem pder_mul {a b c:List Int} (e:∀ x,pev c x=pev a x*pev b x) (x:Int):pev (pder c) x=pev (pder a) x*pev b x+pev a x*pev (pder b) x:=by
 rw [← vE]; exact qC (fun x=>by rw [e,bN]) x
theorem pder_dg {l:List Int} (h:2≤dg l):dg (pder l)+1=dg l:=by
 have h1:dg (pder l)≤dg l - 1:=jK.2 fun i hi=>by rw [kB,jK.1 (Nat.le_refl (dg l)) _ qN,Int.mul_zero]
 have h2:¬ dg (pder l)≤dg l - 2:=fun hn=>by
  have h3:=jK.1 hn (dg l - 2) (Nat.le_refl _)
  rw [kB,show dg l - 2+1=dg l - 1 by omega] at h3
  have h4:ld l≠0:=nY qN
  rcases Int.mul_eq_zero.1 h3 with h5 | h5
  ·omega
  ·exact h4 h5
 omega
theorem pder_low {l:List Int} (h:dg l≤1) (x:Int):pev (pder l) x=0:=by
 refine cT.1 (Nat.le_zero.1 (jK.2 fun i _=>?_)) x
 rw [kB,jK.1 h _ qN,Int.mul_zero]
theorem pder_ppow (h:List Int):∀ (n:Nat) (x:Int),pev (pder (ppow h (n+1))) x=((n+1:Nat):Int)*pev h x^n*pev (pder h) x
 | 0,x=>by
  have:pev (pder (ppow h (0+1))) x=pev (pder h) x:=qC (fun x=>by rw [kA,Int.pow_succ,Int.pow_zero,Int.one_mul]) x
  rw [this]; simp
 | n+1,x=>by
  rw [ppow,vE,pder_ppow h n x,kA]; push_cast; grind
theorem uS {w g s h:List Int} (hw:0<dg w) (hg:Gc g w (pder w)) (hs:∀ x,pev w x=pev g x*pev s x) (hh:Irr h) (hd:Dv h w) :
  Dv h s∧∀ f,(∀ x,pev s x=pev h x*pev f x)→¬ Dv h f:=by
 obtain ⟨k,v,hv,ev⟩:=val_exists hh _ w (Nat.le_refl _) hw
 have h2:=hh.2.1
 cases k with
 | zero=>exact (hv (hd.ext (fun _=>rfl) fun x=>by rw [ev]; simp)).elim
 | succ k =>
  have e1:∀ x,pev w x=pev (ppow h (k+1)) x*pev v x:=fun x=>by rw [ev,kA]
  have e2:∀ x,pev (pder w) x=pev h x^k*pev (padd (pmul (ptim ((k+1:Nat):Int) (pder h)) v) (pmul h (pder v))) x:=fun x=>by
   rw [pder_mul e1,pder_ppow,kA,gS,bN,cL,bN,Int.pow_succ]; grind
  have h3:¬ Dv h (padd (pmul (ptim ((k+1:Nat):Int) (pder h)) v) (pmul h (pder v))):=fun hc=>by
   have h4:Dv h (pmul (ptim ((k+1:Nat):Int) (pder h)) v):=hc.sub (c:=pmul h (pder v)) ⟨pder v,fun x=>bN _ _ _⟩ fun x=>by rw [gS]; omega
   rcases vV hh (fun x=>bN _ _ _) h4 with h5 | h5
   ·have h6:dg (ptim ((k+1:Nat):Int) (pder h))=dg (pder h):=by
     have a1:dg [((k+1:Nat):Int)]=1:=by simp only [dg,nrm]; rw [if_neg qN]; rfl
     have:=(qQ (a:=[((k+1:Nat):Int)]) (b:=pder h) (c:=ptim ((k+1:Nat):Int) (pder h)) (fun x=>by rw [cL]; simp [pev]) qN (by have:=pder_dg h2; omega)).1
     omega
    have h7:=pder_dg h2
    have:=h5.deg qN
    omega
   ·exact hv h5
  have hpk:0<dg (ppow h k):=pA fun e=>by
   have:=(cT (l:=w)).2 fun x=>by
    rw [ev,Int.pow_succ,← kA,e]; simp
   omega
  obtain ⟨e,he⟩:Dv (ppow h k) g:=hg.2.2.1 _ ⟨pmul h v,fun x=>by rw [ev,kA,bN,Int.pow_succ]; grind⟩ ⟨padd (pmul (ptim ((k+1:Nat):Int) (pder h)) v) (pmul h (pder v)),fun x=>by rw [e2,kA]⟩
  have h8:¬ Dv h e:=fun ⟨m,hm⟩=>h3 (by
   obtain ⟨z,hz⟩:=hg.2.1
   have h10:=cancel (u:=padd (pmul (ptim ((k+1:Nat):Int) (pder h)) v) (pmul h (pder v))) (v:=pmul h (pmul m z)) hpk fun x=>by
    rw [kA,← e2,hz,he,hm,kA,bN,bN]; grind
   exact ⟨pmul m z,fun x=>by rw [h10,bN]⟩)
  have h9:∀ x,pev (pmul h v) x=pev e x*pev s x:=fun x=>by
   rw [← bN]
   exact cancel hpk (fun x=>by
    have:=hs x
    rw [ev,he,kA,Int.pow_succ] at this
    rw [kA,bN,bN]; grind) x
  rcases vV hh h9 ⟨v,fun x=>bN _ _ _⟩ with h10 | h10
  ·exact (h8 h10).elim
  ·refine ⟨h10,fun f hf hdf=>hv ?_⟩
   have:∀ x,pev v x=pev (pmul e f) x:=cancel (a:=h) qN fun x=>by
    have:=h9 x
    rw [bN,hf] at this
    rw [bN]; grind
   obtain ⟨y,hy⟩:=hdf
   exact ⟨pmul e y,fun x=>by rw [this,bN,hy,bN]; grind⟩
theorem simple_free {w g s d:List Int} (hw:0<dg w) (hc:cE w=1) (hg:Gc g w (pder w)) (hs:∀ x,pev w x=pev g x*pev s x) (hd:Gc d s (pder s)):dg d=1:=by
 have hsw:Dv s w:=⟨g,fun x=>by rw [hs]; grind⟩
 have hcs:=hsw.prim_of hc
 have h0:0<dg s:=(hsw.deg hw).1
 have h1:=(hd.1.deg h0).1
 refine Classical.byContradiction fun hn=>?_
 obtain ⟨h,hh,hdv⟩:=r8 _ d (Nat.le_refl _) (hd.1.prim_of hcs) qN
 have h2:=hdv.trans hd.1
 obtain ⟨k1,k2⟩:=uS hw hg hs hh (h2.trans hsw)
 obtain ⟨f,hf⟩:=h2
 refine k2 f hf ?_
 have h3:Dv h (pmul (pder h) f):=(hdv.trans hd.2.1).sub (c:=pmul h (pder f)) ⟨pder f,fun x=>bN _ _ _⟩ fun x=>by
  rw [pder_mul hf,bN,bN]; omega
 rcases vV hh (fun x=>bN _ _ _) h3 with h4 | h4
 ·have h5:=pder_dg hh.2.1
  have:=h4.deg (by have:=hh.2.1; omega)
  omega
 ·exact h4
theorem sO {w g s:List Int} (hw:0<dg w) (hg:Gc g w (pder w)) (hs:∀ x,pev w x=pev g x*pev s x):∀ (n:Nat) (d:List Int),dg d≤n+1→cE d=1→Dv d w→Dv d (ppow s n)
 | n,d,hn,hc,hd=>by
  have h0:=(hd.deg hw).1
  by_cases h1:dg d=1
  ·have h2:∀ x,pev d x=d.getD 0 0:=const_ev qN
   have h5:cE d=(d.getD 0 0).natAbs:=by
    have:=rC (l:=d) (m:=[d.getD 0 0]) fun x=>by rw [h2]; simp [pev]
    rw [this]; simp [cE]
   have h6:d.getD 0 0*d.getD 0 0=1:=by
    have h7:=Int.natAbs_mul_self (a:=d.getD 0 0)
    rw [← h5,hc] at h7; simpa using h7.symm
   have h3:Dv d [1]:=⟨d,fun x=>by rw [h2,h6]; simp [pev]⟩
   exact h3.trans ⟨ppow s n,fun x=>by simp [pev]⟩
  ·cases n with
   | zero=>omega
   | succ n =>
    obtain ⟨h,hh,hdv⟩:=r8 _ d (Nat.le_refl _) hc qN
    obtain ⟨e,he⟩:=hdv
    have h2:=hh.2.1
    have he0:0<dg e:=pA fun z=>by
     have:=(cT (l:=d)).2 fun x=>by rw [he,z]; simp
     omega
    have h3:=(qQ he qN he0).1
    have hed:Dv e d:=⟨h,fun x=>by rw [he]; grind⟩
    obtain ⟨a,ha⟩:=sO hw hg hs n e qN (hed.prim_of hc) (hed.trans hd)
    obtain ⟨b,hb⟩:=(uS hw hg hs hh ((show Dv h d from ⟨e,he⟩).trans hd)).1
    exact ⟨pmul a b,fun x=>by rw [ppow,bN,ha,hb,he,bN]; grind⟩
def gh:List Int→Int→Int→Int
 | [],_,_=>0
 | c::l,w,u=>c*w^(l.length+1)+u*gh l w u
def ghl (w:Int):List Int→List Int
 | []=>[]
 | c::l=>c*w^(l.length+1)::ghl w l
def g1:List Int→Int→Int→Int
 | [],_,_=>0
 | _::l,w,u=>gh l w u+u*g1 l w u
def g1l (w:Int):List Int→List Int
 | []=>[]
 | _::l=>padd (ghl w l) (0::g1l w l)
theorem wC (w u:Int) (l:List Int):pev (ghl w l) u=gh l w u:=by
 induction l with
 | nil=>rfl
 | cons c l ih=>simp only [ghl,gh,pev,ih]
theorem g1l_ev (w u:Int) (l:List Int):pev (g1l w l) u=g1 l w u:=by
 induction l with
 | nil=>rfl
 | cons c l ih=>simp only [g1l,g1,gS,wC,pev,ih]; omega
theorem gh_at (w x:Int) (l:List Int):gh l w (w*x)=w^l.length*pev l x:=by
 induction l with
 | nil=>simp [gh,pev]
 | cons c l ih=>simp only [gh,pev,ih,List.length_cons,Int.pow_succ]; grind
theorem g1_at (w x:Int) (l:List Int):w*g1 l w (w*x)=w^l.length*pev (pder l) x:=by
 induction l with
 | nil=>rw [pder_nil]; simp [g1,pev]
 | cons c l ih =>
  rw [vF]
  simp only [g1,gh_at,List.length_cons,Int.pow_succ]
  have:w*(w^l.length*pev l x+w*x*g1 l w (w*x))=w^l.length*w*pev l x+w*x*(w*g1 l w (w*x)):=by grind
  rw [this,ih]; grind
def gC (M:Nat):List Int→Nat
 | []=>0
 | c::l=>c.natAbs+M*gC M l
def gD (M:Nat):List Int→Nat
 | []=>0
 | _::l=>M*gD M l+gC (M+1) l
def gF (M:Nat):List Int→Nat
 | []=>0
 | _::l=>M*gF M l+gD M l
theorem gh_le {M w:Nat} {u:Int} (h:u.natAbs≤M*w) (l:List Int):(gh l w u).natAbs≤gC M l*w^l.length:=by
 induction l with
 | nil=>simp [gh]
 | cons c l ih =>
  have h1:=Int.natAbs_add_le (c*(w:Int)^(l.length+1)) (u*gh l w u)
  rw [Int.natAbs_mul,Int.natAbs_mul,Int.natAbs_pow,Int.natAbs_natCast] at h1
  have h2:u.natAbs*(gh l w u).natAbs≤(M*w)*(gC M l*w^l.length):=Nat.mul_le_mul h ih
  have h3:(c.natAbs+M*gC M l)*w^(l.length+1)=c.natAbs*w^(l.length+1)+(M*w)*(gC M l*w^l.length):=by
   rw [Nat.pow_succ]; grind
  show (c*(w:Int)^(l.length+1)+u*gh l w u).natAbs≤(c.natAbs+M*gC M l)*w^(l.length+1)
  omega
theorem up_le {M w:Nat} {u:Int} (h:u.natAbs≤M*w) (hw:1≤w):(u+1).natAbs≤(M+1)*w:=by
 rw [Nat.succ_mul]; omega
theorem gh_lip {M w:Nat} {u:Int} (h:u.natAbs≤M*w) (hw:1≤w) (l:List Int):(gh l w (u+1) - gh l w u).natAbs*w≤gD M l*w^l.length:=by
 induction l with
 | nil=>simp [gh]
 | cons c l ih =>
  have e:gh (c::l) w (u+1) - gh (c::l) w u=u*(gh l w (u+1) - gh l w u)+gh l w (u+1):=by simp only [gh]; grind
  have h1:=Int.natAbs_add_le (u*(gh l w (u+1) - gh l w u)) (gh l w (u+1))
  rw [Int.natAbs_mul] at h1
  have h2:=gh_le (up_le h hw) l
  rw [e]
  have h3:u.natAbs*((gh l w (u+1) - gh l w u).natAbs*w)≤(M*w)*(gD M l*w^l.length):=Nat.mul_le_mul h ih
  have h4:(u*(gh l w (u+1) - gh l w u)+gh l w (u+1)).natAbs*w≤(u.natAbs*(gh l w (u+1) - gh l w u).natAbs+(gh l w (u+1)).natAbs)*w:=Nat.mul_le_mul_right _ h1
  have h5:(gh l w (u+1)).natAbs*w≤gC (M+1) l*w^l.length*w:=Nat.mul_le_mul_right _ h2
  have h6:(M*gD M l+gC (M+1) l)*w^(l.length+1)=(M*w)*(gD M l*w^l.length)+gC (M+1) l*w^l.length*w:=by rw [Nat.pow_succ]; grind
  have h7:(u.natAbs*(gh l w (u+1) - gh l w u).natAbs+(gh l w (u+1)).natAbs)*w=u.natAbs*((gh l w (u+1) - gh l w u).natAbs*w)+(gh l w (u+1)).natAbs*w:=by grind
  show _≤(M*gD M l+gC (M+1) l)*w^(l.length+1)
  omega
theorem gh_der {M w:Nat} {u:Int} (h:u.natAbs≤M*w) (hw:1≤w) (l:List Int):(gh l w (u+1) - gh l w u - g1 l w u).natAbs*(w*w)≤gF M l*w^l.length:=by
 induction l with
 | nil=>simp [gh,g1]
 | cons c l ih =>
  have e:gh (c::l) w (u+1) - gh (c::l) w u - g1 (c::l) w u=u*(gh l w (u+1) - gh l w u - g1 l w u)+(gh l w (u+1) - gh l w u):=by simp only [gh,g1]; grind
  have h1:=Int.natAbs_add_le (u*(gh l w (u+1) - gh l w u - g1 l w u)) (gh l w (u+1) - gh l w u)
  rw [Int.natAbs_mul] at h1
  have h2:=gh_lip h hw l
  rw [e]
  generalize gh l w (u+1) - gh l w u - g1 l w u=E at *
  generalize gh l w (u+1) - gh l w u=D at *
  have h3:u.natAbs*(E.natAbs*(w*w))≤(M*w)*(gF M l*w^l.length):=Nat.mul_le_mul h ih
  have h4:(u*E+D).natAbs*(w*w)≤(u.natAbs*E.natAbs+D.natAbs)*(w*w):=Nat.mul_le_mul_right _ h1
  have h5:D.natAbs*w*w≤gD M l*w^l.length*w:=Nat.mul_le_mul_right _ h2
  have h6:(M*gF M l+gD M l)*w^(l.length+1)=(M*w)*(gF M l*w^l.length)+gD M l*w^l.length*w:=by rw [Nat.pow_succ]; grind
  have h7:(u.natAbs*E.natAbs+D.natAbs)*(w*w)=u.natAbs*(E.natAbs*(w*w))+D.natAbs*w*w:=by grind
  show _≤(M*gF M l+gD M l)*w^(l.length+1)
  omega
def pst (w:Int):List Int→List Int
 | []=>[]
 | c::l=>c::(pst w l).map (fun y=>w*y)
theorem ev_pst (w:Int) (l:List Int) (x:Int):pev (pst w l) x=pev l (w*x):=by
 induction l with
 | nil=>rfl
 | cons c l ih=>simp only [pst,pev,eK,ih]; grind
theorem co_pst (w:Int) (l:List Int) (i:Nat):(pst w l).getD i 0=w^i*l.getD i 0:=by
 induction l generalizing i with
 | nil=>simp [pst]
 | cons c l ih =>
  cases i with
  | zero=>simp [pst]
  | succ i =>
   show ((pst w l).map fun y=>w*y).getD i 0=_
   rw [tM,ih,List.getD_cons_succ,Int.pow_succ]; grind
theorem mult_ext {F G:List Int} {w:Int} (hw:w≠0) (h:∀ x,pev F (w*x)=pev G (w*x)) (u:Int):pev F u=pev G u:=by
 have h1:∀ i,F.getD i 0=G.getD i 0:=fun i=>by
  have:=mH (l:=pst w F) (m:=pst w G) (fun x=>by rw [ev_pst,ev_pst,h]) i
  rw [co_pst,co_pst] at this
  exact Int.eq_of_mul_eq_mul_left (Int.pow_ne_zero hw) this
 rw [← dL F,← dL G,kT h1]
theorem gh_bez {A B U V:List Int} {R:Int} (h:∀ x,pev U x*pev A x+pev V x*pev B x=R) {w:Int} (hw:w≠0) (u:Int) :
  w^(V.length+B.length)*(gh U w u*gh A w u)+w^(U.length+A.length)*(gh V w u*gh B w u)=R*w^(U.length+A.length+(V.length+B.length)):=by
 have:=mult_ext hw (F:=padd (ptim (w^(V.length+B.length)) (pmul (ghl w U) (ghl w A))) (ptim (w^(U.length+A.length)) (pmul (ghl w V) (ghl w B)))) (G:=[R*w^(U.length+A.length+(V.length+B.length))]) (fun x=>by
  rw [gS,cL,cL,bN,bN]
  simp only [wC,gh_at,pev]
  have e1:w^(V.length+B.length)*(w^U.length*pev U x*(w^A.length*pev A x))=w^(U.length+A.length+(V.length+B.length))*(pev U x*pev A x):=by simp only [Int.pow_add]; grind
  have e2:w^(U.length+A.length)*(w^V.length*pev V x*(w^B.length*pev B x))=w^(U.length+A.length+(V.length+B.length))*(pev V x*pev B x):=by simp only [Int.pow_add]; grind
  rw [e1,e2,← Int.mul_add,h]; grind) u
 rw [gS,cL,cL,bN,bN] at this
 simp only [wC,pev] at this
 omega
theorem gh_rel {A B C q:List Int} {α β:Int} (h:∀ x,α*pev A x=pev q x*pev B x - β*pev C x) {w:Int} (hw:w≠0) (u:Int) :
  w^(q.length+B.length+C.length)*(α*gh A w u)=w^(A.length+C.length)*(gh q w u*gh B w u) - w^(A.length+q.length+B.length)*(β*gh C w u):=by
 have:=mult_ext hw (F:=ptim (w^(q.length+B.length+C.length)*α) (ghl w A)) (G:=psub (ptim (w^(A.length+C.length)) (pmul (ghl w q) (ghl w B))) (ptim (w^(A.length+q.length+B.length)*β) (ghl w C))) (fun x=>by
  rw [iC,cL,cL,cL,bN]
  simp only [wC,gh_at]
  have e0:w^(q.length+B.length+C.length)*α*(w^A.length*pev A x)=w^(A.length+q.length+B.length+C.length)*(α*pev A x):=by simp only [Int.pow_add]; grind
  have e1:w^(A.length+C.length)*(w^q.length*pev q x*(w^B.length*pev B x))=w^(A.length+q.length+B.length+C.length)*(pev q x*pev B x):=by simp only [Int.pow_add]; grind
  have e2:w^(A.length+q.length+B.length)*β*(w^C.length*pev C x)=w^(A.length+q.length+B.length+C.length)*(β*pev C x):=by simp only [Int.pow_add]; grind
  rw [e0,e1,e2,h]; grind) u
 rw [iC,cL,cL,cL,bN] at this
 simp only [wC] at this
 grind
theorem g1_der (l:List Int) {w:Int} (hw:w≠0) (u:Int):w^(pder l).length*(w*g1 l w u)=w^l.length*gh (pder l) w u:=by
 have:=mult_ext hw (F:=ptim (w^(pder l).length*w) (g1l w l)) (G:=ptim (w^l.length) (ghl w (pder l))) (fun x=>by
  rw [cL,cL]
  simp only [wC,g1l_ev,gh_at]
  rw [Int.mul_assoc,g1_at]; grind) u
 rw [cL,cL] at this
 simp only [wC,g1l_ev] at this
 grind
def tch (l:List Int) (w:Nat) (u:Int):Prop:=gh l w u*gh l w (u+1)≤0
theorem abs_of_mul {a b:Int} (h:a*b≤0):a.natAbs≤(b - a).natAbs:=by
 rcases Int.lt_trichotomy a 0 with ha | ha | ha
 ·have:0≤b:=Int.le_of_not_gt fun hb=>by have:=Int.mul_pos_of_neg_of_neg ha hb; omega
  omega
 ·omega
 ·have:b≤0:=Int.le_of_not_gt fun hb=>by have:=Int.mul_pos ha hb; omega
  omega
theorem tch_small {M w:Nat} {u:Int} {l:List Int} (h:u.natAbs≤M*w) (hw:1≤w) (ht:tch l w u):(gh l w u).natAbs*w≤gD M l*w^l.length :=
 Nat.le_trans (Nat.mul_le_mul_right _ (abs_of_mul ht)) (gh_lip h hw l)
theorem touch_far {A B U V:List Int} {R:Int} (hR:R≠0) (h:∀ x,pev U x*pev A x+pev V x*pev B x=R) (M:Nat) :
  ∃ W,∀ w,W≤w→∀ u:Int,u.natAbs≤M*w→tch A w u→w^B.length≤2*gC M V*(gh B w u).natAbs∧0<gh B w u*gh B w (u+1):=by
 refine ⟨2*(gC M U*gD M A)+2*(gD M B*gC M V)+1,fun w hW u hu ht=>?_⟩
 have hw:1≤w:=by omega
 have hw0:(w:Int)≠0:=by omega
 have e:=gh_bez h hw0 u
 have hA:=tch_small hu hw ht
 have bU:=gh_le hu U
 have bV:=gh_le hu V
 have lB:=gh_lip hu hw B
 have key:w^B.length≤2*gC M V*(gh B w u).natAbs:=by
  have e1:=congrArg Int.natAbs e
  have e2:=Int.natAbs_add_le ((w:Int)^(V.length+B.length)*(gh U w u*gh A w u)) ((w:Int)^(U.length+A.length)*(gh V w u*gh B w u))
  rw [e1] at e2
  simp only [Int.natAbs_mul,Int.natAbs_pow,Int.natAbs_natCast] at e2
  generalize (gh U w u).natAbs=gU at *
  generalize (gh A w u).natAbs=gA at *
  generalize (gh V w u).natAbs=gV at *
  generalize (gh B w u).natAbs=gB at *
  have hR1:1≤R.natAbs:=by omega
  have f1:gU*(gA*w)≤(gC M U*w^U.length)*(gD M A*w^A.length):=Nat.mul_le_mul bU hA
  have f2:gV*gB≤(gC M V*w^V.length)*gB:=Nat.mul_le_mul_right _ bV
  have f3:1*w^(U.length+A.length+(V.length+B.length))≤R.natAbs*w^(U.length+A.length+(V.length+B.length)):=Nat.mul_le_mul_right _ hR1
  have P:0<w^(U.length+A.length+V.length):=Nat.pow_pos qN
  have g:w^(U.length+A.length+V.length)*(w^B.length*w)≤w^(U.length+A.length+V.length)*(gC M U*gD M A*w^B.length+gC M V*gB*w):=by
   have s1:w^(U.length+A.length+(V.length+B.length))*w≤(w^(V.length+B.length)*(gU*gA)+w^(U.length+A.length)*(gV*gB))*w:=Nat.mul_le_mul_right _ qN
   have s2:w^(V.length+B.length)*(gU*(gA*w))≤w^(V.length+B.length)*((gC M U*w^U.length)*(gD M A*w^A.length)):=Nat.mul_le_mul_left _ f1
   have s3:w^(U.length+A.length)*(gV*gB)*w≤w^(U.length+A.length)*((gC M V*w^V.length)*gB)*w:=Nat.mul_le_mul_right _ (Nat.mul_le_mul_left _ f2)
   have t1:w^(U.length+A.length+V.length)*(w^B.length*w)=w^(U.length+A.length+(V.length+B.length))*w:=by simp only [Nat.pow_add]; grind
   have t2:w^(U.length+A.length+V.length)*(gC M U*gD M A*w^B.length+gC M V*gB*w)=w^(V.length+B.length)*((gC M U*w^U.length)*(gD M A*w^A.length))+w^(U.length+A.length)*((gC M V*w^V.length)*gB)*w:=by simp only [Nat.pow_add]; grind
   have t3:(w^(V.length+B.length)*(gU*gA)+w^(U.length+A.length)*(gV*gB))*w=w^(V.length+B.length)*(gU*(gA*w))+w^(U.length+A.length)*(gV*gB)*w:=by grind
   omega
  have g2:=Nat.le_of_mul_le_mul_left g P
  have g3:2*(gC M U*gD M A)*w^B.length≤w*w^B.length:=Nat.mul_le_mul_right _ qN
  have g4:w^B.length*w≤(2*gC M V*gB)*w:=by
   have a1:w*w^B.length=w^B.length*w:=Nat.mul_comm _ _
   have a2:2*(gC M U*gD M A)*w^B.length=2*(gC M U*gD M A*w^B.length):=Nat.mul_assoc _ _ _
   have a3:(2*gC M V*gB)*w=2*(gC M V*gB*w):=by grind
   omega
  exact Nat.le_of_mul_le_mul_right g4 qN
 refine ⟨key,?_⟩
 have hB0:0<(gh B w u).natAbs:=Nat.pos_of_ne_zero fun e0=>by
  rw [e0,Nat.mul_zero] at key
  have:0<w^B.length:=Nat.pow_pos qN
  omega
 have hlt:(gh B w (u+1) - gh B w u).natAbs<(gh B w u).natAbs:=by
  have s1:gD M B*w^B.length≤gD M B*(2*gC M V*(gh B w u).natAbs):=Nat.mul_le_mul_left _ key
  have s2:gD M B*(2*gC M V*(gh B w u).natAbs)=(2*(gD M B*gC M V))*(gh B w u).natAbs:=by grind
  have s3:(2*(gD M B*gC M V)+1)*(gh B w u).natAbs≤w*(gh B w u).natAbs:=Nat.mul_le_mul_right _ qN
  refine Nat.lt_of_mul_lt_mul_right (a:=w) ?_
  have s4:(2*(gD M B*gC M V)+1)*(gh B w u).natAbs=(2*(gD M B*gC M V))*(gh B w u).natAbs+(gh B w u).natAbs:=by grind
  have s5:w*(gh B w u).natAbs=(gh B w u).natAbs*w:=Nat.mul_comm _ _
  omega
 generalize gh B w (u+1)=y at *
 generalize gh B w u=x at *
 rcases Int.lt_trichotomy x 0 with hx | hx | hx
 ·exact Int.mul_pos_of_neg_of_neg hx qN
 ·omega
 ·exact Int.mul_pos hx qN
theorem rel_opp {A B C q:List Int} {α β:Int} (hα:0<α) (hβ:0<β) (h:∀ x,α*pev A x=pev q x*pev B x - β*pev C x) (M c:Nat) :
  ∃ W,∀ w,W≤w→∀ u:Int,u.natAbs≤M*w→tch B w u→w^C.length≤c*(gh C w u).natAbs→gh A w u*gh C w u<0:=by
 refine ⟨gC M q*gD M B*c+1,fun w hW u hu ht hc=>?_⟩
 have hw:1≤w:=by omega
 have hw0:(w:Int)≠0:=by omega
 have hwp:(0:Int)<(w:Int):=by omega
 have e:=gh_rel h hw0 u
 have hB:=tch_small hu hw ht
 have bq:=gh_le hu q
 have hC0:0<(gh C w u).natAbs:=Nat.pos_of_ne_zero fun e0=>by
  rw [e0,Nat.mul_zero] at hc
  have:0<w^C.length:=Nat.pow_pos qN
  omega
 have hlt:w^(A.length+C.length)*((gh q w u).natAbs*(gh B w u).natAbs)<w^(A.length+q.length+B.length)*(gh C w u).natAbs:=by
  have s1:(gh q w u).natAbs*((gh B w u).natAbs*w)≤(gC M q*w^q.length)*(gD M B*w^B.length):=Nat.mul_le_mul bq hB
  have s2:w^(A.length+C.length)*((gh q w u).natAbs*((gh B w u).natAbs*w))≤w^(A.length+C.length)*((gC M q*w^q.length)*(gD M B*w^B.length)):=Nat.mul_le_mul_left _ s1
  have s3:w^(A.length+q.length+B.length)*(gC M q*gD M B*w^C.length)≤w^(A.length+q.length+B.length)*(gC M q*gD M B*(c*(gh C w u).natAbs)):=Nat.mul_le_mul_left _ (Nat.mul_le_mul_left _ hc)
  have t1:w^(A.length+C.length)*((gC M q*w^q.length)*(gD M B*w^B.length))=w^(A.length+q.length+B.length)*(gC M q*gD M B*w^C.length):=by simp only [Nat.pow_add]; grind
  have t2:w^(A.length+q.length+B.length)*(gC M q*gD M B*(c*(gh C w u).natAbs))=(gC M q*gD M B*c)*(w^(A.length+q.length+B.length)*(gh C w u).natAbs):=by grind
  have hP:0<w^(A.length+q.length+B.length)*(gh C w u).natAbs:=Nat.mul_pos (Nat.pow_pos qN) hC0
  have s4:(gC M q*gD M B*c+1)*(w^(A.length+q.length+B.length)*(gh C w u).natAbs)≤w*(w^(A.length+q.length+B.length)*(gh C w u).natAbs):=Nat.mul_le_mul_right _ hW
  refine Nat.lt_of_mul_lt_mul_right (a:=w) ?_
  have t3:w^(A.length+C.length)*((gh q w u).natAbs*(gh B w u).natAbs)*w=w^(A.length+C.length)*((gh q w u).natAbs*((gh B w u).natAbs*w)):=by grind
  have t4:(gC M q*gD M B*c+1)*(w^(A.length+q.length+B.length)*(gh C w u).natAbs)=(gC M q*gD M B*c)*(w^(A.length+q.length+B.length)*(gh C w u).natAbs)+w^(A.length+q.length+B.length)*(gh C w u).natAbs:=by grind
  have t5:w*(w^(A.length+q.length+B.length)*(gh C w u).natAbs)=w^(A.length+q.length+B.length)*(gh C w u).natAbs*w:=Nat.mul_comm _ _
  omega
 have hmid:((w:Int)^(A.length+C.length)*(gh q w u*gh B w u)).natAbs<((w:Int)^(A.length+q.length+B.length)*(β*gh C w u)).natAbs:=by
  simp only [Int.natAbs_mul,Int.natAbs_pow,Int.natAbs_natCast]
  have hb1:1≤β.natAbs:=by omega
  have:w^(A.length+q.length+B.length)*(1*(gh C w u).natAbs)≤w^(A.length+q.length+B.length)*(β.natAbs*(gh C w u).natAbs):=Nat.mul_le_mul_left _ (Nat.mul_le_mul_right _ hb1)
  rw [Nat.one_mul] at this
  omega
 have hPA:(0:Int)<(w:Int)^(q.length+B.length+C.length)*α:=Int.mul_pos (Int.pow_pos hwp) hα
 have hPC:(0:Int)<(w:Int)^(A.length+q.length+B.length)*β:=Int.mul_pos (Int.pow_pos hwp) hβ
 have e':((w:Int)^(q.length+B.length+C.length)*α)*gh A w u=(w:Int)^(A.length+C.length)*(gh q w u*gh B w u) - ((w:Int)^(A.length+q.length+B.length)*β)*gh C w u:=by
  rw [Int.mul_assoc,Int.mul_assoc]; exact e
 have hmid':((w:Int)^(A.length+C.length)*(gh q w u*gh B w u)).natAbs<(((w:Int)^(A.length+q.length+B.length)*β)*gh C w u).natAbs:=by rw [Int.mul_assoc]; exact hmid
 generalize (w:Int)^(A.length+C.length)*(gh q w u*gh B w u)=m at *
 generalize (w:Int)^(q.length+B.length+C.length)*α=a at *
 generalize (w:Int)^(A.length+q.length+B.length)*β=b at *
 generalize gh A w u=x at *
 generalize gh C w u=z at *
 rcases Int.lt_trichotomy z 0 with hz | hz | hz
 ·have h1:=Int.mul_neg_of_pos_of_neg hPC hz
  have h2:0<a*x:=by omega
  have hx:0<x:=by
   rcases Int.lt_trichotomy x 0 with k | k | k
   ·have:=Int.mul_neg_of_pos_of_neg hPA k; omega
   ·rw [k,Int.mul_zero] at h2; omega
   ·exact k
  exact Int.mul_neg_of_pos_of_neg hx hz
 ·omega
 ·have h1:=Int.mul_pos hPC hz
  have h2:a*x<0:=by omega
  have hx:x<0:=by
   rcases Int.lt_trichotomy x 0 with k | k | k
   ·exact k
   ·rw [k,Int.mul_zero] at h2; omega
   ·have:=Int.mul_pos hPA k; omega
  exact Int.mul_neg_of_neg_of_pos hx hz
theorem der_go (l:List Int) (M c:Nat):∃ W,∀ w,W≤w→∀ u:Int,u.natAbs≤M*w→w^(pder l).length≤c*(gh (pder l) w u).natAbs→0<(gh l w (u+1) - gh l w u)*gh (pder l) w u:=by
 refine ⟨gF M l*c+1,fun w hW u hu hc=>?_⟩
 have hw:1≤w:=by omega
 have hw0:(w:Int)≠0:=by omega
 have hwp:(0:Int)<(w:Int):=by omega
 have e:=g1_der l hw0 u
 have hE:=gh_der hu hw l
 have hD0:0<(gh (pder l) w u).natAbs:=Nat.pos_of_ne_zero fun e0=>by
  rw [e0,Nat.mul_zero] at hc
  have:0<w^(pder l).length:=Nat.pow_pos qN
  omega
 have hx:(gh l w (u+1) - gh l w u)=g1 l w u+(gh l w (u+1) - gh l w u - g1 l w u):=by omega
 generalize gh l w (u+1) - gh l w u - g1 l w u=E at *
 rw [hx]
 generalize hdl:gh (pder l) w u=d at *
 have hlt:w^(pder l).length*(w*E.natAbs)<w^l.length*d.natAbs:=by
  have s1:w^(pder l).length*(E.natAbs*(w*w))≤w^(pder l).length*(gF M l*w^l.length):=Nat.mul_le_mul_left _ hE
  have s2:w^(pder l).length*(gF M l*w^l.length)≤(c*d.natAbs)*(gF M l*w^l.length):=Nat.mul_le_mul_right _ hc
  have t1:(c*d.natAbs)*(gF M l*w^l.length)=(gF M l*c)*(w^l.length*d.natAbs):=by grind
  have hP:0<w^l.length*d.natAbs:=Nat.mul_pos (Nat.pow_pos qN) hD0
  have s3:(gF M l*c+1)*(w^l.length*d.natAbs)≤w*(w^l.length*d.natAbs):=Nat.mul_le_mul_right _ hW
  refine Nat.lt_of_mul_lt_mul_right (a:=w) ?_
  have t2:w^(pder l).length*(w*E.natAbs)*w=w^(pder l).length*(E.natAbs*(w*w)):=by grind
  have t3:(gF M l*c+1)*(w^l.length*d.natAbs)=(gF M l*c)*(w^l.length*d.natAbs)+w^l.length*d.natAbs:=by grind
  have t4:w*(w^l.length*d.natAbs)=w^l.length*d.natAbs*w:=Nat.mul_comm _ _
  omega
 have hmid:((w:Int)^(pder l).length*(w*E)).natAbs<((w:Int)^l.length*d).natAbs:=by
  simp only [Int.natAbs_mul,Int.natAbs_pow,Int.natAbs_natCast]
  exact hlt
 have hPA:(0:Int)<(w:Int)^(pder l).length*w:=Int.mul_pos (Int.pow_pos hwp) hwp
 have hPC:(0:Int)<(w:Int)^l.length:=Int.pow_pos hwp
 have e2:((w:Int)^(pder l).length*w)*(g1 l w u+E)=(w:Int)^l.length*d+(w:Int)^(pder l).length*(w*E):=by
  rw [← e]; grind
 generalize (w:Int)^(pder l).length*(w*E)=m at *
 generalize (w:Int)^(pder l).length*w=a at *
 generalize (w:Int)^l.length=b at *
 generalize g1 l w u+E=x at *
 rcases Int.lt_trichotomy d 0 with hz | hz | hz
 ·have h1:=Int.mul_neg_of_pos_of_neg hPC hz
  have h2:a*x<0:=by omega
  have hx:x<0:=by
   rcases Int.lt_trichotomy x 0 with k | k | k
   ·exact k
   ·rw [k,Int.mul_zero] at h2; omega
   ·have:=Int.mul_pos hPA k; omega
  exact Int.mul_pos_of_neg_of_neg hx hz
 ·omega
 ·have h1:=Int.mul_pos hPC hz
  have h2:0<a*x:=by omega
  have hx:0<x:=by
   rcases Int.lt_trichotomy x 0 with k | k | k
   ·have:=Int.mul_neg_of_pos_of_neg hPA k; omega
   ·rw [k,Int.mul_zero] at h2; omega
   ·exact k
  exact Int.mul_pos hx hz
def vs:Int→List Int→Nat
 | _,[]=>0
 | t,x::l=>if x=0 then vs t l else (if x*t<0 then 1 else 0)+vs x l
inductive Reg:Int→Int→List (Int×Int)→Prop
 | nil {x y:Int}:Reg x y []
 | go {x y x1 y1:Int} {l:List (Int×Int)}:0<x1*y1→Reg x1 y1 l→Reg x y ((x1,y1)::l)
 | jump {x y x1 y1 x2 y2:Int} {l:List (Int×Int)}:x*x2<0→0<x2*y2→Reg x2 y2 l→Reg x y ((x1,y1)::(x2,y2)::l)
theorem vs_mid {x x1 x2:Int} (h:x*x2<0) (l:List Int):vs x (x1::x2::l)=1+vs x2 l:=by
 have hx2:x2≠0:=fun e=>by rw [e,Int.mul_zero] at h; omega
 have hx:x≠0:=fun e=>by rw [e,Int.zero_mul] at h; omega
 have h':x2*x<0:=by rw [Int.mul_comm]; exact h
 simp only [vs]
 rw [if_neg hx2,if_neg hx2,if_pos h']
 by_cases h0:x1=0
 ·rw [if_pos h0]
 ·rw [if_neg h0]
  rcases Int.lt_trichotomy x 0 with k | k | k
  ·have k2:0<x2:=Int.lt_of_not_ge fun k'=>by have:=Int.mul_nonneg_of_nonpos_of_nonpos (Int.le_of_lt k) k'; omega
   rcases Int.lt_trichotomy x1 0 with k1 | k1 | k1
   ·rw [if_neg (by have:=Int.mul_pos_of_neg_of_neg k1 k; omega),if_pos (Int.mul_neg_of_pos_of_neg k2 k1)]; omega
   ·exact absurd k1 h0
   ·rw [if_pos (Int.mul_neg_of_pos_of_neg k1 k),if_neg (by have:=Int.mul_pos k2 k1; omega)]; omega
  ·exact absurd k hx
  ·have k2:x2<0:=Int.lt_of_not_ge fun k'=>by have:=Int.mul_nonneg (Int.le_of_lt k) k'; omega
   rcases Int.lt_trichotomy x1 0 with k1 | k1 | k1
   ·rw [if_pos (Int.mul_neg_of_neg_of_pos k1 k),if_neg (by have:=Int.mul_pos_of_neg_of_neg k2 k1; omega)]; omega
   ·exact absurd k1 h0
   ·rw [if_neg (by have:=Int.mul_pos k1 k; omega),if_pos (Int.mul_neg_of_neg_of_pos k2 k1)]; omega
theorem reg_vs {x y:Int} {l:List (Int×Int)} (h:Reg x y l) (hxy:0<x*y):vs x (l.map (·.1))=vs y (l.map (·.2)):=by
 induction h with
 | nil=>rfl
 | @go x y x1 y1 l h1 _ ih =>
  have ih:=ih h1
  have n1:x1≠0:=fun e=>by rw [e,Int.zero_mul] at h1; omega
  have n2:y1≠0:=fun e=>by rw [e,Int.mul_zero] at h1; omega
  simp only [List.map_cons,vs]
  rw [if_neg n1,if_neg n2,ih]
  congr 1
  have key:x1*x<0↔y1*y<0:=by
   have e:(x1*x)*(y1*y)=(x1*y1)*(x*y):=by grind
   have hp:0<(x1*x)*(y1*y):=by rw [e]; exact Int.mul_pos h1 hxy
   constructor
   ·intro h; exact Int.lt_of_not_ge fun k=>by have:=Int.mul_nonpos_of_nonpos_of_nonneg (Int.le_of_lt h) k; omega
   ·intro h; exact Int.lt_of_not_ge fun k=>by have:=Int.mul_nonpos_of_nonneg_of_nonpos k (Int.le_of_lt h); omega
  by_cases k:x1*x<0
  ·rw [if_pos k,if_pos (key.1 k)]
  ·rw [if_neg k,if_neg fun k'=>k (key.2 k')]
 | @jump x y x1 y1 x2 y2 l h1 h2 _ ih =>
  have ih:=ih h2
  have h3:y*y2<0:=by
   have e:(x*x2)*(y*y2)=(x*y)*(x2*y2):=by grind
   have hp:0<(x*x2)*(y*y2):=by rw [e]; exact Int.mul_pos hxy h2
   exact Int.lt_of_not_ge fun k=>by have:=Int.mul_nonpos_of_nonpos_of_nonneg (Int.le_of_lt h1) k; omega
  simp only [List.map_cons]
  rw [vs_mid h1,vs_mid h3,ih]
theorem reg_head {x0 y0 x1 y1:Int} {l:List (Int×Int)} (ht:x0*y0≤0) (h1:0<x1*y1) (hd:0<(y0 - x0)*x1) (h:Reg x1 y1 l) :
  vs 0 (x0::x1::l.map (·.1))=vs 0 (y0::y1::l.map (·.2))+if x0=0 then 0 else 1:=by
 have e:=reg_vs h h1
 have n1:x1≠0:=fun e=>by rw [e,Int.zero_mul] at h1; omega
 have n2:y1≠0:=fun e=>by rw [e,Int.mul_zero] at h1; omega
 simp only [vs,Int.mul_zero]
 rw [if_neg n1,if_neg n2,if_neg n1,if_neg n2,e]
 have hx:x0*x1≤0∧0≤y0*y1:=by
  rcases Int.lt_trichotomy x1 0 with k | k | k
  ·have k1:y1<0:=Int.lt_of_not_ge fun k'=>by have:=Int.mul_nonpos_of_nonpos_of_nonneg (Int.le_of_lt k) k'; omega
   have k2:y0<x0:=Int.lt_of_not_ge fun k'=>by have:=Int.mul_nonpos_of_nonneg_of_nonpos (show 0≤y0 - x0 by omega) (Int.le_of_lt k); omega
   have k3:0≤x0:=Int.le_of_not_gt fun k'=>by have:=Int.mul_pos_of_neg_of_neg k' (show y0<0 by omega); omega
   have k4:y0≤0:=Int.le_of_not_gt fun k'=>by have:=Int.mul_pos (show 0<x0 by omega) k'; omega
   exact ⟨Int.mul_nonpos_of_nonneg_of_nonpos k3 (Int.le_of_lt k),Int.mul_nonneg_of_nonpos_of_nonpos k4 (Int.le_of_lt k1)⟩
  ·exact absurd k n1
  ·have k1:0<y1:=Int.lt_of_not_ge fun k'=>by have:=Int.mul_nonpos_of_nonneg_of_nonpos (Int.le_of_lt k) k'; omega
   have k2:x0<y0:=Int.lt_of_not_ge fun k'=>by have:=Int.mul_nonpos_of_nonpos_of_nonneg (show y0 - x0≤0 by omega) (Int.le_of_lt k); omega
   have k3:x0≤0:=Int.le_of_not_gt fun k'=>by have:=Int.mul_pos k' (show 0<y0 by omega); omega
   have k4:0≤y0:=Int.le_of_not_gt fun k'=>by have:=Int.mul_pos_of_neg_of_neg (show x0<0 by omega) k'; omega
   exact ⟨Int.mul_nonpos_of_nonpos_of_nonneg k3 (Int.le_of_lt k),Int.mul_nonneg k4 (Int.le_of_lt k1)⟩
 have hy':¬ y1*y0<0:=by rw [Int.mul_comm]; omega
 have hX:(if x0=0 then (if x1*0<0 then 1 else 0)+vs y1 (l.map (·.2)) else (if x0*0<0 then 1 else 0)+((if x1*x0<0 then 1 else 0)+vs y1 (l.map (·.2))))=vs y1 (l.map (·.2))+if x0=0 then 0 else 1:=by
  by_cases h0:x0=0
  ·simp [h0]
  ·have:x1*x0<0:=by
    have h2:x1*x0≠0:=Int.mul_ne_zero n1 h0
    rw [Int.mul_comm] at h2 ⊢; omega
   simp [h0,this]; omega
 simp only [Int.mul_zero] at hX
 rw [hX]
 congr 1
 by_cases h0:y0=0
 ·simp [h0]
 ·simp [h0,hy']
structure Chain (L:Nat→List Int) (r:Nat):Prop where
 one:1≤r→L 1=pder (L 0)
 rel:∀ i,i+1<r→∃ α β q,0<α∧0<β∧∀ x,α*pev (L i) x=pev q x*pev (L (i+1)) x - β*pev (L (i+2)) x
 last:∃ k,k≠0∧L r=[k]
theorem Chain.bez {L:Nat→List Int} {r:Nat} (h:Chain L r):∀ (e i:Nat),i+e+1=r→∃ U V R,R≠0∧∀ x,pev U x*pev (L i) x+pev V x*pev (L (i+1)) x=R
 | 0,i,hi=>by
  obtain ⟨k,hk,e⟩:=h.last
  refine ⟨[],[1],k,hk,fun x=>?_⟩
  have:L (i+1)=[k]:=by rw [← e,← hi]
  rw [this]; simp [pev]
 | e+1,i,hi=>by
  obtain ⟨U,V,R,hR,hb⟩:=h.bez e (i+1) qN
  obtain ⟨α,β,q,hα,hβ,hr⟩:=h.rel i qN
  refine ⟨ptim (-α) V,padd (ptim β U) (pmul V q),β*R,Int.mul_ne_zero qN hR,fun x=>?_⟩
  have e1:=hb x
  have e2:=hr x
  rw [cL,gS,cL,bN,← e1]
  have:pev V x*(α*pev (L i) x)=pev V x*(pev q x*pev (L (i+1)) x - β*pev (L (i+2)) x):=by rw [e2]
  grind
theorem all_W {P:Nat→Nat→Prop}:∀ {r:Nat},(∀ i,i<r→∃ W,∀ w,W≤w→P i w)→∃ W,∀ w,W≤w→∀ i,i<r→P i w
 | 0,_=>⟨0,fun _ _ i hi=>by omega⟩
 | r+1,h=>by
  obtain ⟨W1,h1⟩:=all_W fun i (hi:i<r)=>h i qN
  obtain ⟨W2,h2⟩:=h r qN
  refine ⟨max W1 W2,fun w hw i hi=>?_⟩
  by_cases e:i=r
  ·rw [e]; exact h2 w qN
  ·exact h1 w qN i qN
def vl (L:Nat→List Int) (w:Nat) (u:Int):Nat→Nat→List (Int×Int)
 | _,0=>[]
 | i,e+1=>(gh (L i) w u,gh (L i) w (u+1))::vl L w u (i+1) e
def vh (L:Nat→List Int) (w:Nat) (u:Int):Nat→Nat→List Int
 | _,0=>[]
 | i,e+1=>gh (L i) w u::vh L w u (i+1) e
theorem vl_fst (L:Nat→List Int) (w:Nat) (u:Int):∀ (e i:Nat),(vl L w u i e).map (·.1)=vh L w u i e
 | 0,_=>rfl
 | e+1,i=>by simp only [vl,vh,List.map_cons,vl_fst L w u e (i+1)]
theorem vl_snd (L:Nat→List Int) (w:Nat) (u:Int):∀ (e i:Nat),(vl L w u i e).map (·.2)=vh L w (u+1) i e
 | 0,_=>rfl
 | e+1,i=>by simp only [vl,vh,List.map_cons,vl_snd L w u e (i+1)]
theorem Chain.cell {L:Nat→List Int} {r:Nat} (h:Chain L r) (M:Nat):∃ W,∀ w,W≤w→∀ u:Int,u.natAbs≤M*w →
  (¬ tch (L 0) w u→vs 0 (vh L w u 0 (r+1))=vs 0 (vh L w (u+1) 0 (r+1))) ∧
  (tch (L 0) w u→vs 0 (vh L w u 0 (r+1))=vs 0 (vh L w (u+1) 0 (r+1))+(if gh (L 0) w u=0 then 0 else 1)∧gh (L 0) w u≠gh (L 0) w (u+1)):=by
 have hA:∀ i,i<r→∃ W,∀ w,W≤w→∀ u:Int,u.natAbs≤M*w→tch (L i) w u →
   (0<gh (L (i+1)) w u*gh (L (i+1)) w (u+1))∧(∀ j,i=j+1→gh (L j) w u*gh (L (i+1)) w u<0)∧(i=0→0<(gh (L 0) w (u+1) - gh (L 0) w u)*gh (L 1) w u):=fun i hi=>by
  obtain ⟨U,V,R,hR,hb⟩:=h.bez (r - i - 1) i qN
  obtain ⟨W1,h1⟩:=touch_far hR hb M
  cases i with
  | zero =>
   have e1:=h.one qN
   obtain ⟨W2,h2⟩:=der_go (L 0) M (2*gC M V)
   refine ⟨max W1 W2,fun w hw u hu ht=>?_⟩
   obtain ⟨a1,a2⟩:=h1 w qN u hu ht
   refine ⟨a2,fun j hj=>by omega,fun _=>?_⟩
   rw [e1]
   rw [Nat.zero_add,e1] at a1
   exact h2 w qN u hu a1
  | succ j =>
   obtain ⟨α,β,q,hα,hβ,hr⟩:=h.rel j qN
   obtain ⟨W2,h2⟩:=rel_opp hα hβ hr M (2*gC M V)
   refine ⟨max W1 W2,fun w hw u hu ht=>?_⟩
   obtain ⟨a1,a2⟩:=h1 w qN u hu ht
   refine ⟨a2,fun j' hj=>?_,fun h0=>by omega⟩
   obtain rfl:j=j':=by omega
   exact h2 w qN u hu ht a1
 obtain ⟨W,hW⟩:=all_W (P:=fun i w=>∀ u:Int,u.natAbs≤M*w→tch (L i) w u →
   (0<gh (L (i+1)) w u*gh (L (i+1)) w (u+1))∧(∀ j,i=j+1→gh (L j) w u*gh (L (i+1)) w u<0)∧(i=0→0<(gh (L 0) w (u+1) - gh (L 0) w u)*gh (L 1) w u)) hA
 refine ⟨max W 1,fun w hw u hu=>?_⟩
 have hw1:1≤w:=by omega
 have hlast:¬ tch (L r) w u:=fun ht=>by
  obtain ⟨k,hk,e⟩:=h.last
  unfold tch at ht
  rw [e] at ht
  simp only [gh,List.length_nil,Int.mul_zero,Int.add_zero] at ht
  have h1:k*(w:Int)^(0+1)≠0:=Int.mul_ne_zero hk (Int.pow_ne_zero qN)
  have h2:=Int.mul_self_nonneg' (k*(w:Int)^(0+1))
  have h3:=Int.mul_ne_zero h1 h1
  omega
 have reg:∀ (e i:Nat),i+e=r→¬ tch (L i) w u→Reg (gh (L i) w u) (gh (L i) w (u+1)) (vl L w u (i+1) e):=fun e=>by
  induction e using Nat.strongRecOn with
  | ind e ih =>
   intro i hi ht
   cases e with
   | zero=>exact .nil
   | succ e =>
    by_cases ht1:tch (L (i+1)) w u
    ·have hne:i+1≠r:=fun e'=>hlast (e' ▸ ht1)
     obtain ⟨e,rfl⟩:∃ e',e=e'+1:=⟨e - 1,by omega⟩
     obtain ⟨a1,a2,_⟩:=hW w qN (i+1) qN u hu ht1
     exact .jump (a2 i rfl) a1 (ih e qN (i+2) qN (by unfold tch; show ¬ gh (L (i+1+1)) w u*gh (L (i+1+1)) w (u+1)≤0; omega))
    ·exact .go (by unfold tch at ht1; omega) (ih e qN (i+1) qN ht1)
 constructor
 ·intro ht
  have h1:=reg_vs (reg r 0 qN ht) (by unfold tch at ht; omega)
  rw [vl_fst,vl_snd] at h1
  have n1:gh (L 0) w u≠0:=fun e=>ht (by unfold tch; rw [e,Int.zero_mul]; exact Int.le_refl _)
  have n2:gh (L 0) w (u+1)≠0:=fun e=>ht (by unfold tch; rw [e,Int.mul_zero]; exact Int.le_refl _)
  simp only [vh,vs,Int.mul_zero]
  rw [if_neg n1,if_neg n2,h1]
 ·intro ht
  have hr0:0<r:=Nat.pos_of_ne_zero fun e=>hlast (by rw [e]; exact ht)
  obtain ⟨a1,_,a3⟩:=hW w qN 0 hr0 u hu ht
  have a3:=a3 rfl
  have hne:gh (L 0) w u≠gh (L 0) w (u+1):=fun e=>by rw [e,Int.sub_self,Int.zero_mul] at a3; omega
  refine ⟨?_,hne⟩
  obtain ⟨r',rfl⟩:∃ r',r=r'+1:=⟨r - 1,by omega⟩
  have h1:=reg_head ht a1 a3 (reg r' 1 qN (by unfold tch; simp only [Nat.zero_add] at a1; omega))
  rw [vl_fst,vl_snd] at h1
  exact h1
where
 Int.mul_self_nonneg' (x:Int):0≤x*x:=by
  rcases Int.le_total 0 x with h | h
  ·exact Int.mul_nonneg h h
  ·exact Int.mul_nonneg_of_nonpos_of_nonpos h h
def vx (L:Nat→List Int) (x:Int):Nat→Nat→List Int
 | _,0=>[]
 | i,e+1=>pev (L i) x::vx L x (i+1) e
def sV (L:Nat→List Int) (r:Nat) (x:Int):Nat:=vs 0 (vx L x 0 (r+1))
theorem vs_scale (L:Nat→List Int) {w:Nat} (hw:1≤w) (x:Int):∀ (e i:Nat) (t t':Int),(t=0∧t'=0)∨0<t*t'→vs t (vh L w ((w:Int)*x) i e)=vs t' (vx L x i e)
 | 0,_,_,_,_=>rfl
 | e+1,i,t,t',ht=>by
  have hp:(0:Int)<(w:Int)^(L i).length:=Int.pow_pos qN
  simp only [vh,vx,vs]
  rw [gh_at]
  generalize (w:Int)^(L i).length=a at *
  generalize pev (L i) x=y at *
  by_cases h0:y=0
  ·rw [if_pos h0,if_pos (by rw [h0,Int.mul_zero])]
   exact vs_scale L hw x e (i+1) t t' ht
  ·have h1:a*y≠0:=Int.mul_ne_zero qN h0
   rw [if_neg h0,if_neg h1]
   have hyy:0<a*y*y:=by
    rw [Int.mul_assoc]
    rcases Int.lt_trichotomy y 0 with k | k | k
    ·exact Int.mul_pos hp (Int.mul_pos_of_neg_of_neg k k)
    ·exact absurd k h0
    ·exact Int.mul_pos hp (Int.mul_pos k k)
   rw [vs_scale L hw x e (i+1) (a*y) y (.inr hyy)]
   congr 1
   rcases ht with ⟨h2,h3⟩ | h2
   ·rw [h2,h3,Int.mul_zero,Int.mul_zero]
   ·have key:a*y*t<0↔y*t'<0:=by
     have e1:(a*y*t)*(y*t')=(a*y*y)*(t*t'):=by grind
     have hpp:0<(a*y*t)*(y*t'):=by rw [e1]; exact Int.mul_pos hyy h2
     constructor
     ·intro h; exact Int.lt_of_not_ge fun k=>by have:=Int.mul_nonpos_of_nonpos_of_nonneg (Int.le_of_lt h) k; omega
     ·intro h; exact Int.lt_of_not_ge fun k=>by have:=Int.mul_nonpos_of_nonneg_of_nonpos k (Int.le_of_lt h); omega
    by_cases k:a*y*t<0
    ·rw [if_pos k,if_pos (key.1 k)]
    ·rw [if_neg k,if_neg fun k'=>k (key.2 k')]
theorem sV_grid (L:Nat→List Int) (r:Nat) {w:Nat} (hw:1≤w) (x:Int):vs 0 (vh L w ((w:Int)*x) 0 (r+1))=sV L r x:=vs_scale L hw x (r+1) 0 0 0 (.inl ⟨rfl,rfl⟩)
def nc (s:List Int) (w:Nat) (u:Int):Nat→Nat
 | 0=>0
 | e+1=>nc s w u e+if gh s w (u+e)*gh s w (u+e+1)≤0∧gh s w (u+e)≠0 then 1 else 0
theorem Chain.sturm {L:Nat→List Int} {r:Nat} (h:Chain L r) (M:Nat):∃ W,1≤W∧∀ w,W≤w→(∀ (a:Int) (d:Nat),a.natAbs+d≤M→sV L r a=sV L r (a+d)+nc (L 0) w ((w:Int)*a) (w*d)) ∧
  ∀ u:Int,u.natAbs≤M*w→tch (L 0) w u→gh (L 0) w u≠gh (L 0) w (u+1):=by
 obtain ⟨W,hW⟩:=h.cell M
 refine ⟨max W 1,by omega,fun w hw=>⟨fun a d had=>?_,fun u hu ht=>((hW w qN u hu).2 ht).2⟩⟩
 have hw1:1≤w:=by omega
 have key:∀ e,e≤w*d→vs 0 (vh L w ((w:Int)*a) 0 (r+1))=vs 0 (vh L w ((w:Int)*a+e) 0 (r+1))+nc (L 0) w ((w:Int)*a) e:=fun e=>by
  induction e with
  | zero=>intro _; simp [nc]
  | succ e ih =>
   intro he
   have ih:=ih qN
   have hu:((w:Int)*a+e).natAbs≤M*w:=by
    have h1:=Int.natAbs_add_le ((w:Int)*a) (e:Int)
    rw [Int.natAbs_mul,Int.natAbs_natCast,Int.natAbs_natCast] at h1
    have h2:w*(a.natAbs+d)≤w*M:=Nat.mul_le_mul_left _ had
    rw [Nat.mul_add,Nat.mul_comm w M] at h2
    omega
   obtain ⟨c1,c2⟩:=hW w qN _ hu
   rw [ih,nc]
   have e1:(w:Int)*a+((e+1:Nat):Int)=(w:Int)*a+e+1:=by omega
   rw [e1]
   by_cases ht:tch (L 0) w ((w:Int)*a+e)
   ·rw [(c2 ht).1]
    by_cases h0:gh (L 0) w ((w:Int)*a+e)=0
    ·rw [if_pos h0,if_neg fun h'=>h'.2 h0]; omega
    ·rw [if_neg h0,if_pos ⟨ht,h0⟩]; omega
   ·rw [c1 ht,if_neg fun h'=>ht h'.1]; omega
 have h1:=key (w*d) (Nat.le_refl _)
 rw [sV_grid L r hw1] at h1
 have e2:(w:Int)*a+((w*d:Nat):Int)=(w:Int)*(a+d):=by rw [Int.natCast_mul]; grind
 rw [e2,sV_grid L r hw1] at h1
 exact h1
theorem Chain.less {L:Nat→List Int} {r:Nat} (h:Chain L r) {a b:Int} (hab:a<b):sV L r b+(if pev (L 0) b=0 then 1 else 0)≤sV L r a:=by
 obtain ⟨d,hd⟩:∃ d:Nat,b=a+d:=⟨(b - a).toNat,by omega⟩
 have hd0:0<d:=by omega
 obtain ⟨W,hW1,hW⟩:=h.sturm (a.natAbs+d)
 obtain ⟨s1,s2⟩:=hW W (Nat.le_refl _)
 rw [hd,s1 a d (Nat.le_refl _)]
 split
 ·rename_i h0
  obtain ⟨e,he⟩:∃ e,W*d=e+1:=⟨W*d - 1,by have:=Nat.mul_pos (show 0<W by omega) hd0; omega⟩
  rw [he,nc]
  have e1:(W:Int)*a+e+1=(W:Int)*(a+d):=by
   have:((W*d:Nat):Int)=(e:Int)+1:=by rw [he]; rfl
   rw [Int.natCast_mul] at this
   rw [Int.mul_add]; omega
  have e2:gh (L 0) W ((W:Int)*a+e+1)=0:=by rw [e1,gh_at,h0,Int.mul_zero]
  have hu:((W:Int)*a+e).natAbs≤(a.natAbs+d)*W:=by
   have h1:=Int.natAbs_add_le ((W:Int)*a) (e:Int)
   rw [Int.natAbs_mul,Int.natAbs_natCast,Int.natAbs_natCast] at h1
   have h2:(a.natAbs+d)*W=W*a.natAbs+W*d:=by grind
   omega
  have ht:tch (L 0) W ((W:Int)*a+e):=by unfold tch; rw [e2,Int.mul_zero]; exact Int.le_refl _
  have hne:=s2 _ hu ht
  rw [e2] at hne
  rw [if_pos ⟨by rw [e2,Int.mul_zero]; exact Int.le_refl _,hne⟩]
  omega
 ·omega
theorem vs_par:∀ (l:List Int) (t k:Int),t≠0→k≠0→vs t (l++[k])%2=if t*k<0 then 1 else 0
 | [],t,k,ht,hk=>by
  simp only [List.nil_append,vs]
  rw [if_neg hk,Int.mul_comm k t]
  by_cases h:t*k<0
  ·simp [h]
  ·simp [h]
 | x::l,t,k,ht,hk=>by
  simp only [List.cons_append,vs]
  by_cases h0:x=0
  ·rw [if_pos h0]; exact vs_par l t k ht hk
  ·rw [if_neg h0]
   have ih:=vs_par l x k h0 hk
   have key:t*k<0↔(x*t<0↔¬ x*k<0):=by
    have n1:=Int.mul_ne_zero h0 ht
    have n2:=Int.mul_ne_zero h0 hk
    have n3:=Int.mul_ne_zero ht hk
    have hxx:0<x*x:=by
     rcases Int.lt_trichotomy x 0 with k | k | k
     ·exact Int.mul_pos_of_neg_of_neg k k
     ·exact absurd k h0
     ·exact Int.mul_pos k k
    have e:(x*t)*(x*k)=(x*x)*(t*k):=by grind
    constructor
    ·intro h
     have h1:(x*t)*(x*k)<0:=by rw [e]; exact Int.mul_neg_of_pos_of_neg hxx h
     constructor
     ·intro h2 h3; have:=Int.mul_pos_of_neg_of_neg h2 h3; omega
     ·intro h2
      have h3:0<x*k:=by omega
      exact Int.lt_of_not_ge fun k'=>by have:=Int.mul_nonneg k' (Int.le_of_lt h3); omega
    ·intro h
     refine Int.lt_of_not_ge fun h'=>?_
     have h1:0<(x*t)*(x*k):=by rw [e]; exact Int.mul_pos hxx qN
     by_cases h2:x*t<0
     ·have h3:=h.1 h2
      have:=Int.mul_nonpos_of_nonpos_of_nonneg (Int.le_of_lt h2) (show 0≤x*k by omega)
      omega
     ·have h3:x*k<0:=Classical.byContradiction fun h3=>h2 (h.2 h3)
      have:=Int.mul_nonpos_of_nonneg_of_nonpos (show 0≤x*t by omega) (Int.le_of_lt h3)
      omega
   by_cases h1:x*t<0 <;> by_cases h2:x*k<0 <;> by_cases h3:t*k<0 <;> simp [h1,h2,h3] at key ih ⊢ <;> omega
theorem uA {P:Program} {t e:TypeId} {v:Value} {m:List (List Int)} {k:IntKind} {i:Int} {os:List Own} {fs:List bD} {K:bZ} [ht:TSl P t e 1] (hm:(v,wd m)∈fs) (j:Nat) (hj:i=(j:Int)) (hlt:j<m.length)
  (k':∀ p,K p os ((p,.ptr (vd (m.getD j [])))::fs)):eM P t v (.int k i) os fs K :=
 aQ hm j hj (by rw [List.length_map]; exact hlt) fun p=>by
  have:=k' p
  unfold vd at this
  rwa [← tI] at this
theorem uB {P:Program} {t e:TypeId} {v:Value} {l:List Int} {k:IntKind} {i:Int} {os:List Own} {fs:List bD} {K:bZ} [ht:TSl P t e 2] (hm:(v,vd l)∈fs) (j:Nat) (hj:i=(j:Int)) (hlt:j<l.length)
  (k':∀ p,K p os ((p,.ptr (zd (l.getD j 0)))::fs)):eM P t v (.int k i) os fs K :=
 aQ hm j hj (by rw [List.length_map]; exact hlt) fun p=>by
  have:=k' p
  rw [fE hlt]; exact this
theorem len_wd {P:Program} {t e ty:TypeId} {v:Value} {m:List (List Int)} {os:List Own} {fs:List bD} {K:bZ} [ht:TSl P t e 1] (hm:(v,wd m)∈fs) (k:K (.int .i64 m.length) os fs):LenK P [t] ty v os fs K :=
 aT hm fun _=>by rw [List.length_map]; exact k
theorem fV {P:Program} {t e ty:TypeId} {v:Value} {l:List Int} {os:List Own} {fs:List bD} {K:bZ} [ht:TSl P t e 2] (hm:(v,vd l)∈fs) (k:K (.int .i64 l.length) os fs):LenK P [t] ty v os fs K :=
 aT hm fun _=>by rw [List.length_map]; exact k
theorem rMulZJ (v w:Value) (x:Int) (y:Bool×List Nat) (e:Nat) (hx:sz x e) (he:e≤137438953472) (hy:Lim y.2) (ly:y.2.length≤137438953472) :
  Meets Tryz.prog 41 [v,w] [(v,zd x),(w,J y)] (fun r os fs=>os=[]∧fs=[(r,zd (x*jv y))]):=by
 have h:=rZMul_meets v w (decide (x<0)) y.1 (bT x.natAbs) y.2 (a0 _) hy (Nat.le_trans hx.len he) ly
 rw [nC] at h
 exact h
theorem Meets.closed {P:Program} {g:FuncId} {args:List Value} {fs:List bD} {R R':Value→List Own→List bD→Prop} (h:Meets P g args fs R)
  (hr:∀ v os fs,R v os fs→∃ os' fs',R' v os' fs'∧Seals os fs os' fs'):Meets P g args fs R':=by
 refine ⟨h.enter,fun A w hA hf=>(h.calls A w hA hf).mono ?_⟩
 rintro e w' ⟨v,os',fs',he,hv,hh⟩
 obtain ⟨os2,fs2,h2,hs⟩:=hr v os' fs' hv
 exact ⟨v,os2,fs2,he,h2,hs _ _ hh⟩
theorem nrm_take {l:List Int} {n:Nat} (hn:n≤l.length) (hz:∀ j,n≤j→l.getD j 0=0) (h:n=0∨l.getD (n - 1) 0≠0):nrm l=l.take n:=by
 have e:nrm l=nrm (l.take n):=kT fun i=>by
  by_cases hi:i<n
  ·simp [gE,List.getElem?_take_of_lt hi]
  ·rw [hz i qN]
   have:(l.take n).length≤i:=by rw [List.length_take]; omega
   rw [gE,List.getElem?_eq_none this]; rfl
 rw [e]
 refine vL ?_
 have hl:(l.take n).length=n:=by rw [List.length_take]; omega
 rcases h with h | h
 ·left; rw [h]; rfl
 ·by_cases h0:n=0
  ·left; rw [h0]; rfl
  ·right
   rw [hl]
   simpa [gE,List.getElem?_take_of_lt (show n - 1<n by omega)] using h
theorem take_range (l:List Int) {n:Nat} (h:n≤l.length):l.take n=(List.range n).map fun i=>l.getD i 0:=by
 refine ext_getD' (by rw [List.length_take]; simp; omega) fun i hi=>?_
 rw [List.length_take] at hi
 have:i<n:=by omega
 simp [gE,List.getElem?_take_of_lt this,this]
where
 ext_getD' {l m:List Int} (hl:l.length=m.length) (h:∀ i,i<l.length→l.getD i 0=m.getD i 0):l=m:=gI 0 hl h
theorem Seals.told {v:Value} {n:Nat} {g:Nat→Int} {e:Nat→Dat} {os:List Own} {fs:List bD} (hv:isSl v) (he:∀ i,i<n→e i=zd (g i)) :
  Seals (bE v 2 n e::os) fs os ((v,vd ((List.range n).map g))::fs) :=
 aA (Seals.slice (os:=bE v 2 n e::os) 0 (fun i=>J ((((List.range n).map g).map cn).getD i z0)) rfl hv fun i hi=>by rw [he i hi,range_cn g hi]; rfl)
  (a7 (Knw.vd_of (bC (List.Mem.head _))) (aB fun _ hF=>.tail _ hF))
theorem Seals.toldL {v:Value} {l:List Int} {os:List Own} {fs:List bD} (hv:isSl v):Seals (jY 2 J z0 v (l.map cn)::os) fs os ((v,vd l)::fs):=Seals.L (os:=jY 2 J z0 v (l.map cn)::os) 0 rfl hv
theorem own_range {v:Value} {n:Nat} {g:Nat→Int} {e:Nat→Dat} {os:List Own} {fs:List bD} (he:∀ i,i<n→e i=zd (g i)) :
  Seals (bE v 2 n e::os) fs (jY 2 J z0 v (((List.range n).map g).map cn)::os) fs:=by
 have h:=Seals.own_cong (os:=bE v 2 n e::os) (fs:=fs) 0 (n':=(((List.range n).map g).map cn).length) (fun i=>J ((((List.range n).map g).map cn).getD i z0)) rfl qP fun i hi=>by rw [he i hi,range_cn g hi]; rfl
 exact h
theorem uF:I false []=zd 0:=zd_zero.symm
theorem upd_if {g:Nat→Int} {i:Nat} (y:Nat):upd (fun y=>if y<i then zd (g y) else I false []) i (zd (g i)) y=if y<i+1 then zd (g y) else I false []:=by
 unfold upd
 by_cases hy:y=i
 ·subst hy
  rw [if_pos rfl,if_pos qN]
 ·by_cases hy2:y<i
  ·rw [if_neg hy,if_pos (show y<i+1 by omega)]; exact if_pos hy2
  ·rw [if_neg hy,if_neg (show ¬ y<i+1 by omega)]; exact if_neg hy2
theorem jT (v:Value) (p:Row) (hp:Fit 137438953472 p) (lp:p.length≤1099511627776) :
  Meets Tryz.prog 55 [v] [(v,V p)] (fun r os fs=>isSl r∧os=[jY 2 J z0 r ((nrm (vv p)).map cn)]∧fs=[]):=by
 refine mV Tryz.func55 ?_
 refine aT qM fun _=>?_
 refine aO (X:=Nat) (fun n=>([(0,v),(3,.int .i64 (n:Nat))],[],[(v,V p)])) (fun n=>n≤p.length∧∀ j,n≤j→j<p.length→(vv p).getD j 0=0) (fun n=>n) rfl ?_ ?_
 ·exact aU p.length ⟨Nat.le_refl _,fun j h1 h2=>by omega⟩ trivial qF (aB qS)
 ·rintro n ⟨h1,h2⟩
  have fin':(n=0∨(vv p).getD (n - 1) 0≠0)→nrm (vv p)=(List.range n).map fun i=>(vv p).getD i 0:=fun h=>by
   rw [nrm_take (by rw [cV]; exact h1) (fun j hj=>?_) h,take_range _ (by rw [cV]; exact h1)]
   by_cases e:j<p.length
   ·exact h2 j hj e
   ·rw [gE,List.getElem?_eq_none (by rw [cV]; omega)]; rfl
  refine aD _ rfl (fun hn=>?_) (fun hn=>?_)
  ·have hn':n - 1<p.length:=by omega
   have hg:=lO p (n - 1) hn'
   refine ar rfl qI ?_
   refine aQ qM (n - 1) qN hn' fun a1=>?_
   refine aX (d:=J (p.getD (n - 1) z0)) qM (bM _) fun x1=>?_
   refine cH (cY x1 (p.getD (n - 1) z0).1 (p.getD (n - 1) z0).2 (hp.get _).1 (hp.get _).2) ?_
   refine aD _ rfl (fun hz=>?_) (fun hz=>?_)
   ·refine ar rfl qI ?_
    refine aU (n - 1) ⟨by omega,fun j h3 h4=>?_⟩ (by simp only; omega) qF (aB qS)
    by_cases e:j=n - 1
    ·rw [e,hg]; exact Int.sign_eq_zero_iff_zero.1 hz
    ·exact h2 j qN h4
   ·have hfin:=fin' (.inr (by rw [hg]; exact fun e=>hz (Int.sign_eq_zero_iff_zero.2 e)))
    refine eF (t:=23) (d:=I false []) n rfl rfl qN qN fun u hu=>?_
    refine aO (X:=Nat) (fun i=>([(0,v),(3,.int .i64 (n:Nat)),(4,u),(23,.int .i64 (n:Nat)),(24,.int .i64 (i:Nat))],[bE u 2 n (fun y=>if y<i then zd ((vv p).getD y 0) else I false [])],[(v,V p)])) (fun i=>i≤n) (fun i=>n - i) rfl ?_ ?_
    ·exact aU 0 (Nat.zero_le _) trivial qF (aA (Seals.own_cong (os:=[_]) 0 _ rfl rfl fun y _=>(if_neg (Nat.not_lt_zero _)).symm) (aB qS))
    ·rintro i hi
     refine aD _ rfl (fun hlt=>?_) (fun hlt=>?_)
     ·have hin:i<n:=by omega
      have hpi:=hp.get i
      have hgi:=lO p i qN
      refine aQ (n:=p.length) qM i rfl qN fun b1=>?_
      refine aX (d:=J (p.getD i z0)) qM (bM _) fun y1=>?_
      have hnm:=iF y1 (p.getD i z0).1 (p.getD i z0).2 hpi.1 qN
      rw [show iv (p.getD i z0).1 (p.getD i z0).2=(vv p).getD i 0 from hgi.symm] at hnm
      refine cG hnm fun y2=>?_
      refine aE 0 rfl hu i rfl hin ?_
      refine cI (bL (d:=zd ((vv p).getD i 0)) 0 rfl i hin rfl qK (aC qM) ⟨_,_,Seals.own_cong (os:=[_]) 0 (fun y=>if y<i+1 then zd ((vv p).getD y 0) else I false []) rfl rfl (fun y _=>upd_if y),?_⟩)
      refine ar rfl qI ?_
      exact aU (i+1) qN (by simp only; omega) qF (aB qS)
     ·refine fin ⟨hu,rfl,rfl⟩ (aA (own_range (g:=fun i=>(vv p).getD i 0) fun y hy=>if_pos qN) ?_)
      rw [hfin]
      exact aH _ _
  ·have hfin:=fin' (.inl qN)
   refine eF (t:=23) (d:=I false []) n rfl rfl qN qN fun u hu=>?_
   refine aO (X:=Nat) (fun i=>([(0,v),(3,.int .i64 (n:Nat)),(4,u),(23,.int .i64 (n:Nat)),(24,.int .i64 (i:Nat))],[bE u 2 n (fun y=>if y<i then zd ((vv p).getD y 0) else I false [])],[(v,V p)])) (fun i=>i≤n) (fun i=>n - i) rfl ?_ ?_
   ·exact aU 0 (Nat.zero_le _) trivial qF (aA (Seals.own_cong (os:=[_]) 0 _ rfl rfl fun y _=>(if_neg (Nat.not_lt_zero _)).symm) (aB qS))
   ·rintro i hi
    refine aD _ rfl (fun hlt=>?_) (fun hlt=>?_)
    ·have hin:i<n:=by omega
     have hpi:=hp.get i
     have hgi:=lO p i qN
     refine aQ (n:=p.length) qM i rfl qN fun b1=>?_
     refine aX (d:=J (p.getD i z0)) qM (bM _) fun y1=>?_
     have hnm:=iF y1 (p.getD i z0).1 (p.getD i z0).2 hpi.1 qN
     rw [show iv (p.getD i z0).1 (p.getD i z0).2=(vv p).getD i 0 from hgi.symm] at hnm
     refine cG hnm fun y2=>?_
     refine aE 0 rfl hu i rfl hin ?_
     refine cI (bL (d:=zd ((vv p).getD i 0)) 0 rfl i hin rfl qK (aC qM) ⟨_,_,Seals.own_cong (os:=[_]) 0 (fun y=>if y<i+1 then zd ((vv p).getD y 0) else I false []) rfl rfl (fun y _=>upd_if y),?_⟩)
     refine ar rfl qI ?_
     exact aU (i+1) qN (by simp only; omega) qF (aB qS)
    ·refine fin ⟨hu,rfl,rfl⟩ (aA (own_range (g:=fun i=>(vv p).getD i 0) fun y hy=>if_pos qN) ?_)
     rw [hfin]
     exact aH _ _
theorem dC {v:Value} {l:List Int} {os:List Own} {fs:List bD} (hv:isSl v):Seals (jY 2 J z0 v (l.map cn)::os) fs os ((v,vd l)::fs):=Seals.toldL hv
theorem info_psl:(Tryz.prog.info? 23).map (fun i=>(i.zero,i.size,i.bytes))=some (some (.slice none 0 0),1,24):=by kernel_rfl
instance iCPb1:TEl Tryz.prog 23 1 24:=tel info_psl rfl qE
instance iCPb2:TSl Tryz.prog 109 23 1:=⟨Tryz.underlying109,by kernel_rfl⟩
theorem lit2_L {α:Type} {P:Program} {t e:TypeId} {size bytes:Nat} {os:List Own} {fs:List bD} {K:bZ} [ht:TSl P t e size] [he:TEl P e size bytes] {x y:Value} (f:α→Dat) (z:α) (a b:α) (hsz:size≤16) (hx:Reads os fs x (f a)) (hy:Reads os fs y (f b)) (hc:(f a).cells=size) (hc':(f b).cells=size)
  (k:∀ v,K v os ((v,LD size f z [a,b])::fs)):gH P t 2 [(0,x),(1,y)] os fs K:=by
 have h1:=cZ (P:=P) (t:=t) (os:=os) (fs:=fs) (K:=fun u os' fs'=>∃ os'' fs'',Seals os' fs' os'' fs''∧K u os'' fs'') (n:=2) [x,y] [f a,f b] rfl rfl qE hsz ⟨hx,hc,hy,hc',trivial⟩
 refine ⟨Grw.sealed (h1 fun v=>⟨_,_,?_,k v⟩).out⟩
 exact Seals.knw_cong rfl fun i hi=>by
  have:i=0∨i=1:=by omega
  rcases this with rfl | rfl <;> rfl
theorem fH (v:Value) (p:Row) (hp:Fit 137438953472 p) (lp:p.length≤1099511627776) :
  Meets Tryz.prog 55 [v] [(v,V p)] (fun r os fs=>os=[]∧fs=[(r,vd (nrm (vv p)))]) :=
 (jT v p hp lp).closed fun r os fs ⟨h1,h2,h3⟩=>⟨_,_,⟨rfl,rfl⟩,by
  subst h2 h3
  exact dC h1⟩
theorem szR.fit {k:Nat} {l:List Int} (h:szR k l):Fit k (l.map cn):=Fit_cn h
theorem szR.mono {k k':Nat} {l:List Int} (h:szR k l) (hk:k≤k'):szR k' l:=fun x hx=>(h x hx).mono hk
theorem szR.get {k:Nat} {l:List Int} (h:szR k l) (i:Nat):sz (l.getD i 0) k:=by
 by_cases hi:i<l.length
 ·exact h _ (dT 0 hi)
 ·rw [fU qN]; exact jZ _
theorem Fit.szR {k:Nat} {p:Row} (h:Fit k p):Go.Proofs.YtjebljkoiaojaaaGreat.szR k (vv p):=fun x hx=>by
 obtain ⟨y,hy,rfl⟩:=List.mem_map.1 hx
 exact gY (h y hy).1 (h y hy).2
theorem mem_nrm {l:List Int} {x:Int} (h:x∈nrm l):x∈l:=by
 induction l with
 | nil=>exact h
 | cons c l ih =>
  rw [fO] at h
  split at h
  ·simp at h
  ·rcases List.mem_cons.1 h with rfl | h
   ·exact .head _
   ·exact .tail _ (ih h)
theorem szR.nrm {k:Nat} {l:List Int} (h:szR k l):szR k (nrm l):=fun x hx=>h x (mem_nrm hx)
theorem szR.lst {k n:Nat} {f:Nat→Int} (h:∀ i,i<n→sz (f i) k):szR k (lst n f):=fun x hx=>by
 obtain ⟨i,hi,rfl⟩:=mem_lst hx
 exact h i hi
theorem pNormT (v:Value) (l:List Int) (hl:szR 137438953472 l) (ll:l.length≤1099511627776) :
  Meets Tryz.prog 55 [v] [(v,vd l)] (fun r os fs=>os=[]∧fs=[(r,vd (nrm l))]):=by
 have h:=fH v (l.map cn) hl.fit (by rw [List.length_map]; exact ll)
 rw [fR] at h
 exact h
theorem pNormOT (v:Value) (l:List Int) (hl:szR 137438953472 l) (ll:l.length≤1099511627776) :
  Meets Tryz.prog 55 [v] [(v,vd l)] (fun r os fs=>isSl r∧os=[jY 2 J z0 r ((nrm l).map cn)]∧fs=[]):=by
 have h:=jT v (l.map cn) hl.fit (by rw [List.length_map]; exact ll)
 rw [fR] at h
 exact h
theorem pLead_meets (v:Value) (p:Row) :
  Meets Tryz.prog 121 [v] [(v,V p)] (fun r os fs=>os=[]∧fs=[(r,J (p.getD (p.length - 1) z0))]):=by
 refine mV Tryz.func121 ?_
 refine aM (d:=I false []) fun o ho=>?_
 refine aT qM fun _=>?_
 refine aD _ rfl (fun h=>?_) (fun h=>?_)
 ·have h0:p=[]:=List.length_eq_zero_iff.1 qN
  subst h0
  refine lE (da:=.one (.bool false)) (db:=U []) (fun S w=>⟨[.bool false],[.slice none 0 0],rfl,eJ S w,gM S w 1 _⟩) fun z=>?_
  refine aI (d:=J z0) 0 rfl ho rfl qK ?_ ?_; exact aC qM
  refine aF (d:=J z0) 0 rfl ho rfl (bM _) fun r=>?_
  exact fin ⟨rfl,rfl⟩ (dS (aB qS))
 ·refine aT qM fun _=>?_
  refine ar rfl qI ?_
  refine aQ qM (p.length - 1) qN qN fun a1=>?_
  refine aX (d:=J (p.getD (p.length - 1) z0)) qM (bM _) fun x1=>?_
  refine aI (d:=J (p.getD (p.length - 1) z0)) 0 rfl ho rfl qK ?_ ?_; exact aC qM
  refine aF (d:=J (p.getD (p.length - 1) z0)) 0 rfl ho rfl (bM _) fun r=>?_
  exact fin ⟨rfl,rfl⟩ (dS (aB qS))
theorem pLeadT (v:Value) (l:List Int) (h0:l≠[]) :
  Meets Tryz.prog 121 [v] [(v,vd l)] (fun r os fs=>os=[]∧fs=[(r,zd (l.getD (l.length - 1) 0))]):=by
 have h:=pLead_meets v (l.map cn)
 have h1:0<l.length:=List.length_pos_iff.2 h0
 rw [List.length_map,fE qN] at h
 exact h
theorem rai_0 (s:Nat) (c:Int) (g:Nat→Int) (y:Nat):I false []=zd (if y<s then 0 else if y<s+0 then c*g (y - s) else 0):=by
 rw [uF]
 congr 1
 by_cases h1:y<s
 ·rw [if_pos h1]
 ·rw [if_neg h1,if_neg qN]
theorem rai_n (s n:Nat) (c:Int) (g:Nat→Int) (y:Nat) (hy:y<s+n):zd (if y<s then 0 else if y<s+n then c*g (y - s) else 0)=zd (if y<s then 0 else c*g (y - s)):=by
 congr 1
 by_cases h1:y<s
 ·rw [if_pos h1,if_pos h1]
 ·rw [if_neg h1,if_neg h1,if_pos hy]
theorem upd_zd {G H:Nat→Int} {j:Nat} {v:Int} (h1:H j=v) (h2:∀ y,y≠j→G y=H y) (y:Nat):upd (fun y=>zd (G y)) j (zd v) y=zd (H y):=by
 unfold upd
 by_cases hy:y=j
 ·subst hy
  rw [if_pos rfl,h1]
 ·rw [if_neg hy]
  show zd (G y)=zd (H y)
  rw [h2 y hy]
theorem rai_s (s i:Nat) (c:Int) (g:Nat→Int) (y:Nat):upd (fun y=>zd (if y<s then 0 else if y<s+i then c*g (y - s) else 0)) (s+i) (zd (c*g i)) y=zd (if y<s then 0 else if y<s+(i+1) then c*g (y - s) else 0) :=
 upd_zd (G:=fun y=>if y<s then 0 else if y<s+i then c*g (y - s) else 0) (H:=fun y=>if y<s then 0 else if y<s+(i+1) then c*g (y - s) else 0) (by
  rw [if_neg qN,if_pos qN,Nat.add_sub_cancel_left]) (fun y hy=>by
  by_cases h1:y<s
  ·rw [if_pos h1,if_pos h1]
  ·rw [if_neg h1,if_neg h1]
   by_cases h2:y<s+i
   ·rw [if_pos h2,if_pos qN]
   ·rw [if_neg h2,if_neg qN]) y
theorem vI (v w:Value) (p:Row) (cj:Bool×List Nat) (s:Nat) (k a:Nat) (hp:Fit k p) (hcl:Lim cj.2) (hca:cj.2.length≤a) (hk:k+a≤137438953472) (lp:p.length≤1073741824) (ls:s≤1073741824) :
  Meets Tryz.prog 120 [v,w,.int .i64 (s:Nat)] [(v,V p),(w,J cj)] (fun r os fs=>isSl r∧os=[jY 2 J z0 r ((prai (jv cj) s (vv p)).map cn)]∧fs=[]):=by
 have hc:sz (jv cj) a:=gY hcl hca
 obtain ⟨c,hcj⟩:∃ c,jv cj=c:=⟨_,rfl⟩
 rw [hcj] at hc ⊢
 have hel:∀ i,i<p.length→sz (c*(vv p).getD i 0) (k+a):=fun i _=>by rw [Nat.add_comm]; exact hc.mul (hp.szR.get i)
 have hfin:prai c s (vv p)=nrm (lst (s+p.length) fun y=>if y<s then 0 else c*(vv p).getD (y - s) 0):=by
  unfold prai
  rw [show (vv p).map (fun y=>c*y)=lst p.length fun i=>c*(vv p).getD i 0 from ?_,up_lst]
  refine List.ext_getElem? fun i=>?_
  by_cases hi:i<p.length
  ·simp [lst,hi,cV,gE]
  ·simp [lst,hi,cV]
 have hszL:szR (k+a) (lst (s+p.length) fun y=>if y<s then 0 else c*(vv p).getD (y - s) 0):=szR.lst fun i hi=>by
  split
  ·exact jZ _
  ·exact hel _ qN
 refine mV Tryz.func120 ?_
 refine mX (aC (d:=J cj) qM) fun q=>?_
 refine aT qM fun _=>?_
 refine ar rfl qI ?_
 refine eF (t:=23) (d:=I false []) (s+p.length) qN qN qN qN fun u hu=>?_
 refine aT qM fun _=>?_
 refine aO (X:=Nat) (fun i=>([(0,v),(2,.int .i64 (s:Nat)),(4,q),(7,u),(15,.int .i64 (p.length:Nat)),(16,.int .i64 (i:Nat))],[bE u 2 (s+p.length) (fun y=>zd (if y<s then 0 else if y<s+i then c*(vv p).getD (y - s) 0 else 0))],[(v,V p),(q,.ptr (J cj))])) (fun i=>i≤p.length) (fun i=>p.length - i) rfl ?_ ?_
 ·exact aU 0 (Nat.zero_le _) trivial qF (aA (Seals.own_cong (os:=[_]) 0 _ rfl rfl fun y _=>rai_0 s c (fun i=>(vv p).getD i 0) y) (aB qS))
 ·rintro i hi
  refine aD _ rfl (fun hlt=>?_) (fun hlt=>?_)
  ·have hin:i<p.length:=by omega
   have hpi:=hp.get i
   have hgi:=lO p i qN
   refine aY [0,1,2,3,4,5,6,7,8,9,10,11] [0,1,2,3,4,5,6,7,8,9,10,11] qK qK ?_
   refine ar rfl qI ?_
   refine aX (d:=J cj) qM (bM _) fun y1=>?_
   refine aQ qM i rfl hin fun b1=>?_
   refine aX (d:=J (p.getD i z0)) qM (bM _) fun y2=>?_
   have hmul:=zMulJ y1 y2 cj (p.getD i z0) hcl qN hpi.1 qN
   rw [hcj,← hgi] at hmul
   refine cG hmul fun y3=>?_
   refine aE 0 rfl hu (s+i) qN qN ?_
   refine cI (bL (d:=zd (c*(vv p).getD i 0)) 0 rfl (s+i) qN rfl qK (aC qM) ⟨_,_,Seals.own_cong (os:=[_]) 0 (fun y=>zd (if y<s then 0 else if y<s+(i+1) then c*(vv p).getD (y - s) 0 else 0)) rfl rfl (fun y _=>rai_s s i c (fun i=>(vv p).getD i 0) y),?_⟩)
   refine ar rfl qI ?_
   exact aU (i+1) qN (by simp only; omega) qF (aB qS)
  ·have hip:i=p.length:=by omega
   subst hip
   have hn:=pNormOT u (lst (s+p.length) fun y=>if y<s then 0 else c*(vv p).getD (y - s) 0) (hszL.mono hk) (by rw [eC]; omega)
   rw [← hfin] at hn
   refine dK hn (Seals.told (g:=fun y=>if y<s then 0 else c*(vv p).getD (y - s) 0) hu fun y hy=>rai_n s _ c (fun i=>(vv p).getD i 0) y hy) qS ?_
   rintro r _ _ ⟨hr,rfl,rfl⟩
   exact fin ⟨hr,rfl,rfl⟩ (aH _ _)
theorem pRaisedJ (v w:Value) (p:Row) (cj:Bool×List Nat) (s:Nat) (k a:Nat) (hp:Fit k p) (hcl:Lim cj.2) (hca:cj.2.length≤a) (hk:k+a≤137438953472) (lp:p.length≤1073741824) (ls:s≤1073741824) :
  Meets Tryz.prog 120 [v,w,.int .i64 (s:Nat)] [(v,V p),(w,J cj)] (fun r os fs=>os=[]∧fs=[(r,vd (prai (jv cj) s (vv p)))]) :=
 (vI v w p cj s k a hp hcl hca hk lp ls).closed fun r os fs ⟨h1,h2,h3⟩=>⟨_,_,⟨rfl,rfl⟩,by subst h2 h3; exact dC h1⟩
theorem qH (v w:Value) (p:Row) (c:Int) (s:Nat) (k a:Nat) (hp:Fit k p) (hc:sz c a) (hk:k+a≤137438953472) (lp:p.length≤1073741824) (ls:s≤1073741824) :
  Meets Tryz.prog 120 [v,w,.int .i64 (s:Nat)] [(v,V p),(w,zd c)] (fun r os fs=>os=[]∧fs=[(r,vd (prai c s (vv p)))]):=by
 have h:=pRaisedJ v w p (cn c) s k a hp (a0 _) hc.len hk lp ls
 rw [eR] at h
 exact h
theorem mN (v w:Value) (l:List Int) (c:Int) (s:Nat) (k a:Nat) (hp:szR k l) (hc:sz c a) (hk:k+a≤137438953472) (lp:l.length≤1073741824) (ls:s≤1073741824) :
  Meets Tryz.prog 120 [v,w,.int .i64 (s:Nat)] [(v,vd l),(w,zd c)] (fun r os fs=>os=[]∧fs=[(r,vd (prai c s l))]):=by
 have h:=qH v w (l.map cn) c s k a hp.fit hc hk (by rw [List.length_map]; exact lp) ls
 rw [fR] at h
 exact h
theorem bK {P:Program} {t:TypeId} {v:Value} {size n:Nat} {e:Nat→Dat} {os:List Own} {fs:List bD} {K:bZ} (pos:Nat) (h:a8 os pos=some (bE v size n e)) (j:Nat)
  (hj:j<n) {d:Dat} (hd:e j=d) (ht:jC P t d) (k':∀ u,K u os ((u,d)::fs)):kE P t (k6 v (j*size)) os fs K:=by
 subst hd
 exact load_elem pos h j hj ht k'
theorem zAddJ (v w:Value) (x y:Bool×List Nat) (hx:Lim x.2) (lx:x.2.length≤137438953472) (hy:Lim y.2) (ly:y.2.length≤137438953472) :
  Meets Tryz.prog 97 [v,w] [(v,J x),(w,J y)] (fun r os fs=>os=[]∧fs=[(r,zd (jv x+jv y))]):=rM v w x.1 y.1 x.2 y.2 hx hy lx ly
def lX (ps:List Row) (i y:Nat):Int:=cM (fun t=>(vv (ps.getD t [])).getD y 0) i
theorem sumco_sz {ps:List Row} {k i:Nat} (h:Fits k ps) (hi:i<18446744073709551616) (y:Nat):sz (lX ps i y) (k+1):=vU (fun t _=>(h.get t).szR.get y) hi
def mxl (ps:List Row):Nat→Nat
 | 0=>0
 | i+1=>max (mxl ps i) (ps.getD i []).length
theorem mxl_le {ps:List Row} {n m:Nat} (h:∀ i,(ps.getD i []).length≤m):mxl ps n≤m:=by
 induction n with
 | zero=>exact Nat.zero_le _
 | succ n ih=>exact Nat.max_le.2 ⟨ih,h n⟩
theorem le_mxl {ps:List Row} {n i:Nat} (h:i<n):(ps.getD i []).length≤mxl ps n:=by
 induction n with
 | zero=>omega
 | succ n ih =>
  by_cases e:i=n
  ·subst e; exact Nat.le_max_right _ _
  ·exact Nat.le_trans (ih qN) (Nat.le_max_left _ _)
theorem sum_s (a b:Nat→Int) (j y:Nat):upd (fun y=>zd (a y+if y<j then b y else 0)) j (zd (a j+b j)) y=zd (a y+if y<j+1 then b y else 0) :=
 upd_zd (G:=fun y=>a y+if y<j then b y else 0) (H:=fun y=>a y+if y<j+1 then b y else 0) (by
  rw [if_pos qN]) (fun y hy=>by
  by_cases h2:y<j
  ·rw [if_pos h2,if_pos qN]
  ·rw [if_neg h2,if_neg qN]) y
theorem pSumO_meets (v:Value) (ps:List Row) (k:Nat) (hf:Fits k ps) (hk:k+1≤137438953472) (lp:ps.length≤1048576) (ln:∀ i,(ps.getD i []).length≤4294967296) :
  Meets Tryz.prog 119 [v] [(v,W ps)] (fun r os fs=>isSl r∧os=[jY 2 J z0 r ((nrm (lst (mxl ps ps.length) (lX ps ps.length))).map cn)]∧fs=[]):=by
 have hM:mxl ps ps.length≤4294967296:=mxl_le ln
 have hss:∀ i y,i≤ps.length→sz (lX ps i y) (k+1):=fun i y hi=>sumco_sz hf qN y
 have hle:∀ i,i<ps.length→(ps.getD i []).length≤mxl ps ps.length:=fun i hi=>le_mxl hi
 generalize hMe:mxl ps ps.length=M at *
 refine mV Tryz.func119 ?_
 refine aT qM fun _=>?_
 refine aO (X:=Nat) (fun i=>([(0,v),(3,.int .i64 (mxl ps i:Nat)),(11,v),(12,.int .i64 (ps.length:Nat)),(13,.int .i64 (i:Nat))],[],[(v,W ps)])) (fun i=>i≤ps.length) (fun i=>ps.length - i) rfl ?_ ?_
 ·exact aU 0 (Nat.zero_le _) trivial qF (aB qS)
 ·rintro i hi
  refine aD _ rfl (fun hlt=>?_) (fun hlt=>?_)
  ·have hin:i<ps.length:=by omega
   refine aQ qM i rfl hin fun a1=>?_
   refine aX (d:=V (ps.getD i [])) qM (kX _) fun x1=>?_
   refine aT qM fun _=>?_
   refine kV ?_
   refine ar rfl qI ?_
   have hmx:mxl ps (i+1)=max (mxl ps i) (ps.getD i []).length:=rfl
   exact aU (i+1) qN (by simp only; omega) qF (aB qS)
  ·have hip:i=ps.length:=by omega
   subst hip
   rw [hMe]
   refine eF (t:=23) (d:=I false []) M rfl rfl qN qN fun u hu=>?_
   refine aT qM fun _=>?_
   refine aO (X:=Nat) (fun i=>([(6,u),(24,v),(25,.int .i64 (ps.length:Nat)),(26,.int .i64 (i:Nat))],[bE u 2 M (fun y=>zd (lX ps i y))],[(v,W ps)])) (fun i=>i≤ps.length) (fun i=>ps.length - i) rfl ?_ ?_
   ·exact aU 0 (Nat.zero_le _) trivial qF (aA (Seals.own_cong (os:=[_]) 0 (fun y=>zd (lX ps 0 y)) rfl rfl fun y _=>uF) (aB qS))
   ·rintro i hi
    refine aD _ rfl (fun hlt=>?_) (fun hlt=>?_)
    ·have hin:i<ps.length:=by omega
     have hli:=hle i hin
     have hfi:=hf.get i
     refine aQ qM i rfl hin fun a1=>?_
     refine aX (d:=V (ps.getD i [])) qM (kX _) fun x1=>?_
     refine aT qM fun _=>?_
     have hnext:∀ y,lX ps (i+1) y=lX ps i y+(vv (ps.getD i [])).getD y 0:=fun y=>rfl
     generalize hp:ps.getD i []=p at *
     refine aO (X:=Nat) (fun j=>([(6,u),(24,v),(25,.int .i64 (ps.length:Nat)),(26,.int .i64 (i:Nat)),(30,x1),(31,.int .i64 (p.length:Nat)),(32,.int .i64 (j:Nat))],
      [bE u 2 M (fun y=>zd (lX ps i y+if y<j then (vv p).getD y 0 else 0))],[(v,W ps),(x1,V p)])) (fun j=>j≤p.length) (fun j=>p.length - j) rfl ?_ ?_
     ·exact aU 0 (Nat.zero_le _) trivial qF (aA (Seals.own_cong (os:=[_]) 0 (fun y=>zd (lX ps i y+if y<0 then (vv p).getD y 0 else 0)) rfl rfl fun y _=>by rw [if_neg (Nat.not_lt_zero _),Int.add_zero]) (aB qS))
     ·rintro j hj
      refine aD _ rfl (fun hlj=>?_) (fun hlj=>?_)
      ·have hjn:j<p.length:=by omega
       have hpj:=hfi.get j
       have hgj:=lO p j hjn
       have hsj:=hss i j hi
       refine aQ qM j rfl hjn fun b1=>?_
       refine aX (d:=J (p.getD j z0)) qM (bM _) fun y1=>?_
       refine aM (d:=I false []) fun q hq=>?_
       refine aI (d:=J (p.getD j z0)) 0 rfl hq rfl qK ?_ ?_; exact aC qM
       refine aY [0,1,2,3,4,5,6,7,8,9] [0,1,2,3,4,5,6,7,8,9] qK qK ?_
       refine aE 1 rfl hu j rfl qN ?_
       refine bK (d:=zd (lX ps i j)) 1 rfl j qN qP (aN _ _) fun y2=>?_
       refine aF (d:=J (p.getD j z0)) 0 rfl hq rfl (bM _) fun y3=>?_
       have hadd:=zAddJ y2 y3 (cn (lX ps i j)) (p.getD j z0) (a0 _) (Nat.le_trans hsj.len qN) hpj.1 qN
       rw [eR,← hgj] at hadd
       refine cG hadd fun y4=>?_
       refine aE 1 rfl hu j rfl qN ?_
       refine cI (bL (d:=zd (lX ps i j+(vv p).getD j 0)) 1 rfl j qN rfl qK (aC qM) ⟨_,_,Seals.own_cong (os:=[_,_]) 1 (fun y=>zd (lX ps i y+if y<j+1 then (vv p).getD y 0 else 0)) rfl rfl (fun y _=>sum_s (lX ps i) (fun y=>(vv p).getD y 0) j y),?_⟩)
       refine ar rfl qI ?_
       exact aU (j+1) qN (by simp only; omega) qF (dS (aB qS))
      ·have hend:∀ y,zd (lX ps i y+if y<j then (vv p).getD y 0 else 0)=zd (lX ps (i+1) y):=fun y=>by
        rw [hnext]
        by_cases h2:y<j
        ·rw [if_pos h2]
        ·rw [if_neg h2,fU (by rw [cV]; omega)]
       refine ar rfl qI ?_
       refine aU (i+1) qN (by simp only; omega) qF (aA (Seals.own_cong (os:=[_]) 0 (fun y=>zd (lX ps (i+1) y)) rfl rfl fun y _=>hend y) (aB qS))
    ·have hip:i=ps.length:=by omega
     subst hip
     refine dK (pNormOT u (lst M (lX ps ps.length)) (szR.lst fun y _=>(hss _ y (Nat.le_refl _)).mono hk) (by rw [eC]; omega)) (Seals.told (g:=lX ps ps.length) hu fun y hy=>rfl) qS ?_
     rintro r _ _ ⟨hr,rfl,rfl⟩
     exact fin ⟨hr,rfl,rfl⟩ (aH _ _)
theorem padd_eq (p q:Row):nrm (lst (mxl [p,q] 2) (lX [p,q] 2))=padd (vv p) (vv q):=by
 unfold padd
 have h1:mxl [p,q] 2=max (vv p).length (vv q).length:=by
  rw [cV,cV]
  show max (max 0 p.length) q.length=_
  omega
 rw [h1]
 congr 1
 refine nX fun i _=>?_
 show 0+(vv p).getD i 0+(vv q).getD i 0=_
 omega
theorem sX (v:Value) (p q:Row) (k:Nat) (hp:Fit k p) (hq:Fit k q) (hk:k+1≤137438953472) (lp:p.length≤4294967296) (lq:q.length≤4294967296) :
  Meets Tryz.prog 119 [v] [(v,W [p,q])] (fun r os fs=>isSl r∧os=[jY 2 J z0 r ((padd (vv p) (vv q)).map cn)]∧fs=[]):=by
 have h:=pSumO_meets v [p,q] k (fun r hr=>by
  rcases List.mem_cons.1 hr with rfl | hr
  ·exact hp
  ·rcases List.mem_cons.1 hr with rfl | hr
   ·exact hq
   ·simp at hr) hk (by show 2≤1048576; omega) (fun i=>by
  match i with
  | 0=>exact lp
  | 1=>exact lq
  | i+2=>show 0≤_; omega)
 have e:nrm (lst (mxl [p,q] [p,q].length) (lX [p,q] [p,q].length))=padd (vv p) (vv q):=padd_eq p q
 rw [e] at h
 exact h
theorem pSum2_meets (v:Value) (p q:Row) (k:Nat) (hp:Fit k p) (hq:Fit k q) (hk:k+1≤137438953472) (lp:p.length≤4294967296) (lq:q.length≤4294967296) :
  Meets Tryz.prog 119 [v] [(v,W [p,q])] (fun r os fs=>os=[]∧fs=[(r,vd (padd (vv p) (vv q)))]) :=
 (sX v p q k hp hq hk lp lq).closed fun r os fs ⟨h1,h2,h3⟩=>⟨_,_,⟨rfl,rfl⟩,by subst h2 h3; exact dC h1⟩
theorem qA (c:Int) (l:List Int):prai c 0 l=ptim c l:=rfl
theorem szR.map {k a:Nat} {c:Int} {l:List Int} (h:szR k l) (hc:sz c a):szR (k+a) (l.map fun y=>c*y):=fun x hx=>by
 obtain ⟨y,hy,rfl⟩:=List.mem_map.1 hx
 rw [Nat.add_comm]; exact hc.mul (h y hy)
theorem szR.prai {k a:Nat} {c:Int} {l:List Int} (h:szR k l) (hc:sz c a) (s:Nat):szR (k+a) (prai c s l):=szR.nrm fun x hx=>by
 rcases List.mem_append.1 hx with h1 | h1
 ·rw [(List.mem_replicate.1 h1).2]; exact jZ _
 ·exact h.map hc x h1
theorem iV (c:Int) (s:Nat) (l:List Int):(prai c s l).length≤s+l.length:=Nat.le_trans (cA _) (by rw [up_len,List.length_map]; exact Nat.le_refl _)
theorem szR.padd {k:Nat} {l m:List Int} (h:szR k l) (h':szR k m):szR (k+1) (padd l m):=szR.nrm (szR.lst fun i _=>by
 have:=iL (h.get i) ((h'.get i).neg)
 rwa [Int.sub_neg] at this)
theorem padd_len (l m:List Int):(padd l m).length≤max l.length m.length:=Nat.le_trans (cA _) (by rw [eC]; exact Nat.le_refl _)
theorem szR.psub {k:Nat} {l m:List Int} (h:szR k l) (h':szR k m):szR (k+1) (psub l m):=szR.nrm (szR.lst fun i _=>iL (h.get i) (h'.get i))
theorem psub_len (l m:List Int):(psub l m).length≤max l.length m.length:=Nat.le_trans (cA _) (by rw [eC]; exact Nat.le_refl _)
theorem szR.neg {k:Nat} {l:List Int} (h:szR k l):szR k (Go.Proofs.YtjebljkoiaojaaaGreat.prai (-1) 0 l):=szR.nrm fun x hx=>by
 rcases List.mem_append.1 hx with h1 | h1
 ·rw [(List.mem_replicate.1 h1).2]; exact jZ _
 ·obtain ⟨y,hy,rfl⟩:=List.mem_map.1 h1
  have:=(h y hy).neg
  rwa [← Int.neg_one_mul] at this
theorem padd_neg (l m:List Int):padd l (prai (-1) 0 m)=psub l m:=(padd_nm _ _).ext (uZ _ _) fun x=>by
 rw [gS,jA,iC,Int.pow_zero]; omega
theorem jS (x:Int) (h:x.natAbs≤1):sz x 1:=by
 unfold sz; omega
theorem pTimesJO (v w:Value) (p:Row) (cj:Bool×List Nat) (k a:Nat) (hp:Fit k p) (hcl:Lim cj.2) (hca:cj.2.length≤a) (hk:k+a≤137438953472) (lp:p.length≤1073741824) :
  Meets Tryz.prog 81 [v,w] [(v,V p),(w,J cj)] (fun r os fs=>isSl r∧os=[jY 2 J z0 r ((ptim (jv cj) (vv p)).map cn)]∧fs=[]):=by
 have hr:=fun u=>vI v u p cj 0 k a hp hcl hca hk lp qN
 simp only [qA] at hr
 refine mV Tryz.func81 ?_
 refine mX (aC (d:=J cj) qM) fun q=>?_
 refine aX (d:=J cj) qM (bM _) fun y1=>?_
 refine cF (hr y1) ?_
 rintro r _ _ ⟨hr,rfl,rfl⟩
 exact fin ⟨hr,rfl,rfl⟩ (aH _ _)
theorem pTimesJ (v w:Value) (p:Row) (cj:Bool×List Nat) (k a:Nat) (hp:Fit k p) (hcl:Lim cj.2) (hca:cj.2.length≤a) (hk:k+a≤137438953472) (lp:p.length≤1073741824) :
  Meets Tryz.prog 81 [v,w] [(v,V p),(w,J cj)] (fun r os fs=>os=[]∧fs=[(r,vd (ptim (jv cj) (vv p)))]) :=
 (pTimesJO v w p cj k a hp hcl hca hk lp).closed fun r os fs ⟨h1,h2,h3⟩=>⟨_,_,⟨rfl,rfl⟩,by subst h2 h3; exact dC h1⟩
theorem pTimes_meets (v w:Value) (p:Row) (c:Int) (k a:Nat) (hp:Fit k p) (hc:sz c a) (hk:k+a≤137438953472) (lp:p.length≤1073741824) :
  Meets Tryz.prog 81 [v,w] [(v,V p),(w,zd c)] (fun r os fs=>os=[]∧fs=[(r,vd (ptim c (vv p)))]):=by
 have h:=pTimesJ v w p (cn c) k a hp (a0 _) hc.len hk lp
 rw [eR] at h
 exact h
theorem pTimesT (v w:Value) (l:List Int) (c:Int) (k a:Nat) (hp:szR k l) (hc:sz c a) (hk:k+a≤137438953472) (lp:l.length≤1073741824) :
  Meets Tryz.prog 81 [v,w] [(v,vd l),(w,zd c)] (fun r os fs=>os=[]∧fs=[(r,vd (ptim c l))]):=by
 have h:=pTimes_meets v w (l.map cn) c k a hp.fit hc hk (by rw [List.length_map]; exact lp)
 rw [fR] at h
 exact h
theorem vH (v w:Value) (p q:Row) (k:Nat) (hp:Fit k p) (hq:Fit k q) (hk:k+1≤137438953472) (lp:p.length≤1073741824) (lq:q.length≤1073741824) :
  Meets Tryz.prog 78 [v,w] [(v,V p),(w,V q)] (fun r os fs=>isSl r∧os=[jY 2 J z0 r ((psub (vv p) (vv q)).map cn)]∧fs=[]):=by
 have hr:=fun u=>qH w u q (-1) 0 k 1 hq (jS _ qE) hk lq qN
 have hs:=fun u=>sX u p ((prai (-1) 0 (vv q)).map cn) k hp hq.szR.neg.fit hk qN (by
  have:=iV (-1) 0 (vv q)
  rw [cV] at this
  rw [List.length_map]; omega)
 simp only [fR,padd_neg] at hs
 refine mV Tryz.func78 ?_
 refine cG (dN (-1) qE qE) fun x1=>?_
 refine cG (hr x1) fun x2=>?_
 refine lit2_L (size:=1) (f:=V) (z:=[]) (e:=23) p ((prai (-1) 0 (vv q)).map cn) qE (aC qM) (aC qM) rfl rfl fun x3=>?_
 refine cF (hs x3) ?_
 rintro r _ _ ⟨hr,rfl,rfl⟩
 exact fin ⟨hr,rfl,rfl⟩ (aH _ _)
theorem pSub_meets (v w:Value) (p q:Row) (k:Nat) (hp:Fit k p) (hq:Fit k q) (hk:k+1≤137438953472) (lp:p.length≤1073741824) (lq:q.length≤1073741824) :
  Meets Tryz.prog 78 [v,w] [(v,V p),(w,V q)] (fun r os fs=>os=[]∧fs=[(r,vd (psub (vv p) (vv q)))]) :=
 (vH v w p q k hp hq hk lp lq).closed fun r os fs ⟨h1,h2,h3⟩=>⟨_,_,⟨rfl,rfl⟩,by subst h2 h3; exact dC h1⟩
theorem pSubT (v w:Value) (l m:List Int) (k:Nat) (hl:szR k l) (hm:szR k m) (hk:k+1≤137438953472) (ll:l.length≤1073741824) (lm:m.length≤1073741824) :
  Meets Tryz.prog 78 [v,w] [(v,vd l),(w,vd m)] (fun r os fs=>os=[]∧fs=[(r,vd (psub l m))]):=by
 have h:=pSub_meets v w (l.map cn) (m.map cn) k hl.fit hm.fit hk (by rw [List.length_map]; exact ll) (by rw [List.length_map]; exact lm)
 rw [fR,fR] at h
 exact h
theorem pSumT (v:Value) (l m:List Int) (k:Nat) (hl:szR k l) (hm:szR k m) (hk:k+1≤137438953472) (ll:l.length≤4294967296) (lm:m.length≤4294967296) :
  Meets Tryz.prog 119 [v] [(v,W [l.map cn,m.map cn])] (fun r os fs=>os=[]∧fs=[(r,vd (padd l m))]):=by
 have h:=pSum2_meets v (l.map cn) (m.map cn) k hl.fit hm.fit hk (by rw [List.length_map]; exact ll) (by rw [List.length_map]; exact lm)
 rw [fR,fR] at h
 exact h
theorem pSubOT (v w:Value) (l m:List Int) (k:Nat) (hl:szR k l) (hm:szR k m) (hk:k+1≤137438953472) (ll:l.length≤1073741824) (lm:m.length≤1073741824) :
  Meets Tryz.prog 78 [v,w] [(v,vd l),(w,vd m)] (fun r os fs=>isSl r∧os=[jY 2 J z0 r ((psub l m).map cn)]∧fs=[]):=by
 have h:=vH v w (l.map cn) (m.map cn) k hl.fit hm.fit hk (by rw [List.length_map]; exact ll) (by rw [List.length_map]; exact lm)
 rw [fR,fR] at h
 exact h
theorem pRaisedOT (v w:Value) (l:List Int) (c:Int) (s:Nat) (k a:Nat) (hp:szR k l) (hc:sz c a) (hk:k+a≤137438953472) (lp:l.length≤1073741824) (ls:s≤1073741824) :
  Meets Tryz.prog 120 [v,w,.int .i64 (s:Nat)] [(v,vd l),(w,zd c)] (fun r os fs=>isSl r∧os=[jY 2 J z0 r ((prai c s l).map cn)]∧fs=[]):=by
 have h:=vI v w (l.map cn) (cn c) s k a hp.fit (a0 _) hc.len hk (by rw [List.length_map]; exact lp) ls
 rw [fR,eR] at h
 exact h
theorem pTimesOT (v w:Value) (l:List Int) (c:Int) (k a:Nat) (hp:szR k l) (hc:sz c a) (hk:k+a≤137438953472) (lp:l.length≤1073741824) :
  Meets Tryz.prog 81 [v,w] [(v,vd l),(w,zd c)] (fun r os fs=>isSl r∧os=[jY 2 J z0 r ((ptim c l).map cn)]∧fs=[]):=by
 have h:=pTimesJO v w (l.map cn) (cn c) k a hp.fit (a0 _) hc.len hk (by rw [List.length_map]; exact lp)
 rw [fR,eR] at h
 exact h
theorem conv_succ (a b:List Int) (i y:Nat):conv a b (i+1) y=conv a b i y+if i≤y then a.getD i 0*b.getD (y - i) 0 else 0:=rfl
theorem conv_sz {a b:List Int} {k l m:Nat} (ha:szR k a) (hb:szR l b) (hm:m<18446744073709551616) (y:Nat):sz (conv a b m y) (k+l+1):=vU (fun t _=>by
 split
 ·exact (ha.get t).mul (hb.get _)
 ·exact jZ _) hm
def mst (a b:List Int) (i k y:Nat):Int:=conv a b i y+if i≤y∧y<i+k then a.getD i 0*b.getD (y - i) 0 else 0
theorem mst_0 (a b:List Int) (i y:Nat):mst a b i 0 y=conv a b i y:=by unfold mst; rw [if_neg qN]; omega
theorem mst_at (a b:List Int) (i k:Nat):mst a b i k (i+k)=conv a b i (i+k):=by unfold mst; rw [if_neg qN]; omega
theorem mst_n (a b:List Int) (i y:Nat):mst a b i b.length y=conv a b (i+1) y:=by
 unfold mst
 rw [conv_succ]
 by_cases h:i≤y
 ·by_cases h2:y<i+b.length
  ·rw [if_pos ⟨h,h2⟩,if_pos h]
  ·rw [if_neg qN,if_pos h,fU (l:=b) qN]; simp
 ·rw [if_neg qN,if_neg h]
theorem mst_s (a b:List Int) (i k y:Nat):upd (fun y=>zd (mst a b i k y)) (i+k) (zd (conv a b i (i+k)+a.getD i 0*b.getD k 0)) y=zd (mst a b i (k+1) y) :=
 upd_zd (G:=fun y=>mst a b i k y) (H:=fun y=>mst a b i (k+1) y) (by
  unfold mst
  rw [if_pos qN,Nat.add_sub_cancel_left]) (fun y hy=>by
  unfold mst
  congr 1
  by_cases h:i≤y∧y<i+k
  ·rw [if_pos h,if_pos qN]
  ·rw [if_neg h,if_neg qN]) y
theorem pMul_meets (v w:Value) (p q:Row) (k l:Nat) (hp:Fit k p) (hq:Fit l q) (hk:k+l+1≤137438953472) (lp:p.length≤1073741824) (lq:q.length≤1073741824) :
  Meets Tryz.prog 79 [v,w] [(v,V p),(w,V q)] (fun r os fs=>os=[]∧fs=[(r,vd (pmul (vv p) (vv q)))]):=by
 have h1:=fH v p (hp.mono qN) qN
 have h2:=fH w q (hq.mono qN) qN
 have sa:=hp.szR.nrm
 have sb:=hq.szR.nrm
 have la:(nrm (vv p)).length≤1073741824:=Nat.le_trans (cA _) (by rw [cV]; exact lp)
 have lb:(nrm (vv q)).length≤1073741824:=Nat.le_trans (cA _) (by rw [cV]; exact lq)
 have hdef:pmul (vv p) (vv q)=if nrm (vv p)=[]∨nrm (vv q)=[] then [] else nrm (lst ((nrm (vv p)).length+(nrm (vv q)).length - 1) fun y=>conv (nrm (vv p)) (nrm (vv q)) (nrm (vv p)).length y):=rfl
 generalize hPM:pmul (vv p) (vv q)=PM at *
 generalize hA:nrm (vv p)=A at *
 generalize hB:nrm (vv q)=B at *
 have hcs:∀ i y,i≤A.length→sz (conv A B i y) (k+l+1):=fun i y hi=>conv_sz sa sb qN y
 have h3:=fun u (hne:PM=nrm (lst (A.length+B.length - 1) fun y=>conv A B A.length y))=>pNormT u (lst (A.length+B.length - 1) fun y=>conv A B A.length y) ((szR.lst fun y _=>hcs _ y (Nat.le_refl _)).mono hk) (by rw [eC]; omega)
 refine mV Tryz.func79 ?_
 refine cG h1 fun x1=>?_
 refine cG h2 fun x2=>?_
 refine fV qM ?_
 refine aD _ rfl (fun hz=>?_) (fun hz=>?_)
 ·have:A=[]:=List.length_eq_zero_iff.1 qN
  rw [if_pos (.inl this)] at hdef
  exact fin ⟨rfl,rfl⟩ (by rw [hdef]; exact a7 (dM 2 _) (aH _ _))
 refine fV qM ?_
 refine aD _ rfl (fun hy=>?_) (fun hy=>?_)
 ·have:B=[]:=List.length_eq_zero_iff.1 qN
  rw [if_pos (.inr this)] at hdef
  exact fin ⟨rfl,rfl⟩ (by rw [hdef]; exact a7 (dM 2 _) (aH _ _))
 have hne:¬ (A=[]∨B=[]):=by
  rintro (h | h)
  ·rw [h] at hz; simp at hz
  ·rw [h] at hy; simp at hy
 rw [if_neg hne] at hdef
 refine fV qM ?_
 refine fV qM ?_
 refine ar rfl qI ?_
 refine ar rfl qI ?_
 refine eF (t:=23) (d:=I false []) (A.length+B.length - 1) qN qN qN qN fun u hu=>?_
 refine fV qM ?_
 refine aO (X:=Nat) (fun i=>([(5,x1),(6,x2),(7,u),(31,x1),(32,.int .i64 (A.length:Nat)),(33,.int .i64 (i:Nat))],[bE u 2 (A.length+B.length - 1) (fun y=>zd (conv A B i y))],[(x1,vd A),(x2,vd B)])) (fun i=>i≤A.length) (fun i=>A.length - i) rfl ?_ ?_
 ·exact aU 0 (Nat.zero_le _) trivial qF (aA (Seals.own_cong (os:=[_]) 0 (fun y=>zd (conv A B 0 y)) rfl rfl fun y _=>uF) (aB qS))
 ·rintro i hi
  refine aD _ rfl (fun hlt=>?_) (fun hlt=>?_)
  ·have hin:i<A.length:=by omega
   have hai:=sa.get i
   refine uB qM i rfl hin fun b1=>?_
   refine aX (d:=zd (A.getD i 0)) qM (aN _ _) fun y1=>?_
   refine aM (d:=I false []) fun q1 hq1=>?_
   refine aI (d:=zd (A.getD i 0)) 0 rfl hq1 rfl qK ?_ ?_; exact aC qM
   refine fV qM ?_
   refine aO (X:=Nat) (fun j=>([(5,x1),(6,x2),(7,u),(31,x1),(32,.int .i64 (A.length:Nat)),(33,.int .i64 (i:Nat)),(8,.int .i64 (i:Nat)),(9,q1),(38,x2),(39,.int .i64 (B.length:Nat)),(40,.int .i64 (j:Nat))],
    [bE q1 2 1 (fun _=>zd (A.getD i 0)),bE u 2 (A.length+B.length - 1) (fun y=>zd (mst A B i j y))],[(x1,vd A),(x2,vd B)])) (fun j=>j≤B.length) (fun j=>B.length - j) rfl ?_ ?_
   ·exact aU 0 (Nat.zero_le _) trivial qF (aA (bJ rfl) (aA (Seals.own_cong (os:=[_,_]) 1 (fun y=>zd (mst A B i 0 y)) rfl rfl fun y _=>by rw [mst_0]) (aB qS)))
   ·rintro j hj
    refine aD _ rfl (fun hlj=>?_) (fun hlj=>?_)
    ·have hjn:j<B.length:=by omega
     have hbj:=sb.get j
     have hcj:=hcs i (i+j) hi
     refine uB qM j rfl hjn fun b2=>?_
     refine aX (d:=zd (B.getD j 0)) qM (aN _ _) fun y2=>?_
     refine aM (d:=I false []) fun q2 hq2=>?_
     refine aI (d:=zd (B.getD j 0)) 0 rfl hq2 rfl qK ?_ ?_; exact aC qM
     refine aY [0,1,2,3,4,5,6,7,8,9,10,11,12,13,14,15] [0,1,2,3,4,5,6,7,8,9,10,11,12,13,14,15] qK qK ?_
     refine ar rfl qI ?_
     refine ar rfl qI ?_
     refine aE 2 rfl hu (i+j) qN qN ?_
     refine bK (d:=zd (conv A B i (i+j))) 2 rfl (i+j) qN (by rw [mst_at]) (aN _ _) fun y3=>?_
     refine aF (d:=zd (A.getD i 0)) 1 rfl hq1 rfl (aN _ _) fun y4=>?_
     refine aF (d:=zd (B.getD j 0)) 0 rfl hq2 rfl (aN _ _) fun y5=>?_
     refine cG (fQ y4 y5 _ _ _ _ hai hbj qN qN) fun y6=>?_
     refine cG (nH y3 y6 _ _ _ _ hcj (hai.mul hbj) qN qN) fun y7=>?_
     refine aE 2 rfl hu (i+j) qN qN ?_
     refine cI (bL (d:=zd (conv A B i (i+j)+A.getD i 0*B.getD j 0)) 2 rfl (i+j) qN rfl qK (aC qM) ⟨_,_,Seals.own_cong (os:=[_,_,_]) 2 (fun y=>zd (mst A B i (j+1) y)) rfl rfl (fun y _=>mst_s A B i j y),?_⟩)
     refine ar rfl qI ?_
     exact aU (j+1) qN (by simp only; omega) qF (dS (aB qS))
    ·have hjB:j=B.length:=by omega
     subst hjB
     refine ar rfl qI ?_
     exact aU (i+1) qN (by simp only; omega) qF (dS (aA (Seals.own_cong (os:=[_]) 0 (fun y=>zd (conv A B (i+1) y)) rfl rfl fun y _=>by rw [mst_n]) (aB qS)))
  ·have hip:i=A.length:=by omega
   subst hip
   have h3':=h3 u hdef
   rw [← hdef] at h3'
   refine dK h3' (Seals.told (g:=fun y=>conv A B A.length y) hu fun y hy=>rfl) qS ?_
   rintro r _ _ ⟨rfl,rfl⟩
   exact fin ⟨rfl,rfl⟩ (aB qS)
theorem pMulT (v w:Value) (p q:List Int) (k l:Nat) (hp:szR k p) (hq:szR l q) (hk:k+l+1≤137438953472) (lp:p.length≤1073741824) (lq:q.length≤1073741824) :
  Meets Tryz.prog 79 [v,w] [(v,vd p),(w,vd q)] (fun r os fs=>os=[]∧fs=[(r,vd (pmul p q))]):=by
 have h:=pMul_meets v w (p.map cn) (q.map cn) k l hp.fit hq.fit hk (by rw [List.length_map]; exact lp) (by rw [List.length_map]; exact lq)
 rw [fR,fR] at h
 exact h
theorem ev_sz {l:List Int} {x:Int} {k a:Nat} (h:szR k l) (hx:sz x a):sz (pev l x) (k+l.length*(a+1)):=by
 induction l with
 | nil=>exact jZ _
 | cons c l ih =>
  have h1:=ih fun y hy=>h y (.tail _ hy)
  have h2:=hx.mul h1
  have h3:sz c (a+(k+l.length*(a+1))):=(h c (.head _)).mono qN
  have h4:=iL h3 h2.neg
  rw [Int.sub_neg] at h4
  refine h4.mono ?_
  rw [List.length_cons,Nat.succ_mul]; omega
theorem ev_drop {l:List Int} {i:Nat} (h:i<l.length) (x:Int):pev (l.drop i) x=l.getD i 0+x*pev (l.drop (i+1)) x:=by
 rw [List.drop_eq_getElem_cons h]
 simp [pev,gE,h]
theorem szR.drop {k:Nat} {l:List Int} (h:szR k l) (i:Nat):szR k (l.drop i):=fun x hx=>h x (List.mem_of_mem_drop hx)
theorem zMulZJ (v w:Value) (x:Int) (y:Bool×List Nat) (a:Nat) (hx:sz x a) (ha:a≤137438953472) (hy:Lim y.2) (ly:y.2.length≤137438953472) :
  Meets Tryz.prog 98 [v,w] [(v,zd x),(w,J y)] (fun r os fs=>os=[]∧fs=[(r,zd (x*jv y))]):=by
 have h:=zMulJ v w (cn x) y (a0 _) (Nat.le_trans hx.len ha) hy ly
 rw [eR] at h
 exact h
theorem zMulJZ (v w:Value) (x:Bool×List Nat) (y:Int) (a:Nat) (hx:Lim x.2) (lx:x.2.length≤137438953472) (hy:sz y a) (ha:a≤137438953472) :
  Meets Tryz.prog 98 [v,w] [(v,J x),(w,zd y)] (fun r os fs=>os=[]∧fs=[(r,zd (jv x*y))]):=by
 have h:=zMulJ v w x (cn y) hx lx (a0 _) (Nat.le_trans hy.len ha)
 rw [eR] at h
 exact h
theorem pValueJ (v w:Value) (p:Row) (xj:Bool×List Nat) (k a:Nat) (hp:Fit k p) (hxl:Lim xj.2) (hxa:xj.2.length≤a) (hk:k+(p.length+1)*(a+1)≤137438953472) (lp:p.length≤1073741824) :
  Meets Tryz.prog 53 [v,w] [(v,V p),(w,J xj)] (fun r os fs=>os=[]∧fs=[(r,zd (pev (vv p) (jv xj)))]):=by
 have hx:sz (jv xj) a:=gY hxl hxa
 obtain ⟨x,hxj⟩:∃ x,jv xj=x:=⟨_,rfl⟩
 rw [hxj] at hx ⊢
 have hm1:(p.length+1)*(a+1)=p.length*(a+1)+(a+1):=Nat.succ_mul _ _
 have h1:=fH v p (hp.mono qN) qN
 have sa:=hp.szR.nrm
 have la:(nrm (vv p)).length≤p.length:=Nat.le_trans (cA _) (by rw [cV]; exact Nat.le_refl _)
 rw [← dL (vv p)]
 generalize hA:nrm (vv p)=A at *
 have hs:∀ i,sz (pev (A.drop i) x) (k+p.length*(a+1)):=fun i=>(ev_sz (sa.drop i) hx).mono (by
  have:(A.drop i).length*(a+1)≤p.length*(a+1):=Nat.mul_le_mul_right _ (by rw [List.length_drop]; omega)
  omega)
 have hlast:pev (A.drop A.length) x=0:=by rw [List.drop_length]; rfl
 have hstep:∀ i,i<A.length→pev (A.drop (A.length - i)) x*x+A.getD (A.length - 1 - i) 0=pev (A.drop (A.length - (i+1))) x:=fun i hi=>by
  rw [ev_drop (i:=A.length - (i+1)) qN,show A.length - (i+1)+1=A.length - i by omega,show A.length - (i+1)=A.length - 1 - i by omega,Int.mul_comm]; omega
 have hfin:pev (A.drop (A.length - A.length)) x=pev A x:=by rw [Nat.sub_self,List.drop_zero]
 generalize hV:(fun i=>pev (A.drop (A.length - i)) x)=Vf
 have hs':∀ i,sz (Vf i) (k+p.length*(a+1)):=fun i=>by rw [← hV]; exact hs _
 have hstep':∀ i,i<A.length→Vf i*x+A.getD (A.length - 1 - i) 0=Vf (i+1):=fun i hi=>by rw [← hV]; exact hstep i hi
 have h0':Vf 0=0:=by rw [← hV]; exact hlast
 have hfin':Vf A.length=pev A x:=by rw [← hV]; exact hfin
 refine mV Tryz.func53 ?_
 refine mX (aC (d:=J xj) qM) fun px=>?_
 refine aM (d:=I false []) fun o ho=>?_
 refine lE (da:=.one (.bool false)) (db:=U (bT 0)) (fun S w=>⟨[.bool false],[.slice none 0 0],rfl,eJ S w,by rw [bR]; exact gM S w 1 _⟩) fun z=>?_
 refine aM (d:=I false []) fun s hs1=>?_
 refine aI (d:=zd 0) 0 rfl hs1 rfl qK ?_ ?_; exact aC qM
 refine cG h1 fun x1=>?_
 refine fV qM ?_
 refine aO (X:=Nat) (fun i=>([(3,px),(4,o),(5,s),(6,x1),(12,.int .i64 (A.length:Nat)),(13,.int .i64 (i:Nat))],[bE s 2 1 (fun _=>zd (Vf i)),bE o 2 1 (fun _=>I false [])],[(x1,vd A),(px,.ptr (J xj))])) (fun i=>i≤A.length) (fun i=>A.length - i) rfl ?_ ?_
 ·exact aU 0 (Nat.zero_le _) trivial qF (aA (bJ (by rw [h0']; rfl)) (aB qS))
 ·rintro i hi
  refine aD _ rfl (fun hlt=>?_) (fun hlt=>?_)
  ·have hin:i<A.length:=by omega
   have hsi:=hs' i
   have hsi1:=hstep' i hin
   have hai:=sa.get (A.length - 1 - i)
   refine aY [0,1,3,4,5,6,7,8,9,10,2,11,12] [0,1,2,3,4,5,6,7,8,9,10,11,12] qK qK ?_
   refine aF (d:=zd (Vf i)) 0 rfl hs1 rfl (aN _ _) fun y1=>?_
   refine aX (d:=J xj) qM (bM _) fun y2=>?_
   refine fV qM ?_
   refine ar rfl qI ?_
   refine ar rfl qI ?_
   refine uB qM (A.length - 1 - i) qN qN fun b1=>?_
   refine aX (d:=zd (A.getD (A.length - 1 - i) 0)) qM (aN _ _) fun y4=>?_
   have hmul:=zMulZJ y1 y2 _ xj _ hsi qN hxl qN
   rw [hxj] at hmul
   refine cG hmul fun y3=>?_
   have hadd:=nH y3 y4 _ _ _ _ (hsi.mul hx) hai qN qN
   rw [hsi1] at hadd
   refine cG hadd fun y5=>?_
   refine aI (d:=zd (Vf (i+1))) 0 rfl hs1 rfl qK ?_ ?_; exact aC qM
   refine ar rfl qI ?_
   exact aU (i+1) qN (by simp only; omega) qF (aA (bJ rfl) (aB qS))
  ·have hip:i=A.length:=by omega
   subst hip
   have hsn:=hs' A.length
   rw [hfin'] at hsn
   rw [hfin']
   refine aF (d:=zd (pev A x)) 0 rfl hs1 rfl (aN _ _) fun y1=>?_
   refine cG (zNormZ y1 _ _ hsn qN) fun y2=>?_
   refine aI (d:=zd (pev A x)) 1 rfl ho rfl qK ?_ ?_; exact aC qM
   refine aF (d:=zd (pev A x)) 1 rfl ho rfl (aN _ _) fun r=>?_
   exact fin ⟨rfl,rfl⟩ (dS (dS (aB qS)))
theorem cont_snoc (l:List Int) (c:Int):cE (l++[c])=Nat.gcd (cE l) c.natAbs:=by
 induction l with
 | nil=>show Nat.gcd c.natAbs 0=Nat.gcd 0 c.natAbs; simp
 | cons d l ih =>
  show Nat.gcd d.natAbs (cE (l++[c]))=Nat.gcd (Nat.gcd d.natAbs (cE l)) c.natAbs
  rw [ih,Nat.gcd_assoc]
theorem pP {l:List Int} {k:Nat} (h:szR k l):sz (cE l:Nat) k:=by
 unfold sz
 rw [Int.natAbs_natCast]
 induction l with
 | nil=>exact Nat.pow_pos qE
 | cons c l ih =>
  have h1:=ih fun y hy=>h y (.tail _ hy)
  have h2:=h c (.head _)
  show Nat.gcd c.natAbs (cE l)<_
  by_cases e:c.natAbs=0
  ·rw [e,Nat.gcd_zero_left]; exact h1
  ·exact Nat.lt_of_le_of_lt (Nat.gcd_le_left _ (Nat.pos_of_ne_zero e)) h2
theorem szR.take {k:Nat} {l:List Int} (h:szR k l) (i:Nat):szR k (l.take i):=fun x hx=>h x (List.mem_of_mem_take hx)
theorem cont_take {l:List Int} {i:Nat} (h:i<l.length):cE (l.take (i+1))=Nat.gcd (cE (l.take i)) (l.getD i 0).natAbs:=by
 rw [rQ 0 h,cont_snoc]
theorem jv_abs (x:Bool×List Nat):(jv x).natAbs=nv x.2:=vT _ _
theorem zGcdJ (v w:Value) (x y:Bool×List Nat) (hx:Lim x.2) (lx:x.2.length≤137438953472) (hy:Lim y.2) (ly:y.2.length≤137438953472) :
  Meets Tryz.prog 198 [v,w] [(v,J x),(w,J y)] (fun r os fs=>os=[]∧fs=[(r,zd (Nat.gcd (jv x).natAbs (jv y).natAbs:Nat))]):=by
 rw [jv_abs,jv_abs]
 exact zgcd_meets v w x.1 y.1 x.2 y.2 hx hy lx ly
theorem zGcdZ (v w:Value) (x y:Int) (a b:Nat) (hx:sz x a) (hy:sz y b) (ha:a≤137438953472) (hb:b≤137438953472) :
  Meets Tryz.prog 198 [v,w] [(v,zd x),(w,zd y)] (fun r os fs=>os=[]∧fs=[(r,zd (Nat.gcd x.natAbs y.natAbs:Nat))]):=by
 have h:=zGcdJ v w (cn x) (cn y) (a0 _) (Nat.le_trans hx.len ha) (a0 _) (Nat.le_trans hy.len hb)
 rw [eR,eR] at h
 exact h
theorem zAbsZ (v:Value) (x:Int) (a:Nat) (hx:sz x a) (ha:a≤137438953472) :
  Meets Tryz.prog 144 [v] [(v,zd x)] (fun r os fs=>os=[]∧fs=[(r,zd (x.natAbs:Nat))]):=by
 have h:=zabs_meets v (decide (x<0)) (bT x.natAbs) (a0 _) (Nat.le_trans hx.len ha)
 rw [cK] at h
 exact h
theorem o5 (v:Value) (p:Row) (k:Nat) (hp:Fit k p) (hk:k≤137438953472) :
  Meets Tryz.prog 182 [v] [(v,V p)] (fun r os fs=>os=[]∧fs=[(r,zd (cE (vv p):Nat))]):=by
 have hs:∀ i,sz (cE ((vv p).take i):Nat) k:=fun i=>pP (hp.szR.take i)
 have hst:∀ i,i<p.length→Nat.gcd (cE ((vv p).take i)) (jv (p.getD i z0)).natAbs=cE ((vv p).take (i+1)):=fun i hi=>by
  rw [cont_take (by rw [cV]; exact hi),lO p i hi]
 have hlast:cE ((vv p).take p.length)=cE (vv p):=by rw [List.take_of_length_le (by rw [cV]; exact Nat.le_refl _)]
 have h00:cE ((vv p).take 0)=0:=rfl
 generalize hC:(fun i=>cE ((vv p).take i))=C
 have hs':∀ i,sz (C i:Nat) k:=fun i=>by rw [← hC]; exact hs i
 have hst':∀ i,i<p.length→Nat.gcd (C i) (jv (p.getD i z0)).natAbs=C (i+1):=fun i hi=>by rw [← hC]; exact hst i hi
 have hlast':C p.length=cE (vv p):=by rw [← hC]; exact hlast
 have h0':C 0=0:=by rw [← hC]; exact h00
 refine mV Tryz.func182 ?_
 refine aM (d:=I false []) fun o ho=>?_
 refine lE (da:=.one (.bool false)) (db:=U (bT 0)) (fun S w=>⟨[.bool false],[.slice none 0 0],rfl,eJ S w,by rw [bR]; exact gM S w 1 _⟩) fun z=>?_
 refine aM (d:=I false []) fun s hs1=>?_
 refine aI (d:=zd 0) 0 rfl hs1 rfl qK ?_ ?_; exact aC qM
 refine aT qM fun _=>?_
 refine aO (X:=Nat) (fun i=>([(2,o),(3,s),(7,v),(8,.int .i64 (p.length:Nat)),(9,.int .i64 (i:Nat))],[bE s 2 1 (fun _=>zd (C i:Nat)),bE o 2 1 (fun _=>I false [])],[(v,V p)])) (fun i=>i≤p.length) (fun i=>p.length - i) rfl ?_ ?_
 ·exact aU 0 (Nat.zero_le _) trivial qF (aA (bJ (by rw [h0']; rfl)) (aB qS))
 ·rintro i hi
  refine aD _ rfl (fun hlt=>?_) (fun hlt=>?_)
  ·have hin:i<p.length:=by omega
   have hsi:=hs' i
   have hpi:=hp.get i
   refine aQ qM i rfl hin fun b1=>?_
   refine aX (d:=J (p.getD i z0)) qM (bM _) fun y1=>?_
   refine aM (d:=I false []) fun q hq=>?_
   refine aI (d:=J (p.getD i z0)) 0 rfl hq rfl qK ?_ ?_; exact aC qM
   refine aF (d:=zd (C i:Nat)) 1 rfl hs1 rfl (aN _ _) fun y2=>?_
   refine aF (d:=J (p.getD i z0)) 0 rfl hq rfl (bM _) fun y3=>?_
   have hg:=zGcdJ y2 y3 (cn (C i:Nat)) (p.getD i z0) (a0 _) (Nat.le_trans hsi.len hk) hpi.1 qN
   rw [eR,Int.natAbs_natCast,hst' i hin] at hg
   refine cG hg fun y4=>?_
   refine aI (d:=zd (C (i+1):Nat)) 1 rfl hs1 rfl qK ?_ ?_; exact aC qM
   refine ar rfl qI ?_
   exact aU (i+1) qN (by simp only; omega) qF (dS (aA (bJ rfl) (aB qS)))
  ·have hip:i=p.length:=by omega
   subst hip
   have hsn:=hs' p.length
   rw [hlast'] at hsn
   rw [hlast']
   have hab:=fun y=>zAbsZ y _ _ hsn hk
   simp only [Int.natAbs_natCast] at hab
   refine aF (d:=zd (cE (vv p):Nat)) 0 rfl hs1 rfl (aN _ _) fun y1=>?_
   refine cG (hab y1) fun y2=>?_
   refine aI (d:=zd (cE (vv p):Nat)) 1 rfl ho rfl qK ?_ ?_; exact aC qM
   refine aF (d:=zd (cE (vv p):Nat)) 1 rfl ho rfl (aN _ _) fun r=>?_
   exact fin ⟨rfl,rfl⟩ (dS (dS (aB qS)))
theorem tL {K:bZ} {os:List Own} {fs:List bD} (pos:Nat) {v:Value} {l:List Int} {k:Nat} (h:a8 os pos=some (jY 2 J z0 v (l.map cn))) (hs:isSl v) (hp:szR k l) (hk:k≤137438953472)
  (kk:∀ r,K r os ((r,zd (cE l:Nat))::fs)):CallK Tryz.prog false (.func (.func 182) #[] #[]) [v] os fs K:=by
 have hs0:∀ i,sz (cE (l.take i):Nat) k:=fun i=>pP (hp.take i)
 have hst:∀ i,i<l.length→Nat.gcd (cE (l.take i)) (l.getD i 0).natAbs=cE (l.take (i+1)):=fun i hi=>by
  rw [cont_take hi]
 have hlast:cE (l.take l.length)=cE l:=by rw [List.take_of_length_le (Nat.le_refl _)]
 have h00:cE (l.take 0)=0:=rfl
 generalize hC:(fun i=>cE (l.take i))=C
 have hs':∀ i,sz (C i:Nat) k:=fun i=>by rw [← hC]; exact hs0 i
 have hst':∀ i,i<l.length→Nat.gcd (C i) (l.getD i 0).natAbs=C (i+1):=fun i hi=>by rw [← hC]; exact hst i hi
 have hlast':C l.length=cE l:=by rw [← hC]; exact hlast
 have h0':C 0=0:=by rw [← hC]; exact h00
 have hml:(l.map cn).length=l.length:=List.length_map _
 refine fB Tryz.func182 qK rfl qK (Nat.le_of_ble_eq_true rfl) ?_
 refine aM (d:=I false []) fun o ho=>?_
 refine lE (da:=.one (.bool false)) (db:=U (bT 0)) (fun S w=>⟨[.bool false],[.slice none 0 0],rfl,eJ S w,by rw [bR]; exact gM S w 1 _⟩) fun z=>?_
 refine aM (d:=I false []) fun s hs1=>?_
 refine aI (d:=zd 0) 0 rfl hs1 rfl qK ?_ ?_; exact aC qM
 refine cS (pos+2) h hs fun _=>?_
 refine aO (X:=Nat) (fun i=>([(2,o),(3,s),(7,v),(8,.int .i64 ((l.map cn).length:Nat)),(9,.int .i64 (i:Nat))],bE s 2 1 (fun _=>zd (C i:Nat))::bE o 2 1 (fun _=>I false [])::os,fs)) (fun i=>i≤l.length) (fun i=>l.length - i) rfl ?_ ?_
 ·exact aU 0 (Nat.zero_le _) trivial qF (aA (bJ (by rw [h0']; rfl)) (aB qD))
 ·rintro i hi
  refine aD _ rfl (fun hlt=>?_) (fun hlt=>?_)
  ·have hin:i<l.length:=by omega
   have hsi:=hs' i
   have hpi:=hp.get i
   refine aE (pos+2) h hs i rfl qN ?_
   refine bK (d:=zd (l.getD i 0)) (pos+2) h i qN (by rw [fE hin]; rfl) (aN _ _) fun y1=>?_
   refine aM (d:=I false []) fun q hq=>?_
   refine aI (d:=zd (l.getD i 0)) 0 rfl hq rfl qK ?_ ?_; exact aC qM
   refine aF (d:=zd (C i:Nat)) 1 rfl hs1 rfl (aN _ _) fun y2=>?_
   refine aF (d:=zd (l.getD i 0)) 0 rfl hq rfl (aN _ _) fun y3=>?_
   have hg:=zGcdZ y2 y3 _ _ _ _ hsi hpi hk hk
   rw [Int.natAbs_natCast,hst' i hin] at hg
   refine cG hg fun y4=>?_
   refine aI (d:=zd (C (i+1):Nat)) 1 rfl hs1 rfl qK ?_ ?_; exact aC qM
   refine ar rfl qI ?_
   exact aU (i+1) qN (by simp only; omega) qF (dS (aA (bJ rfl) (aB qD)))
  ·have hip:i=l.length:=by omega
   subst hip
   have hsn:=hs' l.length
   rw [hlast'] at hsn
   rw [hlast']
   have hab:=fun y=>zAbsZ y _ _ hsn hk
   simp only [Int.natAbs_natCast] at hab
   refine aF (d:=zd (cE l:Nat)) 0 rfl hs1 rfl (aN _ _) fun y1=>?_
   refine cG (hab y1) fun y2=>?_
   refine aI (d:=zd (cE l:Nat)) 1 rfl ho rfl qK ?_ ?_; exact aC qM
   refine aF (d:=zd (cE l:Nat)) 1 rfl ho rfl (aN _ _) fun r=>?_
   exact fin (kk r) (dS (dS (aB (fun F hF=>by
    rcases List.mem_cons.1 hF with rfl | hF
    ·exact List.Mem.head _
    ·repeat (first | exact hF | apply List.Mem.tail)))))
theorem lead_call {K:bZ} {os:List Own} {fs:List bD} (pos:Nat) {v:Value} {l:List Int} (h:a8 os pos=some (jY 2 J z0 v (l.map cn))) (hs:isSl v)
  (kk:∀ r,K r os ((r,zd (l.getD (l.length - 1) 0))::fs)):CallK Tryz.prog false (.func (.func 121) #[] #[]) [v] os fs K:=by
 have hml:(l.map cn).length=l.length:=List.length_map _
 refine fB Tryz.func121 qK rfl qK (Nat.le_of_ble_eq_true rfl) ?_
 refine aM (d:=I false []) fun o ho=>?_
 refine cS (pos+1) h hs fun _=>?_
 refine aD _ rfl (fun h0=>?_) (fun h0=>?_)
 ·have h0:l=[]:=List.length_eq_zero_iff.1 qN
  subst h0
  refine lE (da:=.one (.bool false)) (db:=U (bT 0)) (fun S w=>⟨[.bool false],[.slice none 0 0],rfl,eJ S w,by rw [bR]; exact gM S w 1 _⟩) fun z=>?_
  refine aI (d:=zd 0) 0 rfl ho rfl qK ?_ ?_; exact aC qM
  refine aF (d:=zd 0) 0 rfl ho rfl (aN _ _) fun r=>?_
  exact fin (kk r) (dS (aB (fun F hF=>by
    rcases List.mem_cons.1 hF with rfl | hF
    ·exact List.Mem.head _
    ·repeat (first | exact hF | apply List.Mem.tail))))
 ·refine cS (pos+1) h hs fun _=>?_
  refine ar rfl qI ?_
  refine aE (pos+1) h hs (l.length - 1) qN qN ?_
  refine bK (d:=zd (l.getD (l.length - 1) 0)) (pos+1) h (l.length - 1) qN (by rw [fE qN]; rfl) (aN _ _) fun y1=>?_
  refine aI (d:=zd (l.getD (l.length - 1) 0)) 0 rfl ho rfl qK ?_ ?_; exact aC qM
  refine aF (d:=zd (l.getD (l.length - 1) 0)) 0 rfl ho rfl (aN _ _) fun r=>?_
  exact fin (kk r) (dS (aB (fun F hF=>by
    rcases List.mem_cons.1 hF with rfl | hF
    ·exact List.Mem.head _
    ·repeat (first | exact hF | apply List.Mem.tail))))
theorem sign_lt {x:Int}:x.sign<0↔x<0:=by
 rcases Int.lt_trichotomy x 0 with h | h | h
 ·rw [Int.sign_eq_neg_one_of_neg h]; omega
 ·rw [h]; simp
 ·rw [Int.sign_eq_one_of_pos h]; omega
theorem ld_nrm (l:List Int):(nrm l).getD ((nrm l).length - 1) 0=ld l:=by rw [gT]; rfl
theorem cont_nrm (l:List Int):cE (nrm l)=cE l:=rC (dL l)
theorem div_s (A:List Int) (g:Int) (i y:Nat):upd (fun y=>zd (if y<i then A.getD y 0/g else A.getD y 0)) i (zd (A.getD i 0/g)) y=zd (if y<i+1 then A.getD y 0/g else A.getD y 0) :=
 upd_zd (G:=fun y=>if y<i then A.getD y 0/g else A.getD y 0) (H:=fun y=>if y<i+1 then A.getD y 0/g else A.getD y 0) (by
  rw [if_pos qN]) (fun y hy=>by
  by_cases h2:y<i
  ·rw [if_pos h2,if_pos qN]
  ·rw [if_neg h2,if_neg qN]) y
theorem lst_map (A:List Int) (f:Int→Int):lst A.length (fun i=>f (A.getD i 0))=A.map f:=by
 refine List.ext_getElem? fun i=>?_
 by_cases h:i<A.length
 ·simp [lst,h]
 ·simp [lst,h]
theorem iE (v:Value) (p:Row) (k:Nat) (hp:Fit k p) (hk:k≤137438953472) (lp:p.length≤1073741824) :
  Meets Tryz.prog 180 [v] [(v,V p)] (fun r os fs=>os=[]∧fs=[(r,vd (pprim (vv p)))]):=by
 have h1:=jT v p (hp.mono qN) qN
 have sa:=hp.szR.nrm
 have la:(nrm (vv p)).length≤p.length:=Nat.le_trans (cA _) (by rw [cV]; exact Nat.le_refl _)
 have hcn:=cont_nrm (vv p)
 have hld:=ld_nrm (vv p)
 have hdef:pprim (vv p)=nrm ((nrm (vv p)).map fun y=>y/j0 (vv p)):=rfl
 have hsc:j0 (vv p)=if ld (vv p)<0 then - (cE (vv p):Int) else cE (vv p):=rfl
 have hne:0<(nrm (vv p)).length→j0 (vv p)≠0:=fun h e=>by
  have h2:=fF (vv p)
  rw [e] at h2
  have h3:=dZ.1 h2.symm
  unfold dg at h3; omega
 have hgs:sz (j0 (vv p)) k:=by
  unfold sz
  rw [fF]
  have:=pP hp.szR
  unfold sz at this
  rwa [Int.natAbs_natCast] at this
 have hcs:sz (cE (vv p):Nat) k:=pP hp.szR
 rw [hdef]
 generalize hA:nrm (vv p)=A at *
 generalize hg:j0 (vv p)=g at *
 have hml:(A.map cn).length=A.length:=List.length_map _
 have hcv:∀ y,y<A.length→J ((A.map cn).getD y z0)=zd (if y<0 then A.getD y 0/g else A.getD y 0):=fun y hy=>by rw [fE hy,if_neg (Nat.not_lt_zero _)]; rfl
 have hn:∀ r,Meets Tryz.prog 55 [r] [(r,vd (lst A.length fun y=>A.getD y 0/g))] (fun r os fs=>os=[]∧fs=[(r,vd (nrm (A.map fun y=>y/g)))]):=fun r=>by
  rw [← lst_map A fun y=>y/g]
  exact pNormT r (lst A.length fun y=>A.getD y 0/g) ((szR.lst fun i _=>pW (sa.get i)).mono hk) (by rw [eC]; omega)
 refine mV Tryz.func180 ?_
 refine cF h1 ?_
 rintro r _ _ ⟨hr,rfl,rfl⟩
 refine tL 0 rfl hr sa hk fun x1=>?_
 rw [hcn]
 refine aM (d:=I false []) fun c hc=>?_
 refine aI (d:=zd (cE (vv p):Nat)) 0 rfl hc rfl qK ?_ ?_; exact aC qM
 refine lead_call 1 rfl hr fun x2=>?_
 rw [hld]
 refine cH (uG x2 (ld (vv p)) k (by rw [← hld]; exact sa.get _) hk) ?_
 refine aD _ rfl (fun hz=>?_) (fun hz=>?_)
 ·rw [if_pos (sign_lt.1 hz)] at hsc
  have hneg:=fun y=>zNegZ y _ k hcs hk
  rw [← hsc] at hneg
  refine aF (d:=zd (cE (vv p):Nat)) 0 rfl hc rfl (aN _ _) fun y1=>?_
  refine cG (hneg y1) fun y2=>?_
  refine aI (d:=zd g) 0 rfl hc rfl qK ?_ ?_; exact aC qM
  refine cS 1 rfl hr fun _=>?_
  refine aO (X:=Nat) (fun i=>([(3,r),(4,c),(17,.int .i64 ((A.map cn).length:Nat)),(18,.int .i64 (i:Nat))],[bE c 2 1 (fun _=>zd g),bE r 2 A.length (fun y=>zd (if y<i then A.getD y 0/g else A.getD y 0))],[])) (fun i=>i≤A.length) (fun i=>A.length - i) rfl ?_ ?_
  ·exact aU 0 (Nat.zero_le _) trivial qF (aA (bJ rfl) (aA (Seals.own_cong (os:=[_,jY 2 J z0 r (A.map cn)]) 1 (n':=A.length) (fun y=>zd (if y<0 then A.getD y 0/g else A.getD y 0)) rfl (by rw [List.length_map]) fun y hy=>hcv y (by rw [List.length_map] at hy; exact hy)) (aB qS)))
  ·rintro i hi
   refine aD _ rfl (fun hlt=>?_) (fun hlt=>?_)
   ·have hin:i<A.length:=by omega
    have hai:=sa.get i
    have hg0:=hne qN
    refine gO [0,1,2,3,4,5,6,7,8,9,12,13,10,11] qK ?_
    refine a9 10 13 qK qK qK ?_ ?_
    ·refine a9 11 13 qK qK qK ?_ ?_
     ·
      refine eE [0,1,2,3,4,5,6,7,8,9,10,11,12,13] qK qK ?_
      refine aE 1 rfl hr i rfl qN ?_
      refine bK (d:=zd (A.getD i 0)) 1 rfl i qN (by rw [if_neg qN]) (aN _ _) fun y1=>?_
      refine aF (d:=zd g) 0 rfl hc rfl (aN _ _) fun y2=>?_
      refine cF (gK y1 y2 _ _ _ _ hai hgs qN qN hg0) ?_
      rintro _ _ _ ⟨rfl,y3,y4,rfl,rfl⟩
      refine aE 1 rfl hr i rfl qN ?_
      refine cI (bL (d:=zd (A.getD i 0/g)) 1 rfl i qN rfl qK (aC qM) ⟨_,_,Seals.own_cong (os:=[_,_]) 1 (fun y=>zd (if y<i+1 then A.getD y 0/g else A.getD y 0)) rfl rfl (fun y _=>div_s A g i y),?_⟩)
      refine ar rfl qI ?_
      exact aU (i+1) qN (by simp only; omega) qF (aA (bJ rfl) (aB qS))
     ·
      refine eE [0,1,2,3,4,5,6,7,8,9,10,12,13,11] qK qK ?_
      refine aE 1 rfl hr i rfl qN ?_
      refine bK (d:=zd (A.getD i 0)) 1 rfl i qN (by rw [if_neg qN]) (aN _ _) fun y1=>?_
      refine aF (d:=zd g) 0 rfl hc rfl (aN _ _) fun y2=>?_
      refine cF (gK y1 y2 _ _ _ _ hai hgs qN qN hg0) ?_
      rintro _ _ _ ⟨rfl,y3,y4,rfl,rfl⟩
      refine aE 1 rfl hr i rfl qN ?_
      refine cI (bL (d:=zd (A.getD i 0/g)) 1 rfl i qN rfl qK (aC qM) ⟨_,_,Seals.own_cong (os:=[_,_]) 1 (fun y=>zd (if y<i+1 then A.getD y 0/g else A.getD y 0)) rfl rfl (fun y _=>div_s A g i y),?_⟩)
      refine ar rfl qI ?_
      exact aU (i+1) qN (by simp only; omega) qF (aA (bJ rfl) (aB qS))
    ·refine a9 11 13 qK qK qK ?_ ?_
     ·
      refine eE [0,1,2,3,4,5,6,7,8,9,11,12,13,10] qK qK ?_
      refine aE 1 rfl hr i rfl qN ?_
      refine bK (d:=zd (A.getD i 0)) 1 rfl i qN (by rw [if_neg qN]) (aN _ _) fun y1=>?_
      refine aF (d:=zd g) 0 rfl hc rfl (aN _ _) fun y2=>?_
      refine cF (gK y1 y2 _ _ _ _ hai hgs qN qN hg0) ?_
      rintro _ _ _ ⟨rfl,y3,y4,rfl,rfl⟩
      refine aE 1 rfl hr i rfl qN ?_
      refine cI (bL (d:=zd (A.getD i 0/g)) 1 rfl i qN rfl qK (aC qM) ⟨_,_,Seals.own_cong (os:=[_,_]) 1 (fun y=>zd (if y<i+1 then A.getD y 0/g else A.getD y 0)) rfl rfl (fun y _=>div_s A g i y),?_⟩)
      refine ar rfl qI ?_
      exact aU (i+1) qN (by simp only; omega) qF (aA (bJ rfl) (aB qS))
     ·
      refine eE [0,1,2,3,4,5,6,7,8,9,12,13,10,11] qK qK ?_
      refine aE 1 rfl hr i rfl qN ?_
      refine bK (d:=zd (A.getD i 0)) 1 rfl i qN (by rw [if_neg qN]) (aN _ _) fun y1=>?_
      refine aF (d:=zd g) 0 rfl hc rfl (aN _ _) fun y2=>?_
      refine cF (gK y1 y2 _ _ _ _ hai hgs qN qN hg0) ?_
      rintro _ _ _ ⟨rfl,y3,y4,rfl,rfl⟩
      refine aE 1 rfl hr i rfl qN ?_
      refine cI (bL (d:=zd (A.getD i 0/g)) 1 rfl i qN rfl qK (aC qM) ⟨_,_,Seals.own_cong (os:=[_,_]) 1 (fun y=>zd (if y<i+1 then A.getD y 0/g else A.getD y 0)) rfl rfl (fun y _=>div_s A g i y),?_⟩)
      refine ar rfl qI ?_
      exact aU (i+1) qN (by simp only; omega) qF (aA (bJ rfl) (aB qS))
   ·have hip:i=A.length:=by omega
    subst hip
    refine dK (hn r) (dS (Seals.told (g:=fun y=>A.getD y 0/g) hr fun y hy=>by rw [if_pos hy])) qS ?_
    rintro u _ _ ⟨rfl,rfl⟩
    exact fin ⟨rfl,rfl⟩ (aB qS)
 ·rw [if_neg fun h=>hz (sign_lt.2 h)] at hsc
  rw [← hsc]
  refine cS 1 rfl hr fun _=>?_
  refine aO (X:=Nat) (fun i=>([(3,r),(4,c),(17,.int .i64 ((A.map cn).length:Nat)),(18,.int .i64 (i:Nat))],[bE c 2 1 (fun _=>zd g),bE r 2 A.length (fun y=>zd (if y<i then A.getD y 0/g else A.getD y 0))],[])) (fun i=>i≤A.length) (fun i=>A.length - i) rfl ?_ ?_
  ·exact aU 0 (Nat.zero_le _) trivial qF (aA (bJ rfl) (aA (Seals.own_cong (os:=[_,jY 2 J z0 r (A.map cn)]) 1 (n':=A.length) (fun y=>zd (if y<0 then A.getD y 0/g else A.getD y 0)) rfl (by rw [List.length_map]) fun y hy=>hcv y (by rw [List.length_map] at hy; exact hy)) (aB qS)))
  ·rintro i hi
   refine aD _ rfl (fun hlt=>?_) (fun hlt=>?_)
   ·have hin:i<A.length:=by omega
    have hai:=sa.get i
    have hg0:=hne qN
    refine gO [0,1,2,3,4,5,6,7,8,9,12,13,10,11] qK ?_
    refine a9 10 13 qK qK qK ?_ ?_
    ·refine a9 11 13 qK qK qK ?_ ?_
     ·
      refine eE [0,1,2,3,4,5,6,7,8,9,10,11,12,13] qK qK ?_
      refine aE 1 rfl hr i rfl qN ?_
      refine bK (d:=zd (A.getD i 0)) 1 rfl i qN (by rw [if_neg qN]) (aN _ _) fun y1=>?_
      refine aF (d:=zd g) 0 rfl hc rfl (aN _ _) fun y2=>?_
      refine cF (gK y1 y2 _ _ _ _ hai hgs qN qN hg0) ?_
      rintro _ _ _ ⟨rfl,y3,y4,rfl,rfl⟩
      refine aE 1 rfl hr i rfl qN ?_
      refine cI (bL (d:=zd (A.getD i 0/g)) 1 rfl i qN rfl qK (aC qM) ⟨_,_,Seals.own_cong (os:=[_,_]) 1 (fun y=>zd (if y<i+1 then A.getD y 0/g else A.getD y 0)) rfl rfl (fun y _=>div_s A g i y),?_⟩)
      refine ar rfl qI ?_
      exact aU (i+1) qN (by simp only; omega) qF (aA (bJ rfl) (aB qS))
     ·
      refine eE [0,1,2,3,4,5,6,7,8,9,10,12,13,11] qK qK ?_
      refine aE 1 rfl hr i rfl qN ?_
      refine bK (d:=zd (A.getD i 0)) 1 rfl i qN (by rw [if_neg qN]) (aN _ _) fun y1=>?_
      refine aF (d:=zd g) 0 rfl hc rfl (aN _ _) fun y2=>?_
      refine cF (gK y1 y2 _ _ _ _ hai hgs qN qN hg0) ?_
      rintro _ _ _ ⟨rfl,y3,y4,rfl,rfl⟩
      refine aE 1 rfl hr i rfl qN ?_
      refine cI (bL (d:=zd (A.getD i 0/g)) 1 rfl i qN rfl qK (aC qM) ⟨_,_,Seals.own_cong (os:=[_,_]) 1 (fun y=>zd (if y<i+1 then A.getD y 0/g else A.getD y 0)) rfl rfl (fun y _=>div_s A g i y),?_⟩)
      refine ar rfl qI ?_
      exact aU (i+1) qN (by simp only; omega) qF (aA (bJ rfl) (aB qS))
    ·refine a9 11 13 qK qK qK ?_ ?_
     ·
      refine eE [0,1,2,3,4,5,6,7,8,9,11,12,13,10] qK qK ?_
      refine aE 1 rfl hr i rfl qN ?_
      refine bK (d:=zd (A.getD i 0)) 1 rfl i qN (by rw [if_neg qN]) (aN _ _) fun y1=>?_
      refine aF (d:=zd g) 0 rfl hc rfl (aN _ _) fun y2=>?_
      refine cF (gK y1 y2 _ _ _ _ hai hgs qN qN hg0) ?_
      rintro _ _ _ ⟨rfl,y3,y4,rfl,rfl⟩
      refine aE 1 rfl hr i rfl qN ?_
      refine cI (bL (d:=zd (A.getD i 0/g)) 1 rfl i qN rfl qK (aC qM) ⟨_,_,Seals.own_cong (os:=[_,_]) 1 (fun y=>zd (if y<i+1 then A.getD y 0/g else A.getD y 0)) rfl rfl (fun y _=>div_s A g i y),?_⟩)
      refine ar rfl qI ?_
      exact aU (i+1) qN (by simp only; omega) qF (aA (bJ rfl) (aB qS))
     ·
      refine eE [0,1,2,3,4,5,6,7,8,9,12,13,10,11] qK qK ?_
      refine aE 1 rfl hr i rfl qN ?_
      refine bK (d:=zd (A.getD i 0)) 1 rfl i qN (by rw [if_neg qN]) (aN _ _) fun y1=>?_
      refine aF (d:=zd g) 0 rfl hc rfl (aN _ _) fun y2=>?_
      refine cF (gK y1 y2 _ _ _ _ hai hgs qN qN hg0) ?_
      rintro _ _ _ ⟨rfl,y3,y4,rfl,rfl⟩
      refine aE 1 rfl hr i rfl qN ?_
      refine cI (bL (d:=zd (A.getD i 0/g)) 1 rfl i qN rfl qK (aC qM) ⟨_,_,Seals.own_cong (os:=[_,_]) 1 (fun y=>zd (if y<i+1 then A.getD y 0/g else A.getD y 0)) rfl rfl (fun y _=>div_s A g i y),?_⟩)
      refine ar rfl qI ?_
      exact aU (i+1) qN (by simp only; omega) qF (aA (bJ rfl) (aB qS))
   ·have hip:i=A.length:=by omega
    subst hip
    refine dK (hn r) (dS (Seals.told (g:=fun y=>A.getD y 0/g) hr fun y hy=>by rw [if_pos hy])) qS ?_
    rintro u _ _ ⟨rfl,rfl⟩
    exact fin ⟨rfl,rfl⟩ (aB qS)
theorem pPrimitiveT (v:Value) (p:List Int) (k:Nat) (hp:szR k p) (hk:k≤137438953472) (lp:p.length≤1073741824) :
  Meets Tryz.prog 180 [v] [(v,vd p)] (fun r os fs=>os=[]∧fs=[(r,vd (pprim p))]):=by
 have h:=iE v (p.map cn) k hp.fit hk (by rw [List.length_map]; exact lp)
 rw [fR] at h
 exact h
theorem ld_nm {l:List Int} (h:Nm l):ld l=l.getD (l.length - 1) 0:=by unfold ld; rw [eH h]
theorem pLeadN (v:Value) (l:List Int) (hl:Nm l) (h0:0<l.length) :
  Meets Tryz.prog 121 [v] [(v,vd l)] (fun r os fs=>os=[]∧fs=[(r,zd (ld l))]):=by
 rw [ld_nm hl]
 exact pLeadT v l (List.length_pos_iff.1 h0)
structure m6 (p q t r:List Int):Prop where
 tn:Nm t
 rn:Nm r
 low:dg r<dg q
 eq:∀ x,ld q^(dg p+1 - dg q)*pev p x=pev q x*pev t x+pev r x
def rT (D T R:List Int):List Int:=padd (prai (ld D) 0 T) (prai (ld R) (R.length - D.length) [1])
def rR (D R:List Int):List Int:=psub (prai (ld D) 0 R) (prai (ld R) (R.length - D.length) D)
theorem rest_step {D T R P:List Int} {j:Nat} (hD:Nm D) (hR:Nm R) (h0:0<D.length) (hl:D.length≤R.length) (e:∀ x,ld D^j*pev P x=pev D x*pev T x+pev R x) :
  (∀ x,ld D^(j+1)*pev P x=pev D x*pev (rT D T R) x+pev (rR D R) x)∧(rR D R).length<R.length:=by
 constructor
 ·intro x
  have h:=e x
  rw [rT,rR,gS,iC,jA,jA,jA,jA,Int.pow_succ]
  simp only [pev,Int.pow_zero] at h ⊢
  grind
 ·have:=red_dg (p:=R) (q:=D) (by rw [eH hD]; exact h0) (by rw [eH hD,eH hR]; exact hl)
  rw [eH hD,eH hR,eH (uZ _ _)] at this
  exact this
theorem rest_more {D T R P:List Int} {j:Nat} (e:∀ x,ld D^j*pev P x=pev D x*pev T x+pev R x) :
  ∀ x,ld D^(j+1)*pev P x=pev D x*pev (prai (ld D) 0 T) x+pev (prai (ld D) 0 R) x:=fun x=>by
 have h:=e x
 rw [jA,jA,Int.pow_succ]
 simp only [Int.pow_zero] at h ⊢
 grind
theorem rT_len {D T R:List Int} {n:Nat} (h0:0<D.length) (hl:D.length≤R.length) (hT:T.length≤n) (hR:R.length≤n):(rT D T R).length≤n:=by
 have h1:=padd_len (prai (ld D) 0 T) (prai (ld R) (R.length - D.length) [1])
 have h2:=iV (ld D) 0 T
 have h3:=iV (ld R) (R.length - D.length) [1]
 simp only [List.length_cons,List.length_nil] at h3
 unfold rT
 omega
theorem rT_sz {D T R:List Int} {e k:Nat} (hD:szR k D) (hT:szR e T) (hR:szR e R) (hk:1≤k):szR (e+k+1) (rT D T R):=by
 have h1:szR (e+k) (prai (ld R) (R.length - D.length) [1]):=by
  have:szR k [1]:=fun x hx=>by
   rw [List.mem_singleton.1 hx]; exact (jS 1 qE).mono hk
  have:=this.prai (hR.get (dg R - 1)) (R.length - D.length)
  rwa [Nat.add_comm] at this
 exact (hT.prai (hD.get (dg D - 1)) 0).padd h1
theorem rR_sz {D R:List Int} {e k:Nat} (hD:szR k D) (hR:szR e R):szR (e+k+1) (rR D R):=by
 have h1:szR (e+k) (prai (ld R) (R.length - D.length) D):=by
  have:=hD.prai (hR.get (dg R - 1)) (R.length - D.length)
  rwa [Nat.add_comm] at this
 exact (hR.prai (hD.get (dg D - 1)) 0).psub h1
theorem szR_one (k:Nat) (hk:1≤k):szR k [1]:=fun x hx=>by
 rw [List.mem_singleton.1 hx]; exact (jS 1 qE).mono hk
def re (k j:Nat):Nat:=k+j*(k+1)
theorem re_succ (k j:Nat):re k (j+1)=re k j+k+1:=by unfold re; rw [Nat.succ_mul]; omega
theorem re_mono {k j m:Nat} (h:j≤m):re k j≤re k m:=by
 unfold re
 have:=Nat.mul_le_mul_right (k+1) h
 omega
theorem re_ge (k j:Nat):k≤re k j:=by unfold re; omega
theorem lead_callN {K:bZ} {os:List Own} {fs:List bD} (pos:Nat) {v:Value} {l:List Int} (h:a8 os pos=some (jY 2 J z0 v (l.map cn))) (hs:isSl v) (hn:Nm l)
  (kk:∀ r,K r os ((r,zd (ld l))::fs)):CallK Tryz.prog false (.func (.func 121) #[] #[]) [v] os fs K :=
 lead_call pos h hs fun r=>by rw [← ld_nm hn]; exact kk r
theorem sY (v w:Value) (p q:Row) (k:Nat) (hp:Fit k p) (hq:Fit k q) (h1k:1≤k) (hk:re k (p.length+1)≤137438953472) (lp:p.length≤536870912) (lq:q.length≤536870912) :
  Meets Tryz.prog 165 [v,w] [(v,V p),(w,V q)] (fun r os fs=>∃ a b T R,isSl b∧os=[jY 2 J z0 b (R.map cn)]∧(if dg (vv q)=0 then r=.tuple #[a,b,.int .i64 2]∧T=[]∧R=[] else r=.tuple #[a,b,.int .i64 0]∧m6 (vv p) (vv q) T R∧szR (re k (dg (vv p)+1 - dg (vv q))) T∧szR (re k (dg (vv p)+1 - dg (vv q))) R∧T.length≤p.length∧R.length≤p.length) ∧
   fs=[(a,vd T)]):=by
 have hkk:k≤re k (p.length+1):=re_ge _ _
 have n1:=jT v p (hp.mono qN) qN
 have n2:=fH w q (hq.mono qN) qN
 have sP:=hp.szR.nrm
 have sD:=hq.szR.nrm
 have la:(nrm (vv p)).length≤p.length:=Nat.le_trans (cA _) (by rw [cV]; exact Nat.le_refl _)
 have lb:(nrm (vv q)).length≤q.length:=Nat.le_trans (cA _) (by rw [cV]; exact Nat.le_refl _)
 have hPn:Nm (nrm (vv p)):=gZ _
 have hDn:Nm (nrm (vv q)):=gZ _
 have hspec:∀ T R,Nm T→Nm R→R.length<(nrm (vv q)).length→(∀ x,ld (nrm (vv q))^((nrm (vv p)).length+1 - (nrm (vv q)).length)*pev (nrm (vv p)) x=pev (nrm (vv q)) x*pev T x+pev R x)→m6 (vv p) (vv q) T R:=fun T R h1 h2 h3 h4 =>
  ⟨h1,h2,by rw [eH h2]; exact h3,fun x=>by
   have:=h4 x
   rw [dL,dL,ld_ext (dL (vv q))] at this
   exact this⟩
 have hdq:dg (vv q)=(nrm (vv q)).length:=rfl
 have hdp:dg (vv p)=(nrm (vv p)).length:=rfl
 rw [hdq,hdp]
 generalize hA:nrm (vv p)=A at *
 generalize hB:nrm (vv q)=D at *
 refine mV Tryz.func165 ?_
 refine cF n1 ?_
 rintro x1 _ _ ⟨hx1,rfl,rfl⟩
 refine cG n2 fun x2=>?_
 refine fV qM ?_
 refine aD _ rfl (fun hz=>?_) (fun hz=>?_)
 ·refine fin ⟨.slice none 0 0,.slice none 0 0,[],[],fZ,rfl,?_,rfl⟩ (dS (aA (cB _ _ 2 _) (a7 (dM 2 _) (aH _ _))))
  rw [if_pos qN]
  exact ⟨rfl,rfl,rfl⟩
 have hD0:0<D.length:=by omega
 have hml:∀ l:List Int,(l.map cn).length=l.length:=fun l=>List.length_map _
 have hmA:=hml A
 refine cS 0 rfl hx1 fun _=>?_
 refine fV qM ?_
 refine ar rfl qI ?_
 refine ar rfl qI ?_
 refine kV ?_
 have hld:sz (ld D) k:=sD.get _
 refine aO (X:=Value×Value×List Int×List Int×Nat) (fun x=>([(7,x.2.1),(8,x2),(9,.int .i64 (x.2.2.2.2:Nat)),(10,x.1)],[jY 2 J z0 x.2.1 (x.2.2.2.1.map cn)],[(x2,vd D),(x.1,vd x.2.2.1)]))
  (fun x=>isSl x.2.1∧Nm x.2.2.1∧Nm x.2.2.2.1∧x.2.2.2.2≤A.length+1 - D.length∧x.2.2.2.1.length<D.length+x.2.2.2.2∧x.2.2.1.length≤p.length∧x.2.2.2.1.length≤p.length∧szR (re k (A.length+1 - D.length - x.2.2.2.2)) x.2.2.1∧szR (re k (A.length+1 - D.length - x.2.2.2.2)) x.2.2.2.1 ∧
   ∀ y,ld D^(A.length+1 - D.length - x.2.2.2.2)*pev A y=pev D y*pev x.2.2.1 y+pev x.2.2.2.1 y) (fun x=>x.2.2.2.2) rfl ?_ ?_
 ·refine aU (.slice none 0 0,x1,[],A,A.length+1 - D.length) ⟨hx1,rfl,hPn,Nat.le_refl _,by simp only; omega,Nat.zero_le _,la,fun x hx=>by simp at hx,sP.mono (re_ge _ _),fun y=>by simp only [Nat.sub_self,Int.pow_zero,pev]; omega⟩ trivial qF ?_
  exact aA (aB (fs':=[(x2,vd D)]) qS) (aA (a7 (dM 2 _) (aB (fs':=[(x2,vd D)]) qS)) (aB qS))
 ·rintro ⟨vt,vr,T,R,n⟩ ⟨hvr,g1,g2,g3,g4,g5,g6,g7,g8,g9⟩
  simp only at hvr g1 g2 g3 g4 g5 g6 g7 g8 g9 ⊢
  have hmR:=hml R
  refine cS 0 rfl hvr fun _=>?_
  refine fV qM ?_
  refine aD _ rfl (fun hge=>?_) (fun hge=>?_)
  ·have hge':D.length≤R.length:=by omega
   have hn1:A.length+1 - D.length - (n - 1)=A.length+1 - D.length - n+1:=by omega
   obtain ⟨s1,s2⟩:=rest_step hDn g2 hD0 hge' g9
   have hre:re k (A.length+1 - D.length - n)+k+1≤re k (p.length+1):=by
    rw [← re_succ]; exact re_mono qN
   have z1:=rT_sz sD g7 g8 h1k
   have z2:=rR_sz sD g8
   rw [← re_succ,← hn1] at z1 z2
   have hlR:sz (ld R) (re k (A.length+1 - D.length - n)):=g8.get _
   have c1:=fun u u'=>mN u u' T (ld D) 0 _ k g7 hld qN qN qN
   have c2:=fun u u'=>mN u u' [1] (ld R) (R.length - D.length) k _ (szR_one k h1k) hlR qN (by show 1≤_; omega) qN
   have c3:=fun u=>pSumT u (prai (ld D) 0 T) (prai (ld R) (R.length - D.length) [1]) (re k (A.length+1 - D.length - n)+k) (g7.prai hld 0) (by
    have:=(szR_one k h1k).prai hlR (R.length - D.length)
    rwa [Nat.add_comm] at this) qN (by have:=iV (ld D) 0 T; omega) (by have:=iV (ld R) (R.length - D.length) [1]; simp only [List.length_cons,List.length_nil] at this; omega)
   have c4:=fun u u'=>mN u u' R (ld D) 0 _ k g8 hld qN qN qN
   have c5:=fun u u'=>mN u u' D (ld R) (R.length - D.length) k _ sD hlR qN qN qN
   have c6:=fun u u'=>pSubOT u u' (prai (ld D) 0 R) (prai (ld R) (R.length - D.length) D) (re k (A.length+1 - D.length - n)+k) (g8.prai hld 0) (by
    have:=sD.prai hlR (R.length - D.length)
    rwa [Nat.add_comm] at this) qN (by have:=iV (ld D) 0 R; omega) (by have:=iV (ld R) (R.length - D.length) D; omega)
   have lT:=rT_len hD0 hge' g5 g6
   have e1:padd (prai (ld D) 0 T) (prai (ld R) (R.length - D.length) [1])=rT D T R:=rfl
   have e2:psub (prai (ld D) 0 R) (prai (ld R) (R.length - D.length) D)=rR D R:=rfl
   have tn:Nm (rT D T R):=padd_nm _ _
   have rn:Nm (rR D R):=uZ _ _
   rw [e1] at c3
   rw [e2] at c6
   refine lead_callN 0 rfl hvr g2 fun y1=>?_
   refine cS 0 rfl hvr fun _=>?_
   refine fV qM ?_
   refine ar rfl qI ?_
   refine aM (d:=I false []) fun c hc=>?_
   refine aI (d:=zd (ld R)) 0 rfl hc rfl qK ?_ ?_; exact aC qM
   refine aY [0,1,6,7,2,3,4,5,8,9,10,11] [0,1,2,3,4,5,6,7,8,9,10,11] qK qK ?_
   refine aF (d:=zd (ld R)) 0 rfl hc rfl (aN _ _) fun y2=>?_
   refine cG (pLeadN x2 D hDn hD0) fun y3=>?_
   refine cG (c1 vt y3) fun y4=>?_
   refine cG (dN 1 qE qE) fun y5=>?_
   refine mE (size:=2) (f:=J) (z:=z0) (e:=26) (cn 1) qE (aC qM) rfl fun y6=>?_
   have c2':=c2 y6 y2
   rw [show ((R.length - D.length:Nat):Int)=((R.map cn).length:Int) - (D.length:Int) by omega] at c2'
   refine cG c2' fun y7=>?_
   refine lit2_L (size:=1) (f:=V) (z:=[]) (e:=23) ((prai (ld D) 0 T).map cn) ((prai (ld R) (R.length - D.length) [1]).map cn) qE (aC qM) (aC qM) rfl rfl fun y8=>?_
   refine cG (c3 y8) fun y9=>?_
   refine aY [0,1,4,5,6,2,3,7,8,9] [0,1,2,3,4,5,6,7,8,9] qK qK ?_
   refine aF (d:=zd (ld R)) 0 rfl hc rfl (aN _ _) fun y10=>?_
   refine cG (pLeadN x2 D hDn hD0) fun y11=>?_
   refine dK (c4 vr y11) (Seals.L 1 rfl hvr) qS ?_
   rintro y12 _ _ ⟨rfl,rfl⟩
   have c5':=c5 x2 y10
   rw [show ((R.length - D.length:Nat):Int)=((R.map cn).length:Int) - (D.length:Int) by omega] at c5'
   refine cG c5' fun y13=>?_
   refine cF (c6 y12 y13) ?_
   rintro y14 _ _ ⟨hy14,rfl,rfl⟩
   refine ar rfl qI ?_
   refine aU (y9,y14,rT D T R,rR D R,n - 1) ⟨hy14,tn,rn,by simp only; omega,by simp only; omega,lT,by simp only; omega,z1,z2,fun y=>by simp only; rw [hn1]; exact s1 y⟩ (by simp only; omega) qF ?_
   exact aA (aW 1 _ _) (aB qS)
  ·have hlt:R.length<D.length:=by omega
   refine aO (X:=Value×Value×List Int×List Int×Nat) (fun x=>([(7,x.2.1),(8,x2),(10,x.1),(61,.int .i64 (n:Nat)),(62,.int .i64 (x.2.2.2.2:Nat))],[jY 2 J z0 x.2.1 (x.2.2.2.1.map cn)],[(x2,vd D),(x.1,vd x.2.2.1)]))
    (fun x=>isSl x.2.1∧Nm x.2.2.1∧Nm x.2.2.2.1∧x.2.2.2.2≤n∧x.2.2.2.1.length<D.length∧x.2.2.1.length≤p.length∧x.2.2.2.1.length≤p.length∧szR (re k (A.length+1 - D.length - n+x.2.2.2.2)) x.2.2.1∧szR (re k (A.length+1 - D.length - n+x.2.2.2.2)) x.2.2.2.1 ∧
     ∀ y,ld D^(A.length+1 - D.length - n+x.2.2.2.2)*pev A y=pev D y*pev x.2.2.1 y+pev x.2.2.2.1 y) (fun x=>n - x.2.2.2.2) rfl ?_ ?_
   ·exact aU (vt,vr,T,R,0) ⟨hvr,g1,g2,Nat.zero_le _,hlt,g5,g6,g7,g8,g9⟩ trivial qF (aB qS)
   ·rintro ⟨vt,vr,T,R,i⟩ ⟨hvr,g1,g2,g3',g4,g5,g6,g7,g8,g9⟩
    simp only at hvr g1 g2 g3' g4 g5 g6 g7 g8 g9 ⊢
    refine aD _ rfl (fun hlt=>?_) (fun hlt=>?_)
    ·have hin:i<n:=by omega
     have s1:=rest_more g9
     have hre:re k (A.length+1 - D.length - n+i)+k+1≤re k (p.length+1):=by
      rw [← re_succ]; exact re_mono qN
     have hre2:re k (A.length+1 - D.length - n+i)+k≤re k (A.length+1 - D.length - n+(i+1)):=by
      have:=re_succ k (A.length+1 - D.length - n+i)
      rw [show A.length+1 - D.length - n+i+1=A.length+1 - D.length - n+(i+1) by omega] at this
      omega
     have z1:=(g7.prai hld 0).mono hre2
     have z2:=(g8.prai hld 0).mono hre2
     have l1:=iV (ld D) 0 T
     have l2:=iV (ld D) 0 R
     have c1:=fun u u'=>mN u u' T (ld D) 0 _ k g7 hld qN qN qN
     have c4:=fun u u'=>pRaisedOT u u' R (ld D) 0 _ k g8 hld qN qN qN
     refine cG (pLeadN x2 D hDn hD0) fun y3=>?_
     refine cG (c1 vt y3) fun y4=>?_
     refine cG (pLeadN x2 D hDn hD0) fun y5=>?_
     refine dK (c4 vr y5) (Seals.L 0 rfl hvr) qS ?_
     rintro y6 _ _ ⟨hy6,rfl,rfl⟩
     refine ar rfl qI ?_
     refine aU (y4,y6,prai (ld D) 0 T,prai (ld D) 0 R,i+1) ⟨hy6,prai_nm _ _ _,prai_nm _ _ _,hin,by simp only; omega,by simp only; omega,by simp only; omega,z1,z2,fun y=>s1 y⟩ (by simp only; omega) qF (aB qS)
    ·have hin:i=n:=by omega
     have q4:=g4
     subst hin
     have hj:A.length+1 - D.length - i+i=A.length+1 - D.length:=by omega
     rw [hj] at g7 g8 g9
     refine fin ⟨vt,vr,T,R,hvr,rfl,?_,rfl⟩ (aB qS)
     rw [if_neg qN]
     exact ⟨rfl,hspec T R g1 g2 q4 g9,g7,g8,g5,g6⟩
theorem pRest_meets (v w:Value) (p q:Row) (k:Nat) (hp:Fit k p) (hq:Fit k q) (h1k:1≤k) (hk:re k (p.length+1)≤137438953472) (lp:p.length≤536870912) (lq:q.length≤536870912) :
  Meets Tryz.prog 165 [v,w] [(v,V p),(w,V q)] (fun r os fs=>os=[]∧∃ a b T R,(if dg (vv q)=0 then r=.tuple #[a,b,.int .i64 2]∧T=[]∧R=[] else r=.tuple #[a,b,.int .i64 0]∧m6 (vv p) (vv q) T R∧szR (re k (dg (vv p)+1 - dg (vv q))) T∧szR (re k (dg (vv p)+1 - dg (vv q))) R∧T.length≤p.length∧R.length≤p.length) ∧
   fs=[(a,vd T),(b,vd R)]) :=
 (sY v w p q k hp hq h1k hk lp lq).closed fun r os fs ⟨a,b,T,R,h1,h2,h3,h4⟩=>⟨_,_,⟨rfl,a,b,T,R,h3,rfl⟩,by
  subst h2 h4
  exact aA (dC h1) (aB qS)⟩
theorem pRestT (v w:Value) (p q:List Int) (k:Nat) (hp:szR k p) (hq:szR k q) (h1k:1≤k) (hk:re k (p.length+1)≤137438953472) (lp:p.length≤536870912) (lq:q.length≤536870912) :
  Meets Tryz.prog 165 [v,w] [(v,vd p),(w,vd q)] (fun r os fs=>os=[]∧∃ a b T R,(if dg q=0 then r=.tuple #[a,b,.int .i64 2]∧T=[]∧R=[] else r=.tuple #[a,b,.int .i64 0]∧m6 p q T R∧szR (re k (dg p+1 - dg q)) T∧szR (re k (dg p+1 - dg q)) R∧T.length≤p.length∧R.length≤p.length) ∧
   fs=[(a,vd T),(b,vd R)]):=by
 have h:=pRest_meets v w (p.map cn) (q.map cn) k hp.fit hq.fit h1k (by rw [List.length_map]; exact hk) (by rw [List.length_map]; exact lp) (by rw [List.length_map]; exact lq)
 rw [fR,fR,List.length_map] at h
 exact h
theorem pRestOT (v w:Value) (p q:List Int) (k:Nat) (hp:szR k p) (hq:szR k q) (h1k:1≤k) (hk:re k (p.length+1)≤137438953472) (lp:p.length≤536870912) (lq:q.length≤536870912) :
  Meets Tryz.prog 165 [v,w] [(v,vd p),(w,vd q)] (fun r os fs=>∃ a b T R,isSl b∧os=[jY 2 J z0 b (R.map cn)]∧(if dg q=0 then r=.tuple #[a,b,.int .i64 2]∧T=[]∧R=[] else r=.tuple #[a,b,.int .i64 0]∧m6 p q T R∧szR (re k (dg p+1 - dg q)) T∧szR (re k (dg p+1 - dg q)) R∧T.length≤p.length∧R.length≤p.length) ∧
   fs=[(a,vd T)]):=by
 have h:=sY v w (p.map cn) (q.map cn) k hp.fit hq.fit h1k (by rw [List.length_map]; exact hk) (by rw [List.length_map]; exact lp) (by rw [List.length_map]; exact lq)
 rw [fR,fR,List.length_map] at h
 exact h
theorem re_one (k j:Nat):re k j+1=(k+1)*(j+1):=by
 unfold re; grind
theorem two_three (d:Nat):d+2≤2*3^d:=by
 induction d with
 | zero=>decide
 | succ d ih=>rw [Nat.pow_succ]; omega
theorem szR.pprim {k:Nat} {l:List Int} (h:szR k l):szR k (pprim l):=szR.nrm fun x hx=>by
 obtain ⟨y,hy,rfl⟩:=List.mem_map.1 hx
 exact pW (h.nrm y hy)
theorem pprim_len (l:List Int):(pprim l).length≤dg l:=Nat.le_trans (cA _) (by rw [List.length_map]; exact Nat.le_refl _)
def ge (k s d:Nat):Nat:=(k+1)*(2^s*3^d)
theorem ge_step {e k s d j δ:Nat} (h:e+1≤ge k s d) (hj:j+1≤δ+2):re e j+1≤ge k (s+1) (d+δ):=by
 rw [re_one]
 have h1:(e+1)*(j+1)≤ge k s d*(2*3^δ):=Nat.mul_le_mul h (Nat.le_trans hj (two_three δ))
 have h2:ge k s d*(2*3^δ)=ge k (s+1) (d+δ):=by
  unfold ge
  rw [Nat.pow_succ,Nat.pow_add,Nat.mul_assoc]
  congr 1
  rw [Nat.mul_assoc,Nat.mul_assoc,← Nat.mul_assoc (3^d),Nat.mul_comm (3^d) 2,Nat.mul_assoc]
 omega
theorem ge_mono {k s s' d d':Nat} (hs:s≤s') (hd:d≤d'):ge k s d≤ge k s' d' :=
 Nat.mul_le_mul_left _ (Nat.mul_le_mul (Nat.pow_le_pow_right qE hs) (Nat.pow_le_pow_right qE hd))
theorem three_two:∀ {n:Nat},1≤n→n+2≤3^n
 | 1,_=>by decide
 | n+2,_=>by
  have:=three_two (n:=n+1) qN
  rw [Nat.pow_succ]; omega
theorem ge_three (k s d j:Nat):ge k s d*3^j=ge k s (d+j):=by unfold ge; rw [Nat.pow_add]; grind
theorem ge_turn {k n:Nat} (h:1≤n):ge k n (n - 1)≤ge k (n - 1) n:=by
 obtain ⟨m,rfl⟩:∃ m,n=m+1:=⟨n - 1,by omega⟩
 rw [Nat.add_sub_cancel]
 unfold ge
 refine Nat.mul_le_mul_left _ ?_
 rw [Nat.pow_succ,Nat.pow_succ,show 2^m*2*3^m=2^m*(3^m*2) by grind]
 exact Nat.mul_le_mul_left _ (Nat.mul_le_mul_left _ qE)
theorem ge_old (k n:Nat):ge k (n - 1) n+k≤ge k n n*(n+2):=by
 have h1:ge k (n - 1) n≤ge k n n:=ge_mono qN (Nat.le_refl _)
 have h2:k+1≤ge k n n:=by
  unfold ge
  exact Nat.le_mul_of_pos_right _ (Nat.mul_pos (Nat.pow_pos qE) (Nat.pow_pos qE))
 have h3:ge k n n*2≤ge k n n*(n+2):=Nat.mul_le_mul_left _ qN
 omega
theorem pGcdN_meets (v w:Value) (p q:Row) (k n:Nat) (hp:Fit k p) (hq:Fit k q) (h1k:1≤k) (lp:p.length≤n) (lq:q.length≤n) (hn:n≤536870912) (hk:ge k (n - 1) n+k≤137438953472) :
  Meets Tryz.prog 181 [v,w] [(v,V p),(w,V q)] (fun r os fs=>os=[]∧∃ G,Nm G∧Gc G (vv p) (vv q)∧fs=[(r,vd G)]):=by
 have hge1:k+1≤ge k (n - 1) n:=by
  unfold ge
  exact Nat.le_mul_of_pos_right _ (Nat.mul_pos (Nat.pow_pos qE) (Nat.pow_pos qE))
 have hcs1:sz (cE (vv p):Nat) k:=pP hp.szR
 have hcs2:sz (cE (vv q):Nat) k:=pP hq.szR
 have sP:=hp.szR.pprim
 have sQ:=hq.szR.pprim
 have dP:dg (vv p)≤n:=Nat.le_trans (dY _) (by rw [cV]; exact lp)
 have dQ:dg (vv q)≤n:=Nat.le_trans (dY _) (by rw [cV]; exact lq)
 have eP:(pprim (vv p)).length=dg (vv p):=by rw [← eH (mL _),dO]
 have eQ:(pprim (vv q)).length=dg (vv q):=by rw [← eH (mL _),dO]
 have hcg:sz ((Nat.gcd (cE (vv p)) (cE (vv q)):Nat):Int) k:=by
  by_cases e:cE (vv p)=0
  ·rw [e,Nat.gcd_zero_left]; exact hcs2
  ·unfold sz at hcs1 ⊢
   rw [Int.natAbs_natCast] at hcs1 ⊢
   exact Nat.lt_of_le_of_lt (Nat.gcd_le_left _ (Nat.pos_of_ne_zero e)) hcs1
 have hgc:=fun u u'=>zGcdZ u u' _ _ k k hcs1 hcs2 qN qN
 simp only [Int.natAbs_natCast] at hgc
 refine mV Tryz.func181 ?_
 refine cG (o5 v p k hp qN) fun x1=>?_
 refine cG (o5 w q k hq qN) fun x2=>?_
 refine cG (hgc x1 x2) fun x3=>?_
 refine aM (d:=I false []) fun c hc=>?_
 refine aI (d:=zd (Nat.gcd (cE (vv p)) (cE (vv q)):Nat)) 0 rfl hc rfl qK ?_ ?_; exact aC qM
 refine cG (iE v p k hp qN qN) fun x4=>?_
 refine cG (iE w q k hq qN qN) fun x5=>?_
 refine aO (X:=Value×Value×List Int×List Int×Nat×Nat×Nat) (fun x=>([(5,c),(6,x.1),(7,x.2.1)],[bE c 2 1 (fun _=>zd (Nat.gcd (cE (vv p)) (cE (vv q)):Nat))],[(x.1,vd x.2.2.1),(x.2.1,vd x.2.2.2.1)]))
  (fun x=>Nm x.2.2.1∧Nm x.2.2.2.1∧x.2.2.2.1.length+x.2.2.2.2.1≤n∧x.2.2.2.2.2.1+max x.2.2.1.length x.2.2.2.1.length≤n∧szR x.2.2.2.2.2.2 x.2.2.1∧szR x.2.2.2.2.2.2 x.2.2.2.1∧1≤x.2.2.2.2.2.2∧(x.2.2.2.2.2.2+1≤ge k x.2.2.2.2.1 x.2.2.2.2.2.1∧x.2.2.2.2.2.2+1≤ge k (n - 1) n) ∧
   (0<dg x.2.2.1→cE x.2.2.1=1∧0<ld x.2.2.1)∧(0<dg x.2.2.2.1→cE x.2.2.2.1=1∧0<ld x.2.2.2.1)∧(dg x.2.2.1=0∧dg x.2.2.2.1=0→dg (vv p)=0∧dg (vv q)=0) ∧
   (∀ h,cE h=1→(Dv h x.2.2.1∧Dv h x.2.2.2.1↔Dv h (pprim (vv p))∧Dv h (pprim (vv q))))) (fun x=>x.2.2.2.1.length) rfl ?_ ?_
 ·refine aU (x4,x5,pprim (vv p),pprim (vv q),0,0,k) ⟨mL _,mL _,by simp only; omega,by simp only; omega,sP,sQ,h1k,⟨by simp [ge],hge1⟩,fun h=>?_,fun h=>?_,fun h=>?_,fun _ _=>Iff.rfl⟩ trivial qF (aA (bJ rfl) (aB qS))
  ·simp only [dO] at h; exact ⟨fD h,oP h⟩
  ·simp only [dO] at h; exact ⟨fD h,oP h⟩
  ·simp only [dO] at h; exact h
 ·rintro ⟨va,vb,A,B,s,d,e⟩ ⟨g1,g2,g3,g4,g5,g6,g7,⟨g8,g8'⟩,g9,g10,g11,g12⟩
  simp only at g1 g2 g3 g4 g5 g6 g7 g8 g8' g9 g10 g11 g12 ⊢
  have hed:e+k+1≤137438953472:=by omega
  refine fV qM ?_
  refine aD _ rfl (fun hgt=>?_) (fun hgt=>?_)
  ·have hB:0<dg B:=by rw [eH g2]; omega
   have hrb:re e (A.length+1)≤137438953472:=by
    have h1:=re_one e (A.length+1)
    have h2:(e+1)*(A.length+1+1)≤ge k s d*3^(max A.length B.length):=Nat.mul_le_mul g8 (Nat.le_trans qN (three_two qN))
    rw [ge_three] at h2
    have h3:=Nat.le_trans h2 (ge_mono (k:=k) (s':=n - 1) (d':=n) qN qN)
    omega
   have hrs:=pRestT va vb A B e g5 g6 g7 hrb qN qN
   simp only [if_neg (show ¬ dg B=0 by omega)] at hrs
   refine cF hrs ?_
   rintro _ _ _ ⟨rfl,a,b,T,R,⟨rfl,hsp,hT,hR,lT,lR⟩,rfl⟩
   have hst:=ge_step (j:=dg A+1 - dg B) (δ:=dg A - dg B) g8 qN
   have hRB:dg R<dg B:=hsp.low
   have hed2:re e (dg A+1 - dg B)+1≤ge k (n - 1) n:=Nat.le_trans hst (Nat.le_trans (ge_mono (s':=n) (d':=n - 1) qN (by rw [eH g1,eH g2]; omega)) (ge_turn qN))
   have hk0:ld B^(dg A+1 - dg B)≠0:=by
    have h0:=nY hB
    have:∀ m:Nat,ld B^m≠0:=fun m=>by
     induction m with
     | zero=>rw [Int.pow_zero]; omega
     | succ m ih=>rw [Int.pow_succ]; exact Int.mul_ne_zero ih h0
    exact this _
   have hge0:e≤re e (dg A+1 - dg B):=re_ge _ _
   have lR':(pprim R).length=dg R:=by rw [← eH (mL R),dO]
   have dA:=eH g1
   have dB:=eH g2
   refine cG (pPrimitiveT b R _ hR qN qN) fun y1=>?_
   refine aU (vb,y1,B,pprim R,s+1,d+(dg A - dg B),re e (dg A+1 - dg B)) ⟨g2,mL _,by simp only; omega,by simp only; omega,g6.mono hge0,hR.pprim,by simp only; omega,⟨hst,hed2⟩,g10,fun h=>?_,fun h=>by simp only at h; omega,fun h hh=>?_⟩ (by simp only; omega) qF (aA (bJ rfl) (aB qS))
   ·simp only [dO] at h; exact ⟨fD h,oP h⟩
   ·rw [← g12 h hh]
    exact (gcd_step hh hk0 hsp.eq).symm
  ·have hB:dg B=0:=by rw [eH g2]; omega
   have hend:=gcd_end (p:=vv p) (q:=vv q) (a:=A) g9 (fun h=>g11 ⟨h,hB⟩) fun h hh=>by
    rw [← g12 h hh]
    exact ⟨fun k=>⟨k,Dv.zero _ (cT.1 hB)⟩,fun k=>k.1⟩
   have hra:=fun u=>mN va u A _ 0 e k g5 hcg qN qN qN
   simp only [qA] at hra
   refine aF (d:=zd (Nat.gcd (cE (vv p)) (cE (vv q)):Nat)) 0 rfl hc rfl (aN _ _) fun y1=>?_
   refine cG (hra y1) fun r=>?_
   exact fin ⟨rfl,_,ptim_nm _ _,hend,rfl⟩ (dS (aB qS))
def syn (a:Int):List Int→List Int
 | []=>[]
 | [_]=>[]
 | _::d::l=>pev (d::l) a::syn a (d::l)
theorem syn_len (a:Int):∀ l:List Int,(syn a l).length=l.length - 1
 | []=>rfl
 | [_]=>rfl
 | _::d::l=>by
  have:=syn_len a (d::l)
  simp only [syn,List.length_cons] at this ⊢
  omega
theorem syn_ev (a x:Int):∀ l:List Int,pev l x=pev l a+(x - a)*pev (syn a l) x
 | []=>by simp [pev,syn]
 | [c]=>by simp [pev,syn]
 | c::d::l=>by
  have:=syn_ev a x (d::l)
  show c+x*pev (d::l) x=c+a*pev (d::l) a+(x - a)*(pev (d::l) a+x*pev (syn a (d::l)) x)
  rw [this]; grind
theorem syn_co (a:Int):∀ (l:List Int) (i:Nat),l.getD i 0=(if i=0 then pev l a else (syn a l).getD (i - 1) 0) - a*(syn a l).getD i 0
 | [],i=>by simp [pev,syn]
 | [c],i=>by cases i <;> simp [pev,syn]
 | c::d::l,0=>by
  show c=c+a*pev (d::l) a - a*pev (d::l) a
  omega
 | c::d::l,1=>by
  have:=syn_co a (d::l) 0
  simp only [if_true] at this
  show (d::l).getD 0 0=pev (d::l) a - a*(syn a (d::l)).getD 0 0
  exact this
 | c::d::l,i+2=>by
  have:=syn_co a (d::l) (i+1)
  rw [if_neg qN] at this
  show (d::l).getD (i+1) 0=(syn a (d::l)).getD i 0 - a*(syn a (d::l)).getD (i+1) 0
  exact this
theorem bnd:∀ (n:Nat) (P:List Int) (pts:Nat→Int) (A B:Nat),P.length≤n+1→(∀ i,i≤n→(pts i).natAbs≤A)→(∀ i j,i≤n→j≤n→i≠j→pts i≠pts j)→(∀ i,i≤n→(pev P (pts i)).natAbs≤B) →
  ∀ j,(P.getD j 0).natAbs≤B*(2*A+3)^n
 | 0,P,pts,A,B,hl,_,_,hv,j=>by
  have h0:=hv 0 (Nat.le_refl _)
  match P,hl with
  | [],_=>simp
  | [c],_ =>
   simp only [pev] at h0
   cases j with
   | zero=>simp at h0 ⊢; exact h0
   | succ j=>simp
  | _::_::_,h=>simp at h
 | n+1,P,pts,A,B,hl,hA,hi,hv,j=>by
  have ih:=bnd n (syn (pts (n+1)) P) pts A (2*B) (by rw [syn_len]; omega) (fun i h=>hA i qN) (fun i j h1 h2=>hi i j qN qN) fun i h=>by
   have h1:=syn_ev (pts (n+1)) (pts i) P
   have h2:=hv i qN
   have h3:=hv (n+1) (Nat.le_refl _)
   have h4:=hi i (n+1) qN (Nat.le_refl _) qN
   have h5:((pts i - pts (n+1))*pev (syn (pts (n+1)) P) (pts i)).natAbs≤2*B:=by
    have:(pts i - pts (n+1))*pev (syn (pts (n+1)) P) (pts i)=pev P (pts i) - pev P (pts (n+1)):=by omega
    rw [this]
    have:=Int.natAbs_sub_le (pev P (pts i)) (pev P (pts (n+1)))
    omega
   rw [Int.natAbs_mul] at h5
   have h6:1≤(pts i - pts (n+1)).natAbs:=by omega
   exact Nat.le_trans (Nat.le_mul_of_pos_left _ h6) h5
  have hp:1≤(2*A+3)^n:=Nat.pow_pos qN
  have hq:∀ m,((syn (pts (n+1)) P).getD m 0).natAbs≤2*B*(2*A+3)^n:=ih
  have h1:=syn_co (pts (n+1)) P j
  have h2:(pts (n+1)*(syn (pts (n+1)) P).getD j 0).natAbs≤A*(2*B*(2*A+3)^n):=by
   rw [Int.natAbs_mul]
   exact Nat.mul_le_mul (hA _ (Nat.le_refl _)) (hq j)
  have h3:(if j=0 then pev P (pts (n+1)) else (syn (pts (n+1)) P).getD (j - 1) 0).natAbs≤B+2*B*(2*A+3)^n:=by
   split
   ·exact Nat.le_trans (hv _ (Nat.le_refl _)) (Nat.le_add_right _ _)
   ·exact Nat.le_trans (hq _) (Nat.le_add_left _ _)
  have h4:(P.getD j 0).natAbs≤B+2*B*(2*A+3)^n+A*(2*B*(2*A+3)^n):=by
   rw [h1]
   exact Nat.le_trans (Int.natAbs_sub_le _ _) (Nat.add_le_add h3 h2)
  refine Nat.le_trans h4 ?_
  have h5:B≤B*(2*A+3)^n:=Nat.le_mul_of_pos_right _ hp
  have h6:B*(2*A+3)^(n+1)=B*(2*A+3)^n+(2*B*(2*A+3)^n+A*(2*B*(2*A+3)^n)):=by
   rw [Nat.pow_succ]; grind
  omega
theorem ev_ne {H:Nat} {x:Int} (hx:H<x.natAbs):∀ {l:List Int},(∀ i,(l.getD i 0).natAbs≤H)→pev l x=0→∀ i,l.getD i 0=0
 | [],_,_,i=>by simp
 | c::l,h,e,i=>by
  simp only [pev] at e
  have h0:c=0:=by
   have:=h 0
   simp only [List.getD_cons_zero] at this
   exact pY (x:=x) (k := - pev l x) (by rw [Int.mul_neg]; omega) qN
  have h1:pev l x=0:=by
   rw [h0] at e
   rcases Int.mul_eq_zero.1 (show x*pev l x=0 by omega) with h2 | h2
   ·omega
   ·exact h2
  cases i with
  | zero=>simpa using h0
  | succ i=>simpa using ev_ne hx (fun i=>by have:=h (i+1); simpa using this) h1 i
theorem dv_bnd {s w:List Int} {H B n:Nat} (h:Dv s w) (hw:0<dg w) (hH:∀ i,(w.getD i 0).natAbs≤H) (hs:s.length≤n+1) (hB:∀ i,i≤n→(pev w (H+1+i:Nat)).natAbs≤B) (j:Nat) :
  (s.getD j 0).natAbs≤B*(2*(H+1+n)+3)^n:=by
 refine bnd n s (fun i=>((H+1+i:Nat):Int)) (H+1+n) B hs (fun i hi=>by simp only [Int.natAbs_natCast]; omega) (fun i j _ _ hne he=>hne qN) (fun i hi=>?_) j
 obtain ⟨u,hu⟩:=h
 have h1:=hB i hi
 have h2:pev w (H+1+i:Nat)≠0:=fun e=>by
  have:=ev_ne (H:=H) (x:=((H+1+i:Nat):Int)) (by rw [Int.natAbs_natCast]; omega) hH e
  have:dg w≤0:=jK.2 fun i _=>this i
  omega
 rw [hu,Int.natAbs_mul] at h1
 have h3:1≤(pev u (H+1+i:Nat)).natAbs:=by
  rw [hu] at h2
  have:pev u (H+1+i:Nat)≠0:=fun e=>h2 (by rw [e]; simp)
  omega
 exact Nat.le_trans (Nat.le_mul_of_pos_right _ h3) h1
def dvk (k N:Nat):Nat:=k+2*(N*(k+2))+1
theorem dv_szR {s w:List Int} {k N:Nat} (h:Dv s w) (hw:0<dg w) (hk:szR k w) (ns:Nm s) (hN:dg w≤N) (h32:N≤4294967296):szR (dvk k N) s:=by
 have hs0:=h.deg hw
 have hls:s.length=dg s:=(eH ns).symm
 have hP:0<18446744073709551616^k:=Nat.pow_pos qE
 have hP1:18446744073709551616^(k+1)=18446744073709551616^k*18446744073709551616:=Nat.pow_succ _ _
 have hP2:18446744073709551616^(k+2)=18446744073709551616^k*18446744073709551616*18446744073709551616:=by rw [Nat.pow_succ,hP1]
 have hB:∀ i,i≤N→(pev w (18446744073709551616^k+1+i:Nat)).natAbs≤18446744073709551616^(k+N*(k+2)):=fun i hi=>by
  have hx:sz ((18446744073709551616^k+1+i:Nat):Int) (k+1):=by
   unfold sz
   rw [Int.natAbs_natCast,hP1]
   omega
  have h1:=ev_sz hk.nrm hx
  rw [dL] at h1
  have h2:k+(nrm w).length*(k+1+1)≤k+N*(k+2):=Nat.add_le_add_left (Nat.mul_le_mul_right _ hN) _
  exact Nat.le_of_lt (h1.mono h2)
 have hb:=dv_bnd (n:=dg s - 1) h hw (fun i=>Nat.le_of_lt (hk.get i)) qN fun i hi=>hB i qN
 intro x hx
 obtain ⟨j,hj,rfl⟩:=List.mem_iff_getElem.1 hx
 have h1:=hb j
 rw [gE,List.getElem?_eq_getElem hj] at h1
 have h2:2*(18446744073709551616^k+1+(dg s - 1))+3≤18446744073709551616^(k+2):=by
  rw [hP2]; omega
 have h3:(2*(18446744073709551616^k+1+(dg s - 1))+3)^(dg s - 1)≤18446744073709551616^(N*(k+2)):=by
  refine Nat.le_trans (Nat.pow_le_pow_left h2 _) ?_
  rw [← Nat.pow_mul]
  refine Nat.pow_le_pow_right qE ?_
  rw [Nat.mul_comm]
  exact Nat.mul_le_mul_right _ qN
 unfold sz
 have h4:18446744073709551616^(k+N*(k+2))*18446744073709551616^(N*(k+2))=18446744073709551616^(k+2*(N*(k+2))):=by
  rw [← Nat.pow_add]; congr 1; omega
 have h5:(s[j]).natAbs≤18446744073709551616^(k+2*(N*(k+2))):=by
  rw [← h4]
  exact Nat.le_trans h1 (Nat.mul_le_mul (Nat.le_refl _) h3)
 refine Nat.lt_of_le_of_lt h5 ?_
 unfold dvk
 exact Nat.pow_lt_pow_right qE qN
theorem div_dg {R D:List Int} {c:Int} (hD:0<dg D) (hR:dg D≤dg R) (hc:c*ld D=ld R):dg (psub R (prai c (dg R - dg D) D))<dg R:=by
 have:dg (psub R (prai c (dg R - dg D) D))≤dg R - 1:=jK.2 fun i hi=>by
  rw [co_psub,sH,if_neg qN]
  by_cases h:i=dg R - 1
  ·rw [h,show dg R - 1 - (dg R - dg D)=dg D - 1 by omega]
   show ld R - c*ld D=0
   omega
  ·rw [jK.1 (Nat.le_refl (dg R)) i qN,jK.1 (Nat.le_refl (dg D)) (i - (dg R - dg D)) qN]; simp
 omega
structure oK (p q t:List Int) (e:Int):Prop where
 tn:Nm t
 zero:dg q=0→e=2∧t=[]
 ok:0<dg q→Dv q p→e=0∧∀ x,pev p x=pev q x*pev t x
 no:0<dg q→¬ Dv q p→e=11∧t=[]
def put (f:Nat→Int) (s:Nat) (c:Int):Nat→Int:=fun y=>if y=s then c else f y
theorem ev_put {N s:Nat} {f:Nat→Int} (hs:s<N) (h0:f s=0) (c x:Int):pev (lst N (put f s c)) x=pev (lst N f) x+c*x^s:=by
 have e:∀ y,put f s c y=f y+(if s≤y then c*[1].getD (y - s) 0 else 0):=fun y=>by
  unfold put
  by_cases h:y=s
  ·subst h
   rw [if_pos rfl,if_pos (Nat.le_refl _),Nat.sub_self,h0]; simp
  ·rw [if_neg h]
   split
   ·rw [fU (l:=[1]) (by simp; omega)]; simp
   ·simp
 have e2:lst N (put f s c)=lst N fun y=>f y+(if s≤y then c*[1].getD (y - s) 0 else 0):=nX fun y _=>e y
 rw [e2,mG,ev_shifted [1] s N (by simp; omega)]
 simp [pev]
theorem div_step {P D R:List Int} {f:Nat→Int} {N:Nat} {c:Int} (hs:R.length - D.length<N) (h0:f (R.length - D.length)=0) (e:∀ x,pev P x=pev D x*pev (lst N f) x+pev R x) :
  ∀ x,pev P x=pev D x*pev (lst N (put f (R.length - D.length) c)) x+pev (psub R (prai c (R.length - D.length) D)) x:=fun x=>by
 rw [ev_put hs h0,iC,jA,e]; grind
theorem div_no {P D R T:List Int} (e:∀ x,pev P x=pev D x*pev T x+pev R x) (h:Dv D P):Dv D R :=
 h.sub (c:=pmul D T) ⟨T,fun x=>bN _ _ _⟩ fun x=>by rw [e,bN]; omega
theorem ld_dvd {D R:List Int} (h:Dv D R) (hR:0<dg R):ld D ∣ ld R:=by
 obtain ⟨u,hu⟩:=h
 have hd:=(show Dv D R from ⟨u,hu⟩).deg hR
 have hu0:0<dg u:=pA fun e=>by
  have:=(cT (l:=R)).2 fun x=>by rw [hu,e]; simp
  omega
 exact ⟨ld u,(qQ hu hd.1 hu0).2⟩
theorem pDivideO_meets (v w:Value) (p q:Row) (k l:Nat) (hp:Fit k p) (hq:Fit l q) (hk:k+(p.length+1)*(l+1)≤137438953472) (lp:p.length≤536870912) (lq:q.length≤536870912) :
  Meets Tryz.prog 80 [v,w] [(v,V p),(w,V q)] (fun r os fs=>∃ a t e,r=.tuple #[a,.int .i64 e]∧oK (vv p) (vv q) t e∧isSl a∧szR (k+(p.length+1)*(l+1)) t∧os=[jY 2 J z0 a (t.map cn)]∧fs=[]):=by
 have hm1:(p.length+1)*(l+1)=p.length*(l+1)+(l+1):=Nat.succ_mul _ _
 have n1:=fH v p (hp.mono qN) qN
 have n2:=fH w q (hq.mono qN) qN
 have sP:=hp.szR.nrm
 have sD:=hq.szR.nrm
 have la:(nrm (vv p)).length≤p.length:=Nat.le_trans (cA _) (by rw [cV]; exact Nat.le_refl _)
 have lb:(nrm (vv q)).length≤q.length:=Nat.le_trans (cA _) (by rw [cV]; exact Nat.le_refl _)
 have hPn:Nm (nrm (vv p)):=gZ _
 have hDn:Nm (nrm (vv q)):=gZ _
 have hdq:dg (vv q)=(nrm (vv q)).length:=rfl
 have hdv:Dv (vv q) (vv p)→Dv (nrm (vv q)) (nrm (vv p)):=fun h=>h.ext (fun x=>(dL _ x).symm) fun x=>(dL _ x).symm
 have hbad:0<(nrm (vv q)).length→¬ Dv (nrm (vv q)) (nrm (vv p))→oK (vv p) (vv q) [] 11:=fun h0 hn=>⟨rfl,fun h=>by omega,fun _ h=>(hn (hdv h)).elim,fun _ _=>⟨rfl,rfl⟩⟩
 have hgood:∀ T,(0<(nrm (vv q)).length)→(∀ x,pev (nrm (vv p)) x=pev (nrm (vv q)) x*pev T x)→oK (vv p) (vv q) (nrm T) 0:=fun T h0 hn=>⟨gZ _,fun h=>by omega,fun _ _=>⟨rfl,fun x=>by rw [dL,← dL (vv p),← dL (vv q)]; exact hn x⟩,fun _ h=>(h ⟨T,fun x=>by rw [← dL (vv p),← dL (vv q)]; exact hn x⟩).elim⟩
 have hzero:(nrm (vv q)).length=0→oK (vv p) (vv q) [] 2:=fun h0=>⟨rfl,fun _=>⟨rfl,rfl⟩,fun h=>by omega,fun h=>by omega⟩
 generalize hA:nrm (vv p)=A at *
 generalize hB:nrm (vv q)=D at *
 generalize hE:k+(p.length+1)*(l+1)=E at *
 refine mV Tryz.func80 ?_
 refine cG n1 fun x1=>?_
 refine cG n2 fun x2=>?_
 refine fV qM ?_
 refine aD _ rfl (fun hz=>?_) (fun hz=>?_)
 ·exact fin ⟨_,[],2,rfl,hzero qN,⟨_,_,_,rfl⟩,fun x hx=>by simp at hx,rfl,rfl⟩ (aA (aH _ _) (cB _ _ 2 _))
 have hD0:0<D.length:=by omega
 have dD:=eH hDn
 have hldD:ld D≠0:=nY qN
 refine fV qM ?_
 refine fV qM ?_
 refine ar rfl qI ?_
 refine ar rfl qI ?_
 refine kV ?_
 refine eF (t:=23) (d:=I false []) (A.length+1 - D.length) qN qN qN qN fun u hu=>?_
 generalize hN:A.length+1 - D.length=N
 refine aO (X:=Value×List Int×(Nat→Int)×Nat) (fun x=>([(6,x.1),(7,x2),(8,u)],[bE u 2 N (fun y=>zd (x.2.2.1 y))],[(x2,vd D),(x.1,vd x.2.1)]))
  (fun x=>Nm x.2.1∧x.2.1.length+x.2.2.2≤A.length∧szR (k+x.2.2.2*(l+1)) x.2.1∧(∀ y,sz (x.2.2.1 y) E)∧(∀ y,y+D.length≤x.2.1.length→x.2.2.1 y=0)∧∀ x',pev A x'=pev D x'*pev (lst N x.2.2.1) x'+pev x.2.1 x') (fun x=>x.2.1.length) rfl ?_ ?_
 ·refine aU (x1,A,fun _=>0,0) ⟨hPn,by simp only; omega,by simp only [Nat.zero_mul,Nat.add_zero]; exact sP,fun _=>jZ _,fun _ _=>rfl,fun x=>by simp only [pN]; omega⟩ trivial qF (aA (Seals.own_cong (os:=[_]) 0 (fun _=>zd 0) rfl rfl fun y _=>uF) (aB qS))
 ·rintro ⟨vr,R,f,j⟩ ⟨g1,g2,g3,g4,g5,g6⟩
  simp only at g1 g2 g3 g4 g5 g6 ⊢
  have dR:=eH g1
  refine fV qM ?_
  refine fV qM ?_
  refine aD _ rfl (fun hge=>?_) (fun hge=>?_)
  ·have hge':D.length≤R.length:=by omega
   have hsN:R.length - D.length<N:=by omega
   have hj1:(j+1)*(l+1)≤(p.length+1)*(l+1):=Nat.mul_le_mul_right _ qN
   have hj2:(j+1)*(l+1)=j*(l+1)+(l+1):=Nat.succ_mul _ _
   have hlR:sz (ld R) (k+j*(l+1)):=g3.get _
   have hlD:sz (ld D) l:=sD.get _
   have hlc:sz (ld R/ld D) (k+j*(l+1)):=pW hlR
   have hlm:sz (ld R%ld D) l:=by
    have h1:=Int.emod_nonneg (ld R) hldD
    have h2:=Int.emod_lt (ld R) hldD
    unfold sz at hlD ⊢
    omega
   have hst:=div_step (c:=ld R/ld D) hsN (g5 _ qN) g6
   have c5:=fun u' u''=>mN u' u'' D (ld R/ld D) (R.length - D.length) l _ sD hlc qN qN qN
   have s5:szR (k+j*(l+1)+l) (prai (ld R/ld D) (R.length - D.length) D):=by
    have:=sD.prai hlc (R.length - D.length)
    rwa [Nat.add_comm] at this
   have c6:=fun u' u''=>pSubT u' u'' R (prai (ld R/ld D) (R.length - D.length) D) _ (g3.mono (Nat.le_add_right _ l)) s5 qN qN (by have:=iV (ld R/ld D) (R.length - D.length) D; omega)
   have z6:szR (k+(j+1)*(l+1)) (psub R (prai (ld R/ld D) (R.length - D.length) D)):=((g3.mono (Nat.le_add_right _ l)).psub s5).mono qN
   have hnd:ld R%ld D≠0→¬ Dv D A:=fun h hd=>h (Int.emod_eq_zero_of_dvd (ld_dvd (div_no g6 hd) qN))
   have hdg:ld R%ld D=0→(psub R (prai (ld R/ld D) (R.length - D.length) D)).length<R.length:=fun h=>by
    have:=div_dg (R:=R) (D:=D) (c:=ld R/ld D) qN qN (Int.ediv_mul_cancel (Int.dvd_of_emod_eq_zero h))
    rw [dR,dD,eH (uZ _ _)] at this
    exact this
   have hrn:Nm (psub R (prai (ld R/ld D) (R.length - D.length) D)):=uZ _ _
   have hpf:∀ y,sz (put f (R.length - D.length) (ld R/ld D) y) E:=fun y=>by
    unfold put; split
    ·exact hlc.mono qN
    ·exact g4 y
   have hup:∀ y,upd (fun y=>zd (f y)) (R.length - D.length) (zd (ld R/ld D)) y=zd (put f (R.length - D.length) (ld R/ld D) y):=fun y =>
    upd_zd (G:=f) (H:=put f (R.length - D.length) (ld R/ld D)) (by unfold put; rw [if_pos rfl]) (fun y hy=>by unfold put; rw [if_neg hy]) y
   have hcast:((R.length - D.length:Nat):Int)=(R.length:Int) - (D.length:Int):=by omega
   have hput:∀ y,y<R.length - D.length→put f (R.length - D.length) (ld R/ld D) y=f y:=fun y hy=>by unfold put; rw [if_neg qN]
   generalize hR':psub R (prai (ld R/ld D) (R.length - D.length) D)=R' at *
   generalize hf':put f (R.length - D.length) (ld R/ld D)=f' at *
   refine fV qM ?_
   refine fV qM ?_
   refine ar rfl qI ?_
   refine cG (pLeadN vr R g1 qN) fun y1=>?_
   refine cG (pLeadN x2 D hDn hD0) fun y2=>?_
   refine cF (gK y1 y2 _ _ _ _ hlR hlD qN qN hldD) ?_
   rintro _ _ _ ⟨rfl,y3,y4,rfl,rfl⟩
   refine aM (d:=I false []) fun c hc=>?_
   refine aM (d:=I false []) fun m hm=>?_
   refine aI (d:=zd (ld R/ld D)) 1 rfl hc rfl qK ?_ ?_; exact aC qM
   refine aI (d:=zd (ld R%ld D)) 0 rfl hm rfl qK ?_ ?_; exact aC qM
   refine aF (d:=zd (ld R%ld D)) 0 rfl hm rfl (aN _ _) fun y5=>?_
   refine cH (uG y5 _ _ hlm qN) ?_
   refine aD _ rfl (fun hne=>?_) (fun hne=>?_)
   ·have h11:=hbad hD0 (hnd fun h=>hne (by rw [h]; rfl))
    exact fin ⟨_,[],11,rfl,h11,⟨_,_,_,rfl⟩,fun x hx=>by simp at hx,rfl,rfl⟩ (dS (dS (dS (aA (aH _ _) (cB _ _ 2 _)))))
   ·have h0:ld R%ld D=0:=Int.sign_eq_zero_iff_zero.1 qN
    have hlen:=hdg h0
    refine aF (d:=zd (ld R/ld D)) 1 rfl hc rfl (aN _ _) fun y6=>?_
    refine aE 2 rfl hu (R.length - D.length) qN hsN ?_
    refine cI (bL (d:=zd (ld R/ld D)) 2 rfl (R.length - D.length) hsN rfl qK (aC qM) ⟨_,_,Seals.own_cong (os:=[_,_,_]) 2 (fun y=>zd (f' y)) rfl rfl (fun y _=>hup y),?_⟩)
    refine aF (d:=zd (ld R/ld D)) 1 rfl hc rfl (aN _ _) fun y7=>?_
    have c5':=c5 x2 y7
    rw [hcast] at c5'
    refine cG c5' fun y8=>?_
    refine cG (c6 vr y8) fun y9=>?_
    refine aU (y9,R',f',j+1) ⟨hrn,by simp only; omega,z6,hpf,fun y hy=>?_,hst⟩ (by simp only; omega) qF (dS (dS (aB qS)))
    simp only at hy ⊢
    rw [hput y qN]
    exact g5 y qN
  ·refine fV qM ?_
   refine aD _ rfl (fun hp0=>?_) (fun hp0=>?_)
   ·have h11:=hbad hD0 fun hd=>by
     have:=(div_no g6 hd).deg qN
     omega
    exact fin ⟨_,[],11,rfl,h11,⟨_,_,_,rfl⟩,fun x hx=>by simp at hx,rfl,rfl⟩ (dS (aA (aH _ _) (cB _ _ 2 _)))
   ·have hR0:R=[]:=List.length_eq_zero_iff.1 qN
    have hok:=hgood (lst N f) hD0 fun x=>by
     have:=g6 x
     rw [hR0] at this
     simp only [pev] at this; omega
    have hsl:szR E (lst N f):=szR.lst fun y _=>g4 y
    have hn:=jT u ((lst N f).map cn) (hsl.mono hk).fit (by rw [List.length_map,eC]; omega)
    rw [fR] at hn
    refine dK hn (Seals.told (g:=f) hu fun y _=>rfl) qS ?_
    rintro r _ _ ⟨hr,rfl,rfl⟩
    exact fin ⟨r,_,0,rfl,hok,hr,hsl.nrm,rfl,rfl⟩ (aB qS)
theorem pDivide_meets (v w:Value) (p q:Row) (k l:Nat) (hp:Fit k p) (hq:Fit l q) (hk:k+(p.length+1)*(l+1)≤137438953472) (lp:p.length≤536870912) (lq:q.length≤536870912) :
  Meets Tryz.prog 80 [v,w] [(v,V p),(w,V q)] (fun r os fs=>os=[]∧∃ a t e,r=.tuple #[a,.int .i64 e]∧oK (vv p) (vv q) t e∧szR (k+(p.length+1)*(l+1)) t∧fs=[(a,vd t)]) :=
 (pDivideO_meets v w p q k l hp hq hk lp lq).closed fun r os fs ⟨a,t,e,h1,h2,h3,h4,h5,h6⟩=>by
  subst h5 h6
  exact ⟨[],[(a,vd t)],⟨rfl,a,t,e,h1,h2,h4,rfl⟩,dC h3⟩
theorem pDivideT (v w:Value) (p q:List Int) (k l:Nat) (hp:szR k p) (hq:szR l q) (hk:k+(p.length+1)*(l+1)≤137438953472) (lp:p.length≤536870912) (lq:q.length≤536870912) :
  Meets Tryz.prog 80 [v,w] [(v,vd p),(w,vd q)] (fun r os fs=>os=[]∧∃ a t e,r=.tuple #[a,.int .i64 e]∧oK p q t e∧szR (k+(p.length+1)*(l+1)) t∧fs=[(a,vd t)]):=by
 have h:=pDivide_meets v w (p.map cn) (q.map cn) k l hp.fit hq.fit (by rw [List.length_map]; exact hk) (by rw [List.length_map]; exact lp) (by rw [List.length_map]; exact lq)
 rw [fR,fR,List.length_map] at h
 exact h
theorem lst_snoc (n:Nat) (f:Nat→Int):lst (n+1) f=lst n f++[f n]:=by
 simp [lst,List.range_succ]
theorem sz_nat {i:Nat} (h:i<18446744073709551616):sz (i:Int) 1:=by
 unfold sz; rw [Int.natAbs_natCast]; omega
theorem pDerive_meets (v:Value) (p:Row) (k:Nat) (hp:Fit k p) (hk:k+1≤137438953472) (lp:p.length≤536870912) :
  Meets Tryz.prog 164 [v] [(v,V p)] (fun r os fs=>os=[]∧fs=[(r,vd (pder (vv p)))]):=by
 have n1:=fH v p (hp.mono qN) qN
 have sP:=hp.szR.nrm
 have la:(nrm (vv p)).length≤p.length:=Nat.le_trans (cA _) (by rw [cV]; exact Nat.le_refl _)
 have hpd:pder (vv p)=pder (nrm (vv p)):=(pder_nm _).ext (pder_nm _) (qC fun x=>(dL _ x).symm)
 rw [hpd]
 generalize hA:nrm (vv p)=A at *
 have hg:∀ i,sz (((i+1:Nat):Int)*A.getD (i+1) 0) (1+k)∨18446744073709551615≤i:=fun i=>by
  by_cases h:i+1<18446744073709551616
  ·exact .inl ((sz_nat h).mul (sP.get _))
  ·exact .inr qN
 have hszL:szR (k+1) (lst (A.length - 1) fun i=>((i+1:Nat):Int)*A.getD (i+1) 0):=szR.lst fun i hi=>by
  rcases hg i with h | h
  ·rw [Nat.add_comm 1 k] at h; exact h
  ·omega
 have hdef:pder A=nrm (lst (A.length - 1) fun i=>((i+1:Nat):Int)*A.getD (i+1) 0):=rfl
 rw [hdef]
 generalize hG:(fun i=>((i+1:Nat):Int)*A.getD (i+1) 0)=g at *
 have hgi:∀ i:Nat,1≤i→(i:Int)*A.getD i 0=g (i - 1):=fun i hi=>by
  rw [← hG]
  show _=((i - 1+1:Nat):Int)*A.getD (i - 1+1) 0
  rw [Nat.sub_add_cancel hi]
 refine mV Tryz.func164 ?_
 refine cG n1 fun x1=>?_
 refine aO (X:=Value×Nat) (fun x=>([(3,x1),(4,x.1),(5,.int .i64 (x.2:Nat))],[jY 2 J z0 x.1 ((lst (x.2 - 1) g).map cn)],[(x1,vd A)])) (fun x=>isSl x.1∧1≤x.2∧(x.2≤A.length∨x.2=1)) (fun x=>A.length - x.2) rfl ?_ ?_
 ·exact aU (.slice none 0 0,1) ⟨⟨_,_,_,rfl⟩,Nat.le_refl _,.inr rfl⟩ trivial qF (aA (cB _ _ 2 _) (aB qS))
 ·rintro ⟨vo,i⟩ ⟨hvo,h1,h2⟩
  simp only at hvo h1 h2 ⊢
  refine fV qM ?_
  refine aD _ rfl (fun hlt=>?_) (fun hlt=>?_)
  ·have hin:i<A.length:=by omega
   have hai:=sP.get i
   have hsi:=sz_nat (i:=i) qN
   have hgi':=hgi i h1
   have hmul:=fun u u'=>fQ u u' (i:Int) (A.getD i 0) _ _ hsi hai qN qN
   rw [hgi'] at hmul
   have hl:lst (i - 1) g++[g (i - 1)]=lst (i+1 - 1) g:=by
    rw [← lst_snoc]; congr 1; omega
   have hll:(lst (i - 1) g).length=i - 1:=eC _ _
   refine aY [0,1,3,4,5,6,2,7,8,9,10] [0,1,2,3,4,5,6,7,8,9,10] qK qK ?_
   refine uB qM i rfl hin fun b1=>?_
   refine aX (d:=zd (A.getD i 0)) qM (aN _ _) fun y1=>?_
   refine cG (dN (i:Int) qN qN) fun y2=>?_
   refine cG (hmul y2 y1) fun y3=>?_
   refine mE (size:=2) (f:=J) (z:=z0) (e:=26) (cn (g (i - 1))) qE (aC qM) rfl fun y4=>?_
   refine gX (size:=2) (e:=26) (f:=J) (z:=z0) (l:=(lst (i - 1) g).map cn) (m:=[cn (g (i - 1))]) 0 rfl hvo (bC qM) (by simp only [List.length_map,hll,List.length_cons,List.length_nil]; omega) (by simp only [List.length_map,hll,List.length_cons,List.length_nil]; omega) fun vn hvn=>?_
   refine ar rfl qI ?_
   refine aU (vn,i+1) ⟨hvn,by simp only; omega,.inl (by simp only; omega)⟩ (by simp only; omega) qF ?_
   rw [show (lst (i - 1) g).map cn++[cn (g (i - 1))]=(lst (i+1 - 1) g).map cn by rw [← hl,List.map_append]; rfl]
   exact aB qS
  ·have hii:lst (i - 1) g=lst (A.length - 1) g:=by congr 1; omega
   rw [hii]
   refine dK (pNormT vo (lst (A.length - 1) g) (hszL.mono qN) (by rw [eC]; omega)) (dC hvo) qS ?_
   rintro r _ _ ⟨rfl,rfl⟩
   exact fin ⟨rfl,rfl⟩ (aB qS)
theorem pDeriveT (v:Value) (p:List Int) (k:Nat) (hp:szR k p) (hk:k+1≤137438953472) (lp:p.length≤536870912) :
  Meets Tryz.prog 164 [v] [(v,vd p)] (fun r os fs=>os=[]∧fs=[(r,vd (pder p))]):=by
 have h:=pDerive_meets v (p.map cn) k hp.fit hk (by rw [List.length_map]; exact lp)
 rw [fR] at h
 exact h
theorem lP {c:Int} {a:Nat} (h:sz c a):∀ n:Nat,sz (c^n) (n*a+1)
 | 0=>by rw [Int.pow_zero,Nat.zero_mul]; exact jS 1 qE
 | n+1=>by
  rw [Int.pow_succ]
  have:=(lP h n).mul h
  refine this.mono ?_
  rw [Nat.succ_mul]; omega
theorem pGcdNT (v w:Value) (p q:List Int) (k n:Nat) (hp:szR k p) (hq:szR k q) (h1k:1≤k) (lp:p.length≤n) (lq:q.length≤n) (hn:n≤536870912) (hk:ge k (n - 1) n+k≤137438953472) :
  Meets Tryz.prog 181 [v,w] [(v,vd p),(w,vd q)] (fun r os fs=>os=[]∧∃ G,Nm G∧Gc G p q∧fs=[(r,vd G)]):=by
 have h:=pGcdN_meets v w (p.map cn) (q.map cn) k n hp.fit hq.fit h1k (by rw [List.length_map]; exact lp) (by rw [List.length_map]; exact lq) hn hk
 rw [fR,fR] at h
 exact h
structure m5 (p s:List Int):Prop where
 sn:Nm s
 zero:dg p=0→s=[]
 ok:0<dg p→∃ g,Gc g (pprim p) (pder (pprim p))∧∀ x,pev (pprim p) x=pev g x*pev s x
theorem szR.pder {k:Nat} {l:List Int} (h:szR k l) (hl:l.length≤4294967296):szR (k+1) (pder l):=szR.nrm (szR.lst fun i hi=>by
 have:=(sz_nat (i:=i+1) qN).mul (h.get (i+1))
 rw [Nat.add_comm 1 k] at this; exact this)
theorem pder_len (l:List Int):(pder l).length≤l.length:=Nat.le_trans (cA _) (by rw [eC]; omega)
theorem pSimpleN_meets (v:Value) (p:Row) (k n:Nat) (hp:Fit k p) (lp:p.length≤n) (hn:n≤268435456) (hk:ge (k+1) (n - 1) n+(k+1)≤137438953472) (hd:k+(n+1)*(dvk (k+1) n+1)≤137438953472) :
  Meets Tryz.prog 163 [v] [(v,V p)] (fun r os fs=>os=[]∧∃ s,m5 (vv p) s∧szR (dvk k n) s∧fs=[(r,vd s)]):=by
 have hge:k+2≤ge (k+1) (n - 1) n:=by
  unfold ge
  exact Nat.le_mul_of_pos_right _ (Nat.mul_pos (Nat.pow_pos qE) (Nat.pow_pos qE))
 have h1:=iE v p k hp qN qN
 have sU:=hp.szR.pprim
 have lU:(pprim (vv p)).length≤n:=Nat.le_trans (pprim_len _) (Nat.le_trans (dY _) (by rw [cV]; exact lp))
 have nU:=mL (vv p)
 have dU:=dO (vv p)
 have hspec:∀ s g,Nm s→0<dg (vv p)→Gc g (pprim (vv p)) (pder (pprim (vv p)))→(∀ x,pev (pprim (vv p)) x=pev g x*pev s x)→m5 (vv p) s:=fun s g a1 a2 a3 a4=>⟨a1,fun h=>by omega,fun _=>⟨g,a3,a4⟩⟩
 have hzero:dg (vv p)=0→m5 (vv p) []:=fun h=>⟨rfl,fun _=>rfl,fun h'=>by omega⟩
 rw [eH nU] at dU
 generalize hU:pprim (vv p)=u at *
 have sD:=sU.pder qN
 have lD:=pder_len u
 refine mV Tryz.func163 ?_
 refine cG h1 fun x1=>?_
 refine fV qM ?_
 refine aD _ rfl (fun hz=>?_) (fun hz=>?_)
 ·exact fin ⟨rfl,[],hzero qN,fun x hx=>by simp at hx,rfl⟩ (a7 (dM 2 _) (aH _ _))
 ·have hu0:0<dg u:=by rw [eH nU]; omega
  refine cG (pDeriveT x1 u k sU qN qN) fun x2=>?_
  refine cF (pGcdNT x1 x2 u (pder u) (k+1) n (sU.mono qN) sD qN lU qN qN hk) ?_
  rintro x3 _ _ ⟨rfl,G,nG,gG,rfl⟩
  have hGd:=gG.1.deg hu0
  have sG:szR (dvk (k+1) n) G:=dv_szR gG.1 hu0 (sU.mono qN) nG (by rw [eH nU]; exact lU) qN
  have lG:G.length≤n:=by rw [← eH nG]; rw [eH nU] at hGd; omega
  have hdd:k+(u.length+1)*(dvk (k+1) n+1)≤137438953472:=by
   have:(u.length+1)*(dvk (k+1) n+1)≤(n+1)*(dvk (k+1) n+1):=Nat.mul_le_mul_right _ qN
   omega
  refine cF (pDivideT x1 x3 u G k _ sU sG hdd qN qN) ?_
  rintro _ _ _ ⟨rfl,a,t,e,rfl,hsp,_,rfl⟩
  obtain ⟨_,ht⟩:=hsp.ok hGd.1 gG.1
  have hs:=hspec t G hsp.tn qN gG ht
  have st:szR (dvk k n) t:=dv_szR ⟨G,fun x=>by rw [ht,Int.mul_comm]⟩ hu0 sU hsp.tn (by rw [eH nU]; exact lU) qN
  exact fin ⟨rfl,t,hs,st,rfl⟩ (aB qS)
def chF (ls:List (List Int)) (nx:List Int) (i:Nat):List Int:=(ls++[nx]).getD i []
structure CH (s:List Int) (ls:List (List Int)) (nx:List Int):Prop where
 len:1≤ls.length
 hd:chF ls nx 0=s
 nm:∀ i,i≤ls.length→Nm (chF ls nx i)
 one:chF ls nx 1=pder s
 pos:∀ i,i<ls.length→chF ls nx i≠[]
 low:∀ i,i<ls.length→(chF ls nx (i+1)).length<(chF ls nx i).length
 rel:∀ i,i+1<ls.length→∃ α β q,0<α∧0<β∧∀ x,α*pev (chF ls nx i) x=pev q x*pev (chF ls nx (i+1)) x - β*pev (chF ls nx (i+2)) x
theorem chF_lt {ls:List (List Int)} {nx:List Int} {i:Nat} (h:i<ls.length):chF ls nx i=ls.getD i []:=by
 unfold chF
 rw [gE,List.getElem?_append_left h,← gE]
theorem mU (ls:List (List Int)) (nx:List Int):chF ls nx ls.length=nx:=by
 unfold chF
 rw [gE,List.getElem?_append_right (Nat.le_refl _),Nat.sub_self]; rfl
theorem chF_snoc {ls:List (List Int)} {nx ny:List Int} {i:Nat} (h:i≤ls.length):chF (ls++[nx]) ny i=chF ls nx i:=by
 rw [chF_lt (by simp; omega)]; rfl
def nxt (a b R:List Int):List Int:=if (dg a+1 - dg b)%2=0∨0<ld b then ptim (-1) R else R
def redc (l:List Int):List Int:=l.map fun y=>y/(cE l:Int)
theorem redc_ev (l:List Int) (x:Int):pev l x=(cE l:Int)*pev (redc l) x:=by
 have h:∀ i,l.getD i 0=((redc l).map fun y=>(cE l:Int)*y).getD i 0:=fun i=>by
  rw [tM]
  unfold redc
  have hd:=f8.1 (Nat.dvd_refl (cE l)) i
  by_cases hi:i<l.length
  ·have e:(l.map fun y=>y/(cE l:Int)).getD i 0=l.getD i 0/(cE l:Int):=by simp [gE,hi]
   rw [e,Int.mul_ediv_cancel' hd]
  ·have e1:l.getD i 0=0:=by rw [gE,List.getElem?_eq_none qN]; rfl
   have e2:(l.map fun y=>y/(cE l:Int)).getD i 0=0:=by rw [gE,List.getElem?_eq_none (by rw [List.length_map]; omega)]; rfl
   rw [e1,e2,Int.mul_zero]
 rw [ev_co h,eK]
theorem jO (l:List Int):(redc l).length=l.length:=by unfold redc; simp
theorem nm_last {l:List Int}:Nm l↔(l≠[]→l.getD (l.length - 1) 0≠0):=by
 constructor
 ·intro h h0 e
  have h1:0<dg l:=by rw [eH h]; exact List.length_pos_iff.2 h0
  have h2:=nY h1
  unfold ld at h2
  rw [eH h] at h2
  exact h2 e
 ·intro h
  by_cases h0:l=[]
  ·rw [h0]; rfl
  ·have h1:l.length≤dg l:=Nat.le_of_not_lt fun hlt=>by
    have hpos:=List.length_pos_iff.2 h0
    exact h h0 (jK.1 (show dg l≤l.length - 1 by omega) _ (Nat.le_refl _))
   have h2:=dY l
   show nrm l=l
   refine List.ext_getElem? fun i=>?_
   have hl:(nrm l).length=l.length:=by have:dg l=(nrm l).length:=rfl; omega
   by_cases hi:i<l.length
   ·have:=gT l i
    rw [gE,gE,List.getElem?_eq_getElem hi,List.getElem?_eq_getElem qN] at this
    rw [List.getElem?_eq_getElem hi,List.getElem?_eq_getElem qN]
    simpa using this
   ·rw [List.getElem?_eq_none qN,List.getElem?_eq_none qN]
theorem redc_nm {l:List Int} (h:Nm l):Nm (redc l):=by
 refine nm_last.2 fun h0 e=>?_
 have h1:l≠[]:=fun e=>h0 (by rw [e]; rfl)
 have h2:=nm_last.1 h h1
 have hpos:=List.length_pos_iff.2 h1
 have e1:(redc l).getD ((redc l).length - 1) 0=l.getD (l.length - 1) 0/(cE l:Int):=by
  rw [jO]
  unfold redc
  simp [gE,show l.length - 1<l.length by omega]
 rw [e1] at e
 have hd:=f8.1 (Nat.dvd_refl (cE l)) (l.length - 1)
 have:=Int.mul_ediv_cancel' hd
 rw [e,Int.mul_zero] at this
 exact h2 this.symm
theorem nxt_rel {a b T R:List Int} (hb:0<dg b) (h:m6 a b T R) :
  ∃ α β q,0<α∧0<β∧∀ x,α*pev a x=pev q x*pev b x - β*pev (redc (nxt a b R)) x:=by
 have hl:=nY hb
 have e1:∀ y:List Int,(R=[]→y=[])→∀ x,pev y x=(if R=[] then 1 else (cE y:Int))*pev (redc y) x:=fun y hy x=>by
  by_cases h0:R=[]
  ·rw [if_pos h0,hy h0]; simp [redc,pev]
  ·rw [if_neg h0,redc_ev]
 have hn0:R=[]→nxt a b R=[]:=fun e=>by
  unfold nxt; rw [e]; split <;> rfl
 have hcp:R≠[]→0<(cE (nxt a b R):Int):=fun h0=>by
  have h1:0<dg R:=by rw [eH h.rn]; exact List.length_pos_iff.2 h0
  have h2:cE (nxt a b R)=cE R:=by
   unfold nxt; split
   ·rw [uD (c := -1) (l:=R) fun x=>by rw [cL]]; simp
   ·rfl
  have h3:cE R≠0:=fun e=>by have:=dZ.1 e; omega
  rw [h2]; omega
 have hβ:0<(if R=[] then 1 else (cE (nxt a b R):Int)):=by
  split
  ·decide
  ·rename_i h0; exact hcp h0
 generalize hd:dg a+1 - dg b=d at *
 have hpow:((d%2=0∨0<ld b)→0<ld b^d)∧(¬ (d%2=0∨0<ld b)→0 < -(ld b^d)):=by
  constructor
  ·rintro (h1 | h1)
   ·obtain ⟨e,he⟩:∃ e,d=2*e:=⟨d/2,by omega⟩
    rw [he,Int.pow_mul]
    refine Int.pow_pos ?_
    rw [show (2:Nat)=1+1 from rfl,Int.pow_succ,Int.pow_succ,Int.pow_zero,Int.one_mul]
    rcases Int.lt_trichotomy (ld b) 0 with k | k | k
    ·exact Int.mul_pos_of_neg_of_neg k k
    ·exact absurd k hl
    ·exact Int.mul_pos k k
   ·exact Int.pow_pos h1
  ·intro h1
   obtain ⟨e,he⟩:∃ e,d=2*e+1:=⟨d/2,by omega⟩
   have h2:ld b<0:=by omega
   have h3:0<ld b^(2*e):=by
    rw [Int.pow_mul]
    refine Int.pow_pos ?_
    rw [show (2:Nat)=1+1 from rfl,Int.pow_succ,Int.pow_succ,Int.pow_zero,Int.one_mul]
    exact Int.mul_pos_of_neg_of_neg h2 h2
   rw [he,Int.pow_succ]
   have:=Int.mul_neg_of_pos_of_neg h3 h2
   omega
 have heq:=h.eq
 rw [hd] at heq
 by_cases hc:d%2=0∨0<ld b
 ·have en:nxt a b R=ptim (-1) R:=by unfold nxt; rw [hd,if_pos hc]
  refine ⟨ld b^d,_,T,hpow.1 hc,hβ,fun x=>?_⟩
  rw [← e1 _ hn0 x,en,cL,heq]
  grind
 ·have en:nxt a b R=R:=by unfold nxt; rw [hd,if_neg hc]
  refine ⟨-(ld b^d),_,ptim (-1) T,hpow.2 hc,hβ,fun x=>?_⟩
  rw [← e1 _ hn0 x,en,cL]
  have:=heq x
  grind
theorem nxt_nm {a b R:List Int} (h:Nm R):Nm (nxt a b R):=by
 unfold nxt; split
 ·exact gZ _
 ·exact h
theorem nxt_dg (a b R:List Int):dg (nxt a b R)=dg R:=by
 unfold nxt; split
 ·by_cases h0:dg R=0
  ·rw [h0]; exact cT.2 fun x=>by rw [cL,cT.1 h0]; rfl
  ·have e:∀ x,pev (ptim (-1) R) x=pev R x*pev [-1] x:=fun x=>by rw [cL]; simp [pev]
   have:=(qQ e qN qE).1
   rw [show dg [-1]=1 from rfl] at this; omega
 ·rfl
theorem CH.start {s:List Int} (hs:Nm s) (h0:s≠[]):CH s [s] (pder s):=by
 have e0:chF [s] (pder s) 0=s:=rfl
 have e1:chF [s] (pder s) 1=pder s:=rfl
 refine ⟨Nat.le_refl _,rfl,fun i hi=>?_,rfl,fun i hi=>?_,fun i hi=>?_,fun i hi=>absurd hi qP⟩
 ·have hi':i≤1:=hi
  have:i=0∨i=1:=by omega
  rcases this with rfl | rfl
  ·exact hs
  ·exact pder_nm s
 ·have hi':i<1:=hi
  obtain rfl:i=0:=by omega
  exact h0
 ·have hi':i<1:=hi
  obtain rfl:i=0:=by omega
  rw [e0,e1]
  have hp:=List.length_pos_iff.2 h0
  have h1:=eH hs
  have h2:dg (pder s)=(pder s).length:=eH (pder_nm s)
  by_cases h:2≤dg s
  ·have:=pder_dg h; omega
  ·have:=cT.2 (pder_low (l:=s) qN); omega
theorem CH.step {s:List Int} {ls:List (List Int)} {nx T R:List Int} (h:CH s ls nx) (h0:nx≠[]) (hR:m6 (chF ls nx (ls.length - 1)) nx T R) :
  CH s (ls++[nx]) (redc (nxt (chF ls nx (ls.length - 1)) nx R)):=by
 have hl:=h.len
 have hnx:=h.nm ls.length (Nat.le_refl _)
 rw [mU] at hnx
 have hlen:(ls++[nx]).length=ls.length+1:=by simp
 have el:∀ y,chF (ls++[nx]) y (ls.length+1)=y:=fun y=>by have:=mU (ls++[nx]) y; rw [hlen] at this; exact this
 have es:∀ y i,i≤ls.length→chF (ls++[nx]) y i=chF ls nx i:=fun y i hi=>chF_snoc hi
 have hdn:0<dg nx:=by rw [eH hnx]; exact List.length_pos_iff.2 h0
 refine ⟨by omega,by rw [es _ _ (Nat.zero_le _)]; exact h.hd,fun i hi=>?_,by rw [es _ _ hl]; exact h.one,fun i hi=>?_,fun i hi=>?_,fun i hi=>?_⟩
 ·by_cases e:i=ls.length+1
  ·rw [e,el]; exact redc_nm (nxt_nm hR.rn)
  ·rw [es _ _ qN]; exact h.nm i qN
 ·by_cases e:i=ls.length
  ·rw [e,es _ _ (Nat.le_refl _),mU]; exact h0
  ·rw [es _ _ qN]; exact h.pos i qN
 ·by_cases e:i=ls.length
  ·rw [e,el,es _ _ (Nat.le_refl _),mU,jO,← eH (nxt_nm hR.rn),nxt_dg,← eH hnx]
   exact hR.low
  ·rw [es _ _ qN,es _ _ qN]; exact h.low i qN
 ·by_cases e:i+1=ls.length
  ·have e2:i=ls.length - 1:=by omega
   rw [show i+2=ls.length+1 by omega,el,es _ (i+1) qN,e,mU,es _ i qN,e2]
   exact nxt_rel hdn hR
  ·rw [es _ _ qN,es _ _ qN,es _ _ qN]
   exact h.rel i qN
theorem CH.short {s:List Int} {ls:List (List Int)} {nx:List Int} (h:CH s ls nx):∀ i,i≤ls.length→(chF ls nx i).length+i≤s.length
 | 0,_=>by rw [h.hd]; omega
 | i+1,hi=>by
  have:=CH.short h i qN
  have:=h.low i qN
  omega
theorem CH.chain {p s:List Int} {ls:List (List Int)} (hp:0<dg p) (hs:m5 p s) (h:CH s ls []):Chain (fun i=>ls.getD i []) (ls.length - 1)∧ls.length≤dg s∧ls.getD 0 []=s:=by
 have hl:=h.len
 have hF:∀ i,i<ls.length→ls.getD i []=chF ls [] i:=fun i hi=>(chF_lt hi).symm
 have hlast:=mU ls []
 have hr:=h.pos (ls.length - 1) qN
 have hrn:=h.nm (ls.length - 1) qN
 have hdl:0<dg (chF ls [] (ls.length - 1)):=by rw [eH hrn]; exact List.length_pos_iff.2 hr
 have hz:∀ e,e≤ls.length - 1→Dv (pprim (chF ls [] (ls.length - 1))) (chF ls [] (ls.length - 1 - e))∧Dv (pprim (chF ls [] (ls.length - 1))) (chF ls [] (ls.length - 1 - e+1)):=fun e=>by
  induction e with
  | zero =>
   intro _
   refine ⟨⟨[j0 (chF ls [] (ls.length - 1))],fun x=>?_⟩,?_⟩
   ·rw [Nat.sub_zero,iW]; simp only [pev]; grind
   ·rw [Nat.sub_zero,show ls.length - 1+1=ls.length by omega,hlast]
    exact Dv.zero _ fun _=>rfl
  | succ e ih =>
   intro he
   obtain ⟨i1,i2⟩:=ih qN
   obtain ⟨i,hi⟩:∃ i,ls.length - 1 - e=i+1:=⟨ls.length - 1 - e - 1,by omega⟩
   have e2:ls.length - 1 - (e+1)=i:=by omega
   rw [hi] at i1 i2
   rw [e2]
   refine ⟨?_,i1⟩
   obtain ⟨α,β,q,hα,hβ,hr⟩:=h.rel i qN
   refine Dv.prim (fD hdl) (show α≠0 by omega) ?_
   obtain ⟨u,hu⟩:=i1
   obtain ⟨v,hv⟩:=i2
   refine ⟨psub (pmul q u) (ptim β v),fun x=>?_⟩
   rw [eK,hr,hu,hv,iC,bN,cL]
   grind
 have hz0:=hz (ls.length - 1) (Nat.le_refl _)
 rw [Nat.sub_self,h.hd,Nat.zero_add,h.one] at hz0
 obtain ⟨g,hg,hgs⟩:=hs.ok hp
 obtain ⟨d,hd⟩:=wF s (pder s)
 have hd1:=simple_free (by rw [dO]; exact hp) (fD hp) hg hgs hd
 have hzd:=hd.2.2.1 _ hz0.1 hz0.2
 have hz1:=hzd.deg qN
 rw [dO] at hz1
 have hone:(chF ls [] (ls.length - 1)).length=1:=by rw [← eH hrn]; omega
 refine ⟨⟨fun h1=>?_,fun i hi=>?_,?_⟩,?_,?_⟩
 ·show ls.getD 1 []=pder (ls.getD 0 [])
  rw [hF 1 qN,hF 0 qN,h.hd]; exact h.one
 ·show ∃ α β q,0<α∧0<β∧∀ x,α*pev (ls.getD i []) x=pev q x*pev (ls.getD (i+1) []) x - β*pev (ls.getD (i+2) []) x
  rw [hF i qN,hF (i+1) qN,hF (i+2) qN]
  exact h.rel i qN
 ·show ∃ k,k≠0∧ls.getD (ls.length - 1) []=[k]
  rw [hF _ qN]
  have hn:=nm_last.1 hrn hr
  obtain ⟨k,hk⟩:=List.length_eq_one_iff.1 hone
  rw [hk] at hn ⊢
  exact ⟨k,hn,rfl⟩
 ·have:=h.short (ls.length - 1) qN
  rw [eH hs.sn]
  omega
 ·rw [hF 0 qN]; exact h.hd
theorem vs_len:∀ (l:List Int) (t:Int),vs t l≤l.length
 | [],_=>Nat.le_refl _
 | x::l,t=>by
  have h1:=vs_len l t
  have h2:=vs_len l x
  simp only [vs,List.length_cons]
  split
  ·omega
  ·split <;> omega
theorem vs_len0:∀ (l:List Int),vs 0 l≤l.length - 1
 | []=>Nat.le_refl _
 | x::l=>by
  have h1:=vs_len0 l
  have h2:=vs_len l x
  simp only [vs,List.length_cons,Int.mul_zero,Int.lt_irrefl,if_false]
  split <;> omega
theorem sI (a b:Nat) : -1≤wW a b∧wW a b≤1∧(wW a b=0↔a=b):=by
 unfold wW
 split
 ·omega
 ·split <;> omega
theorem rAbs_meets (v:Value) (s:Bool) (a:List Nat) (ha:Lim a) (la:a.length≤1099511627776) :
  Meets Tryz.prog 40 [v] [(v,I s a)] (fun r os fs=>os=[]∧fs=[(r,zd ((iv s a).natAbs:Nat))]):=by
 refine mV Tryz.func40 ?_
 refine bA (aC (d:=I s a) qM) fun p hp=>?_
 refine aM (d:=I false []) fun o ho=>?_
 refine aS 1 rfl hp ?_
 refine aP 1 rfl (aR (aK _)) (dH _) fun u=>?_
 refine cG (kQ u false a ha la) fun r0=>?_
 rw [show iv false a=((iv s a).natAbs:Nat) by rw [vT]; simp [iv]]
 generalize ((iv s a).natAbs:Int)=x
 refine aI (d:=zd x) 0 rfl ho rfl qK ?_ ?_; exact aC qM
 refine aF (d:=zd x) 0 rfl ho rfl (aN _ _) fun r=>?_
 exact fin ⟨rfl,rfl⟩ (aA (dS (aW 0 _ _)) (aB qS))
theorem eO {x:Int} (h:x<0):x.sign = -1:=Int.sign_eq_neg_one_of_neg h
theorem eN {x:Int} (h:0<x):x.sign=1:=Int.sign_eq_one_of_pos h
theorem cmp_val (x y:Int):(x.sign<y.sign→(x - y).sign = -1)∧(y.sign<x.sign→(x - y).sign=1)∧(x.sign=y.sign→x.sign*wW x.natAbs y.natAbs=(x - y).sign):=by
 rcases Int.lt_trichotomy x 0 with hx | hx | hx <;> rcases Int.lt_trichotomy y 0 with hy | hy | hy
 ·rw [eO hx,eO hy]
  refine ⟨fun h=>by omega,fun h=>by omega,fun _=>?_⟩
  unfold wW
  by_cases h1:x.natAbs<y.natAbs
  ·rw [if_pos h1,eN (show 0<x - y by omega)]; rfl
  ·rw [if_neg h1]
   by_cases h2:y.natAbs<x.natAbs
   ·rw [if_pos h2,eO (show x - y<0 by omega)]; rfl
   ·rw [if_neg h2,show x - y=0 by omega]; rfl
 ·rw [eO hx,hy]; exact ⟨fun _=>eO qN,fun h=>by simp at h,fun h=>by simp at h⟩
 ·rw [eO hx,eN hy]; exact ⟨fun _=>eO qN,fun h=>by omega,fun h=>by omega⟩
 ·rw [hx,eO hy]; exact ⟨fun h=>by simp at h,fun _=>eN qN,fun h=>by simp at h⟩
 ·rw [hx,hy]; exact ⟨fun h=>by omega,fun h=>by omega,fun _=>by simp⟩
 ·rw [hx,eN hy]; exact ⟨fun _=>eO qN,fun h=>by simp at h,fun h=>by simp at h⟩
 ·rw [eN hx,eO hy]; exact ⟨fun h=>by omega,fun _=>eN qN,fun h=>by omega⟩
 ·rw [eN hx,hy]; exact ⟨fun h=>by simp at h,fun _=>eN qN,fun h=>by simp at h⟩
 ·rw [eN hx,eN hy]
  refine ⟨fun h=>by omega,fun h=>by omega,fun _=>?_⟩
  unfold wW
  by_cases h1:x.natAbs<y.natAbs
  ·rw [if_pos h1,eO (show x - y<0 by omega)]; rfl
  ·rw [if_neg h1]
   by_cases h2:y.natAbs<x.natAbs
   ·rw [if_pos h2,eN (show 0<x - y by omega)]; rfl
   ·rw [if_neg h2,show x - y=0 by omega]; rfl
theorem zCmpS (v w:Value) (x y:Bool×List Nat) (ha:Lim x.2) (hb:Lim y.2) (la:x.2.length≤137438953472) (lb:y.2.length≤137438953472) :
  Meets Tryz.prog 95 [v,w] [(v,J x),(w,J y)] (fun r os fs=>os=[]∧fs=[]∧r=.int .i64 (jv x - jv y).sign):=by
 obtain ⟨s,a⟩:=x
 obtain ⟨t,b⟩:=y
 have hc:=sI (nv a) (nv b)
 have hx:(iv s a).natAbs=nv a:=vT s a
 have hy:(iv t b).natAbs=nv b:=vT t b
 obtain ⟨k1,k2,k3⟩:=cmp_val (iv s a) (iv t b)
 rw [hx,hy] at k3
 have hsg:∀ x:Int, -1≤x.sign∧x.sign≤1:=fun x=>by
  rcases Int.lt_trichotomy x 0 with h | h | h
  ·rw [Int.sign_eq_neg_one_of_neg h]; omega
  ·rw [h]; simp
  ·rw [Int.sign_eq_one_of_pos h]; omega
 have h1:=hsg (iv s a)
 have h2:=hsg (iv t b)
 have hp : -1≤(iv s a).sign*wW (nv a) (nv b)∧(iv s a).sign*wW (nv a) (nv b)≤1:=by
  have:(iv s a).sign = -1∨(iv s a).sign=0∨(iv s a).sign=1:=by omega
  rcases this with h | h | h <;> rw [h] <;> omega
 show Meets Tryz.prog 95 [v,w] [(v,I s a),(w,I t b)] (fun r os fs=>os=[]∧fs=[]∧r=.int .i64 (iv s a - iv t b).sign)
 refine mV Tryz.func95 ?_
 refine bA (aC (d:=I s a) qM) fun p hp'=>?_
 refine bA (aC (d:=I t b) qM) fun q hq'=>?_
 refine aY [0,2,1,3,4,5] [0,1,2,3,4,5] qK qK ?_
 refine aF (d:=I s a) 1 rfl hp' rfl (aN _ _) fun y1=>?_
 refine aF (d:=I t b) 0 rfl hq' rfl (aN _ _) fun y2=>?_
 refine cH (cY y1 s a ha la) ?_
 refine cH (cY y2 t b hb lb) ?_
 refine aD _ rfl (fun hlt=>?_) (fun hlt=>?_)
 ·rw [k1 hlt]
  exact fin ⟨rfl,rfl,rfl⟩ (dS (dS (aH _ _)))
 ·refine aD _ rfl (fun hgt=>?_) (fun hgt=>?_)
  ·rw [k2 qN]
   exact fin ⟨rfl,rfl,rfl⟩ (dS (dS (aH _ _)))
  ·rw [← k3 qN]
   refine aS 1 rfl hp' ?_
   refine aP 1 rfl (aR (aK _)) (dH _) fun u1=>?_
   refine aS 0 rfl hq' ?_
   refine aP 0 rfl (aR (aK _)) (dH _) fun u2=>?_
   refine cH (oG u1 u2 a b ha hb) ?_
   refine ar rfl qI ?_
   exact fin ⟨rfl,rfl,rfl⟩ (dS (dS (aH _ _)))
theorem zShr1 (v:Value) (s:Bool) (a:List Nat) (ha:Lim a) (la:a.length≤137438953472) :
  Meets Tryz.prog 150 [v,.int .i64 1] [(v,I s a)] (fun r os fs=>os=[]∧fs=[(r,zd (iv s a/2))]):=by
 have hf:far 1=1:=by decide
 have h1:=fun u=>shr_meets u a 1 ha qN
 rw [hf] at h1
 have hll:(bT (nv a/2^1)).length≤a.length:=by
  refine c8 ?_
  exact Nat.lt_of_le_of_lt (Nat.div_le_self _ _) (jF ha)
 have h2:=fun u=>p5 u (bT (nv a/2^1)) 1 (a0 _) qN
 rw [hf,cK] at h2
 have hll2:(bT (nv a/2^1*2^1)).length≤a.length:=by
  refine c8 ?_
  exact Nat.lt_of_le_of_lt (Nat.div_mul_le_self _ _) (jF ha)
 have h3:=fun u u'=>oG u u' (bT (nv a/2^1*2^1)) a (a0 _) ha
 rw [cK] at h3
 have hc:=sI (nv a/2^1*2^1) (nv a)
 have h4:=fun u u'=>w9 u u' (bT (nv a/2^1)) [1] (a0 _) (fun x hx=>by rw [List.mem_singleton.1 hx]; decide) qN qE
 rw [cK,show nv [1]=1 from rfl] at h4
 rw [Nat.pow_one] at *
 refine mV Tryz.func150 ?_
 refine bA (aC (d:=I s a) qM) fun p hp=>?_
 refine aM (d:=I false []) fun o ho=>?_
 refine aS 1 rfl hp ?_
 refine aP 1 rfl (aR (aK _)) (dH _) fun u1=>?_
 refine cG (h1 u1) fun m1=>?_
 refine aY [0,1,2,3,4,6,7,5,8,9,10] [0,1,2,3,4,5,6,7,8,9,10] qK qK ?_
 refine aS 1 rfl hp ?_
 refine aJ 1 rfl (aZ (aK _)) ?_
 cases s with
 | false =>
  refine aS 1 rfl hp ?_
  refine aJ 1 rfl (aZ (aK _)) ?_
  refine cG (e9 m1 false (nv a/2) (iv false a/2) (by simp [iv])) fun z=>?_
  refine aI (d:=zd (iv false a/2)) 0 rfl ho rfl qK (aC (v:=z) qM) ?_
  refine aF (d:=zd (iv false a/2)) 0 rfl ho rfl (aN _ _) fun r=>?_
  exact fin ⟨rfl,rfl⟩ (dS (dS (aB (fs':=[(r,zd (iv false a/2))]) qS)))
 | true =>
  refine aS 1 rfl hp ?_
  refine aP 1 rfl (aR (aK _)) (dH _) fun u2=>?_
  refine cG (h2 m1) fun m2=>?_
  refine cH (h3 m2 u2) ?_
  refine aD _ rfl (fun hne=>?_) (fun hne=>?_)
  ·have hodd:nv a/2*2≠nv a:=fun e=>hne (hc.2.2.2 e)
   refine lit_U 1 rfl fun q1=>?_
   refine cG (h4 m1 q1) fun m3=>?_
   refine aS 1 rfl hp ?_
   refine aJ 1 rfl (aZ (aK _)) ?_
   refine cG (e9 m3 true (nv a/2+1) (iv true a/2) (by simp [iv]; omega)) fun z=>?_
   refine aI (d:=zd (iv true a/2)) 0 rfl ho rfl qK (aC (v:=z) qM) ?_
   refine aF (d:=zd (iv true a/2)) 0 rfl ho rfl (aN _ _) fun r=>?_
   exact fin ⟨rfl,rfl⟩ (dS (dS (aB (fs':=[(r,zd (iv true a/2))]) qS)))
  ·have hev:nv a/2*2=nv a:=hc.2.2.1 qN
   refine aS 1 rfl hp ?_
   refine aJ 1 rfl (aZ (aK _)) ?_
   refine cG (e9 m1 true (nv a/2) (iv true a/2) (by simp [iv]; omega)) fun z=>?_
   refine aI (d:=zd (iv true a/2)) 0 rfl ho rfl qK (aC (v:=z) qM) ?_
   refine aF (d:=zd (iv true a/2)) 0 rfl ho rfl (aN _ _) fun r=>?_
   exact fin ⟨rfl,rfl⟩ (dS (dS (aB (fs':=[(r,zd (iv true a/2))]) qS)))
theorem nN (v w:Value) (p:Row) (x:Bool×List Nat) (k a:Nat) (hp:Fit k p) (hxl:Lim x.2) (hxa:x.2.length≤a) (hk:k+(p.length+1)*(a+1)≤137438953472) (lp:p.length≤1073741824) :
  Meets Tryz.prog 112 [v,w] [(v,V p),(w,J x)] (fun r os fs=>os=[]∧fs=[]∧r=.int .i64 (pev (vv p) (jv x)).sign):=by
 have hsz:sz (pev (vv p) (jv x)) 137438953472:=(ev_sz hp.szR (gY hxl hxa)).mono (by rw [cV]; rw [Nat.add_mul] at hk; omega)
 refine mV Tryz.func112 ?_
 refine bA (aC (d:=J x) qM) fun q hq=>?_
 refine aF (d:=J x) 0 rfl hq rfl (bM _) fun y=>?_
 refine cG (pValueJ v y p x k a hp hxl hxa hk lp) fun z=>?_
 refine cH (uG z _ _ hsz (Nat.le_refl _)) ?_
 exact fin ⟨rfl,rfl,rfl⟩ (dS (aH _ _))
theorem sgn_mul {s t:Int}:(s.sign≠0∧s.sign = -t.sign)↔s*t<0:=by
 rcases Int.lt_trichotomy s 0 with h | h | h <;> rcases Int.lt_trichotomy t 0 with g | g | g
 ·rw [eO h,eO g]; have:=Int.mul_pos_of_neg_of_neg h g; omega
 ·rw [g]; simp [eO h]
 ·rw [eO h,eN g]; have:=Int.mul_neg_of_neg_of_pos h g; omega
 ·rw [h]; simp
 ·rw [h]; simp
 ·rw [h]; simp
 ·rw [eN h,eO g]; have:=Int.mul_neg_of_pos_of_neg h g; omega
 ·rw [g]; simp [eN h]
 ·rw [eN h,eN g]; have:=Int.mul_pos h g; omega
theorem turns_meets (v w:Value) (m:List Row) (x:Bool×List Nat) (k a n:Nat) (hm:∀ r,r∈m→Fit k r∧r.length≤n) (hxl:Lim x.2) (hxa:x.2.length≤a) (hk:k+(n+1)*(a+1)≤137438953472) (ln:n≤1073741824) (lm:m.length≤1073741824) :
  Meets Tryz.prog 148 [v,w] [(v,W m),(w,J x)] (fun r os fs=>os=[]∧fs=[]∧r=.int .i64 (vs 0 (m.map fun r=>pev (vv r) (jv x)):Nat)):=by
 refine mV Tryz.func148 ?_
 refine bA (aC (d:=J x) qM) fun q hq=>?_
 refine aT (v:=v) qM fun _=>?_
 refine aO (X:=Nat×Nat×Int) (fun y=>([(3,q),(5,.int .i64 (y.2.1:Nat)),(6,.int .i64 y.2.2.sign),(10,v),(11,.int .i64 (m.length:Nat)),(12,.int .i64 (y.1:Nat))],[bE q 2 1 (fun _=>J x)],[(v,W m)]))
  (fun y=>y.1≤m.length∧y.2.1≤y.1∧y.2.1+vs y.2.2 ((m.drop y.1).map fun r=>pev (vv r) (jv x))=vs 0 (m.map fun r=>pev (vv r) (jv x))) (fun y=>m.length - y.1) rfl ?_ ?_
 ·exact aU (0,0,0) ⟨Nat.zero_le _,Nat.le_refl _,by simp only [List.drop_zero]; omega⟩ trivial qF (aA (bJ rfl) (aB qS))
 rintro ⟨i,c,t⟩ ⟨hi,hc,he⟩
 simp only at hi hc he ⊢
 refine aD _ rfl (fun hlt=>?_) (fun hlt=>?_)
 ·have hin:i<m.length:=by omega
  have hmem:m.getD i []∈m:=dT [] hin
  obtain ⟨g1,g2⟩:=hm _ hmem
  have hstep:vs t ((m.drop i).map fun r=>pev (vv r) (jv x))=if pev (vv (m.getD i [])) (jv x)=0 then vs t ((m.drop (i+1)).map fun r=>pev (vv r) (jv x)) else (if pev (vv (m.getD i [])) (jv x)*t<0 then 1 else 0)+vs (pev (vv (m.getD i [])) (jv x)) ((m.drop (i+1)).map fun r=>pev (vv r) (jv x)):=by
   rw [List.drop_eq_getElem_cons hin,List.map_cons]
   have:m[i]=m.getD i []:=by rw [gE,List.getElem?_eq_getElem hin]; rfl
   rw [this]; rfl
  rw [hstep] at he
  have hmul:(m.getD i []).length*(a+1)≤n*(a+1):=Nat.mul_le_mul_right _ g2
  have hsg:=fun u u'=>nN u u' (m.getD i []) x k a g1 hxl hxa (by have e1:=Nat.add_one_mul n (a+1); have e2:=Nat.add_one_mul (m.getD i []).length (a+1); omega) qN
  generalize hy:pev (vv (m.getD i [])) (jv x)=y at *
  have hsb:y.sign = -1∨y.sign=0∨y.sign=1:=by
   rcases Int.lt_trichotomy y 0 with h | h | h
   ·rw [eO h]; omega
   ·rw [h]; simp
   ·rw [eN h]; omega
  have htb:t.sign = -1∨t.sign=0∨t.sign=1:=by
   rcases Int.lt_trichotomy t 0 with h | h | h
   ·rw [eO h]; omega
   ·rw [h]; simp
   ·rw [eN h]; omega
  refine aQ (v:=v) qM i rfl qN fun a1=>?_
  refine aX (d:=V (m.getD i [])) qM (kX _) fun a2=>?_
  refine aF (d:=J x) 0 rfl hq rfl (bM _) fun y1=>?_
  refine cH (hsg a2 y1) ?_
  refine aD _ rfl (fun h0=>?_) (fun h0=>?_)
  ·have hy0:y≠0:=fun e=>h0 (by rw [e]; rfl)
   rw [if_neg hy0] at he
   refine un_neg (m := -t.sign) (by rw [cJ (show inK .i64 (0 - t.sign) from ⟨by omega,by omega⟩)]; omega) ?_
   refine aD _ rfl (fun h1=>?_) (fun h1=>?_)
   ·have hneg:y*t<0:=sgn_mul.1 ⟨h0,h1⟩
    rw [if_pos hneg] at he
    refine ar rfl qI ?_
    refine dI rfl h0 ?_
    refine ar rfl qI ?_
    exact aU (i+1,c+1,y) ⟨by simp only; omega,by simp only; omega,by simp only; omega⟩ (by simp only; omega) qF (aB (fs':=[(v,W m)]) qS)
   ·have hneg:¬ y*t<0:=fun h=>h1 (sgn_mul.2 h).2
    rw [if_neg hneg] at he
    refine dI rfl h0 ?_
    refine ar rfl qI ?_
    exact aU (i+1,c,y) ⟨by simp only; omega,by simp only; omega,by simp only; omega⟩ (by simp only; omega) qF (aB (fs':=[(v,W m)]) qS)
  ·have hy0:y=0:=Int.sign_eq_zero_iff_zero.1 qN
   rw [if_pos hy0] at he
   refine cX rfl h0 ?_
   refine ar rfl qI ?_
   exact aU (i+1,c,t) ⟨by simp only; omega,by simp only; omega,by simp only; omega⟩ (by simp only; omega) qF (aB (fs':=[(v,W m)]) qS)
 ·have hin:i=m.length:=by omega
  subst hin
  rw [List.drop_length] at he
  have he':c=vs 0 (m.map fun r=>pev (vv r) (jv x)):=by simpa [vs] using he
  rw [← he']
  exact fin ⟨rfl,rfl,rfl⟩ (dS (aH _ _))
theorem deg_dg (l:List Int):deg l=(dg l:Int) - 1:=by
 have h1:=rA l l.length (dg l) (dY l) fun j h _=>jK.1 (Nat.le_refl _) j h
 unfold deg
 rw [h1]
 by_cases h0:dg l=0
 ·rw [h0]; rfl
 ·have h2:=nY (l:=l) qN
  unfold ld at h2
  obtain ⟨m,hm⟩:∃ m,dg l=m+1:=⟨dg l - 1,by omega⟩
  rw [hm] at h2 ⊢
  simp only [sE,Nat.add_sub_cancel] at h2 ⊢
  rw [if_neg h2]; omega
theorem rDegreeN (v:Value) (p:Row) (hp:Fit 1099511627776 p) :
  Meets Tryz.prog 29 [v] [(v,V p)] (fun r os fs=>os=[]∧fs=[]∧r=.int .i64 ((dg (vv p):Nat) - 1:Int)):=by
 have:=rDegree_meets v p hp
 rw [deg_dg] at this; exact this
theorem rMulZZ' (v w:Value) (x y:Int) (e:Nat) (hx:sz x e) (hy:sz y e) (he:e≤137438953472) :
  Meets Tryz.prog 41 [v,w] [(v,zd x),(w,zd y)] (fun r os fs=>os=[]∧fs=[(r,zd (x*y))]):=by
 have h:=rMulZJ v w x (cn y) e hx he (a0 _) (Nat.le_trans hy.len he)
 rw [eR] at h
 exact h
theorem Seals.madeR' {v:Value} {vs:Nat→Value} {m:List Row} {n:Nat} {os:List Own} {fs:List bD} (hn:m.length=n) (hv:isSl v) (hs:∀ i,i<n→isSl (vs i)) :
  Seals (o8 vs m::gJ v n vs::os) fs os ((v,W m)::fs):=by subst hn; exact Seals.madeR hv hs
theorem kernel_det {n:Nat} {A:Mx} {u:Nat→Int} {i:Nat} (hi:i<n) (hu:u i≠0) (h:∀ j,j<n→cM (fun i=>u i*A i j) n=0):det n A=0:=by
 obtain ⟨n,rfl⟩:∃ m,n=m+1:=⟨n - 1,by omega⟩
 have h1:cM (fun j=>cM (fun k=>u k*A k j) (n+1)*adj n A j i) (n+1)=0:=eT fun k hk=>by rw [h k hk]; simp
 rw [bI (g':=fun j=>cM (fun k=>u k*(A k j*adj n A j i)) (n+1)) fun j _=>by
  rw [← fK]; exact bI fun k _=>by grind,kY,
  bI (g':=fun k=>u k*(if k=i then det (n+1) A else 0)) fun k hk=>by rw [fY,← mul_adj A hk hi]; rfl,
  gW hi fun k _ hk=>by rw [if_neg hk]; simp,if_pos rfl] at h1
 rcases Int.mul_eq_zero.1 h1 with h2 | h2
 ·exact absurd h2 hu
 ·exact h2
theorem isum_rev (g:Nat→Int):∀ n,cM (fun k=>g (n - 1 - k)) n=cM g n
 | 0=>rfl
 | n+1=>by
  rw [jJ]
  show g (n+1 - 1 - 0)+cM (fun k=>g (n+1 - 1 - (k+1))) n=cM g n+g n
  rw [bI (g':=fun k=>g (n - 1 - k)) fun k hk=>by congr 1; omega,isum_rev g n]
  simp only [Nat.add_sub_cancel,Nat.sub_zero]
  omega
theorem deg_dgM (l:List Int):deg l=(dg l:Int) - 1:=by
 have h1:=rA l l.length (dg l) (dY l) fun j h _=>jK.1 (Nat.le_refl _) j h
 unfold deg
 rw [h1]
 by_cases h0:dg l=0
 ·rw [h0]; rfl
 ·have h2:=nY (l:=l) qN
  unfold ld at h2
  obtain ⟨m,hm⟩:∃ m,dg l=m+1:=⟨dg l - 1,by omega⟩
  rw [hm] at h2 ⊢
  simp only [sE,Nat.add_sub_cancel] at h2 ⊢
  rw [if_neg h2]; omega
theorem tY (v:Value) (p:Row) (hp:Fit 137438953472 p) :
  Meets Tryz.prog 99 [v] [(v,V p)] (fun r os fs=>os=[]∧fs=[]∧r=.int .i64 ((dg (vv p):Nat) - 1:Int)):=by
 have:=qJ v p hp
 rw [deg_dgM] at this; exact this
theorem nO {K:bZ} {os:List Own} {fs:List bD} {v:Value} {l:List Int} {k:Nat} (hs:isSl v) (hn:Nm l) (hp:szR k l) (hk:k≤34359738368)
  (kk:K v (jY 2 J z0 v ((redc l).map cn)::os) fs):CallK Tryz.prog false (.func (.func 166) #[] #[]) [v] (jY 2 J z0 v (l.map cn)::os) fs K:=by
 have hml:(l.map cn).length=l.length:=List.length_map _
 have hgs:sz (cE l:Nat) k:=pP hp
 have hne:0<l.length→((cE l:Nat):Int)≠0:=fun h e=>by
  have h1:=dZ.1 (show cE l=0 by omega)
  rw [eH hn] at h1; omega
 have hcv:∀ y,y<l.length→J ((l.map cn).getD y z0)=zd (if y<0 then l.getD y 0/(cE l:Int) else l.getD y 0):=fun y hy=>by rw [fE hy,if_neg (Nat.not_lt_zero _)]; rfl
 have hce:∀ y,y<l.length→zd (if y<l.length then l.getD y 0/(cE l:Int) else l.getD y 0)=J (((redc l).map cn).getD y z0):=fun y hy=>by
  rw [if_pos hy,fE (by rw [jO]; exact hy)]
  unfold redc
  rw [gE (l:=List.map _ _),List.getElem?_map,gE,List.getElem?_eq_getElem hy]; rfl
 refine fB Tryz.func166 qK rfl qK (Nat.le_of_ble_eq_true rfl) ?_
 refine tL 0 rfl hs hp qN fun x1=>?_
 refine aM (d:=I false []) fun c hc=>?_
 refine aI (d:=zd (cE l:Nat)) 0 rfl hc rfl qK (aC (v:=x1) (List.Mem.head _)) ?_
 refine cS 1 rfl hs fun _=>?_
 generalize ((cE l:Nat):Int)=g at *
 refine aO (X:=Nat) (fun i=>([(0,v),(3,c),(8,.int .i64 ((l.map cn).length:Nat)),(9,.int .i64 (i:Nat))],bE c 2 1 (fun _=>zd g)::bE v 2 l.length (fun y=>zd (if y<i then l.getD y 0/g else l.getD y 0))::os,fs)) (fun i=>i≤l.length) (fun i=>l.length - i) rfl ?_ ?_
 ·exact aU 0 (Nat.zero_le _) trivial qF (aA (bJ rfl) (aA (Seals.own_cong (os:=bE c 2 1 (fun _=>zd g)::jY 2 J z0 v (l.map cn)::os) 1 (n':=l.length) (fun y=>zd (if y<0 then l.getD y 0/g else l.getD y 0)) rfl hml fun y hy=>hcv y (by rw [hml] at hy; exact hy)) (aB fun F hF=>List.Mem.tail _ hF)))
 rintro i hi
 refine aD _ rfl (fun hlt=>?_) (fun hlt=>?_)
 ·have hin:i<l.length:=by omega
  have hai:=hp.get i
  have hg0:=hne qN
  refine gO [0,1,2,3,4,5,6,7,8,9,12,13,10,11] qK ?_
  refine eE [0,1,2,3,4,5,6,7,8,9,10,11,12,13] qK qK ?_
  refine aE 1 rfl hs i rfl qN ?_
  refine bK (d:=zd (l.getD i 0)) 1 rfl i qN (by rw [if_neg qN]) (aN _ _) fun y1=>?_
  refine aF (d:=zd g) 0 rfl hc rfl (aN _ _) fun y2=>?_
  refine cF (gK y1 y2 _ _ _ _ hai hgs qN qN hg0) ?_
  rintro _ _ _ ⟨rfl,y3,y4,rfl,rfl⟩
  refine aE 1 rfl hs i rfl qN ?_
  refine cI (bL (d:=zd (l.getD i 0/g)) 1 rfl i qN rfl qK (aC qM) ⟨_,_,Seals.own_cong (os:=bE c 2 1 (fun _=>zd g)::_::os) 1 (fun y=>zd (if y<i+1 then l.getD y 0/g else l.getD y 0)) rfl rfl (fun y _=>div_s l g i y),?_⟩)
  refine ar rfl qI ?_
  exact aU (i+1) qN (by simp only; omega) qF (aA (bJ rfl) (aB qD))
 ·have hin:i=l.length:=by omega
  subst hin
  exact fin kk (dS (Seals.own_cong (os:=bE v 2 l.length _::os) 0 (n':=((redc l).map cn).length) (fun y=>J (((redc l).map cn).getD y z0)) rfl (by rw [List.length_map,jO]) fun y hy=>hce y hy))
theorem t7 {α β:Type} (f:α→β) (l:List α) (a:α):l.map f++[f a]=(l++[a]).map f:=by rw [List.map_append]; rfl
theorem szR.redc {k:Nat} {l:List Int} (h:szR k l):szR k (redc l):=fun x hx=>by
 unfold Go.Proofs.YtjebljkoiaojaaaGreat.redc at hx
 obtain ⟨y,hy,rfl⟩:=List.mem_map.1 hx
 exact pW (h y hy)
theorem pDegreeL (v:Value) (l:List Int) (k:Nat) (h:szR k l) (hk:k≤137438953472) :
  Meets Tryz.prog 99 [v] [(v,vd l)] (fun r os fs=>os=[]∧fs=[]∧r=.int .i64 ((dg l:Nat) - 1:Int)):=by
 have:=tY v (l.map cn) (h.fit.mono hk)
 rw [fR] at this; exact this
structure ChS where
 lv:Value
 nv:Value
 ls:List (List Int)
 nx:List Int
 e:Nat
def chK (k n:Nat):Nat:=ge (dvk k n+1) n n
def SimOk (P:List Int) (K n:Nat):Prop:=∀ s,m5 P s→∃ e,szR e s∧s.length≤n∧ge (e+1) n n≤K
theorem chain_meets (v:Value) (p:Row) (k N K n:Nat) (hp:Fit k p) (lp:p.length≤N) (hN:N≤1048576) (hd0:0<dg (vv p)) (hk:ge (k+1) (N - 1) N+(k+1)≤137438953472) (hd:k+(N+1)*(dvk (k+1) N+1)≤137438953472)
  (hss:SimOk (vv p) K n) (hnN:n≤N) (hK:K*(n+2)≤34359738368) :
  Meets Tryz.prog 146 [v] [(v,V p)] (fun r os fs=>os=[]∧∃ s ls,m5 (vv p) s∧CH s ls []∧(∀ l,l∈ls→szR K l∧l.length≤N)∧fs=[(r,wd ls)]):=by
 have hml:∀ l:List Int,(l.map cn).length=l.length:=fun l=>List.length_map _
 have hK2:K*2≤K*(n+2):=Nat.mul_le_mul_left _ qN
 refine mV Tryz.func146 ?_
 refine cF (pSimpleN_meets v p k N hp lp qN hk hd) ?_
 rintro x1 _ _ ⟨rfl,s,hs,_,rfl⟩
 obtain ⟨e0,zs,hsm,hKe⟩:=hss s hs
 have hn:n≤1048576:=by omega
 have hge:e0+1+1≤K:=by
  refine Nat.le_trans ?_ hKe
  unfold ge
  exact Nat.le_mul_of_pos_right _ (Nat.mul_pos (Nat.pow_pos qE) (Nat.pow_pos qE))
 obtain ⟨gg,hg1,hg2⟩:=hs.ok hd0
 have hsd:0<dg s∧dg s≤dg (pprim (vv p)):=Dv.deg (a:=s) (b:=pprim (vv p)) ⟨gg,fun x=>by rw [hg2]; exact Int.mul_comm _ _⟩ (by rw [dO]; exact hd0)
 rw [dO] at hsd
 have hsl:s.length=dg s:=(eH hs.sn).symm
 have hs0:s≠[]:=List.length_pos_iff.1 qN
 refine fL (size:=1) (n:=1) [x1] [V (s.map cn)] rfl rfl qE qE ⟨aC qM,rfl,trivial⟩ fun l0 hl0=>?_
 refine aE 0 rfl hl0 0 rfl qE ?_
 refine bK (d:=V (s.map cn)) 0 rfl 0 qE rfl (kX _) fun y1=>?_
 refine cG (pDeriveT y1 s (e0) zs qN qN) fun n0=>?_
 refine aO (X:=ChS) (fun x=>([(3,x.lv),(4,x.nv)],[jY 1 V [] x.lv (x.ls.map fun l=>l.map cn)],[(x.nv,vd x.nx)]))
  (fun x=>isSl x.lv∧CH s x.ls x.nx∧(∀ l,l∈x.ls→szR (K) l∧l.length≤n)∧szR x.e (chF x.ls x.nx (x.ls.length - 1))∧szR x.e x.nx∧x.nx.length≤n∧e0+1≤x.e∧x.e+1≤ge (e0+1) x.ls.length (dg s - dg (chF x.ls x.nx (x.ls.length - 1)))) (fun x=>x.nx.length) rfl ?_ ?_
 ·refine aU ⟨l0,n0,[s],pder s,e0+1⟩ ⟨hl0,CH.start hs.sn hs0,fun l hl=>?_,zs.mono (Nat.le_succ _),zs.pder qN,?_,Nat.le_refl _,?_⟩ trivial qF (aA (Seals.own_cong (os:=[_]) 0 (n':=1) (fun i=>V (([s].map fun l=>l.map cn).getD i [])) rfl rfl fun i hi=>?_) (aB qS))
  ·rw [List.mem_singleton.1 hl]; exact ⟨zs.mono qN,by omega⟩
  ·have:=pder_len s; show (pder s).length≤n; omega
  ·show e0+1+1≤ge (e0+1) 1 _
   unfold ge
   exact Nat.le_mul_of_pos_right _ (Nat.mul_pos (Nat.pow_pos qE) (Nat.pow_pos qE))
  ·have:i=0:=by omega
   subst this; rfl
 rintro ⟨lv,nv,ls,nx,e⟩ ⟨hlv,hc,hall,za,zb,lb,he1,he⟩
 simp only at hlv hc hall za zb lb he1 he ⊢
 have hln:=hc.len
 have hsh:=hc.short (ls.length - 1) qN
 have hsh2:=hc.short ls.length (Nat.le_refl _)
 have hlow:=hc.low (ls.length - 1) qN
 rw [show ls.length - 1+1=ls.length by omega] at hlow
 have hlast:=mU ls nx
 rw [hlast] at hlow hsh2
 have han:=hc.nm (ls.length - 1) qN
 have hbn:=hc.nm ls.length (Nat.le_refl _)
 rw [hlast] at hbn
 have hapos:=hc.pos (ls.length - 1) qN
 have hag:ls.getD (ls.length - 1) []=chF ls nx (ls.length - 1):=(chF_lt qN).symm
 have hstep:=fun (h0:nx≠[]) T R h=>hc.step (T:=T) (R:=R) h0 h
 refine fV qM ?_
 refine aD _ rfl (fun hgt=>?_) (fun hgt=>?_)
 ·have hb0:0<nx.length:=by omega
  have hnx:nx≠[]:=List.length_pos_iff.1 hb0
  have hdb:dg nx=nx.length:=eH hbn
  have hda:dg (chF ls nx (ls.length - 1))=(chF ls nx (ls.length - 1)).length:=eH han
  have he2:e+1≤K:=Nat.le_trans he (Nat.le_trans (ge_mono qN qN) hKe)
  have hstep':=hstep hnx
  generalize hA:chF ls nx (ls.length - 1)=A at *
  have hAl:A.length≤n:=by omega
  have hre:∀ j,j≤n+1→re e j≤34359738368:=fun j hj=>by
   unfold re
   have h1:(e+1)*(j+1)≤K*(n+2):=Nat.mul_le_mul he2 qN
   have h2:(e+1)*(j+1)=j*(e+1)+(e+1):=by rw [Nat.mul_add,Nat.mul_comm]; omega
   omega
  have hrest:=fun a b=>pRestOT a b A nx e za zb qN (Nat.le_trans (hre _ qN) qE) qN qN
  have hj:=ge_step (j:=dg A+1 - dg nx) (δ:=dg A - dg nx) he qN
  rw [show dg s - dg A+(dg A - dg nx)=dg s - dg nx by omega] at hj
  refine mE (size:=1) V [] (nx.map cn) qE (aC (v:=nv) (d:=V (nx.map cn)) qM) rfl fun l1=>?_
  refine gX 0 rfl hlv (bC (v:=l1) qM) (by simp; omega) (by simp; omega) fun lv2 hlv2=>?_
  rw [t7 (fun l:List Int=>l.map cn)]
  have hl2:((ls++[nx]).map fun l:List Int=>l.map cn).length=ls.length+1:=by simp
  have hel:((ls++[nx]).map fun l:List Int=>l.map cn).getD (ls.length - 1) []=A.map cn:=by
   rw [tI,← chF_lt (nx:=[]) (by simp; omega),chF_snoc qN,hA]
  refine cS 0 rfl hlv2 fun _=>?_
  refine ar rfl qI ?_
  refine aE 0 rfl hlv2 (ls.length - 1) qN qN ?_
  refine bK (d:=V (A.map cn)) 0 rfl (ls.length - 1) qN (by show V _=_; rw [hel]) (kX _) fun y2=>?_
  refine cF (hrest y2 nv) ?_
  rintro _ _ _ ⟨ta,rb,T,R,hrb,rfl,hR,rfl⟩
  rw [if_neg qN] at hR
  obtain ⟨rfl,hspec,zT,zR,lT,lR⟩:=hR
  have hlast2:∀ y,chF (ls++[nx]) y ((ls++[nx]).length - 1)=nx:=fun y=>by
   rw [List.length_append,show ls.length+[nx].length - 1=ls.length from Nat.add_sub_cancel _ _,chF_snoc (Nat.le_refl _),hlast]
  refine cH (pDegreeL y2 A e za qN) ?_
  refine cH (pDegreeL nv nx e zb qN) ?_
  refine ar rfl qI ?_
  refine ar (n:=((dg A+1 - dg nx:Nat):Int)) (congrArg some qN) ⟨by omega,by omega⟩ ?_
  refine tX qN qE ?_
  refine aD _ rfl (fun hev=>?_) (fun hev=>?_)
  ·have hcond:(dg A+1 - dg nx)%2=0∨0<ld nx:=.inl qN
   have en:nxt A nx R=ptim (-1) R:=if_pos hcond
   have hzz:szR (re e (dg A+1 - dg nx)) (ptim (-1) R):=zR.neg
   refine cG (dN (-1) qE qE) fun u1=>?_
   refine dK (pTimesOT rb u1 R (-1) _ 1 zR (jS _ qE) (by have:=hre (dg A+1 - dg nx) qN; omega) qN) (Seals.L 0 rfl hrb) qS ?_
   rintro r2 _ _ ⟨hr2,rfl,rfl⟩
   have hnn:Nm (ptim (-1) R):=by first | exact hspec.rn | (rw [← en]; exact nxt_nm hspec.rn)
   have hdn:dg (ptim (-1) R)=dg R:=by first | rfl | (rw [← en]; exact nxt_dg _ _ _)
   have hll:=eH hnn
   have hstep2:=hstep' T R hspec
   rw [en] at hstep2
   have hlow2:=hspec.low
   refine nO hr2 hnn hzz (hre _ qN) ?_
   refine aU ⟨lv2,r2,ls++[nx],redc (ptim (-1) R),re e (dg A+1 - dg nx)⟩ ⟨hlv2,hstep2,fun l hl=>?_,?_,hzz.redc,?_,Nat.le_trans he1 (re_ge _ _),?_⟩ ?_ qF (aA (dC hr2) (aB qS))
   ·rcases List.mem_append.1 hl with h | h
    ·exact hall l h
    ·rw [List.mem_singleton.1 h]; exact ⟨zb.mono qN,lb⟩
   ·show szR _ (chF (ls++[nx]) _ ((ls++[nx]).length - 1))
    rw [hlast2]; exact zb.mono (re_ge _ _)
   ·show (redc _).length≤n
    rw [jO,← hll,hdn]; omega
   ·show _≤ge _ (ls++[nx]).length (dg s - dg (chF (ls++[nx]) _ ((ls++[nx]).length - 1)))
    rw [hlast2,List.length_append]; exact hj
   ·show (redc _).length<nx.length
    rw [jO,← hll,hdn]; omega
  ·have hld:ld nx=nx.getD (nx.length - 1) 0:=by unfold ld; rw [hdb]
   refine fV qM ?_
   refine ar rfl qI ?_
   refine aQ (v:=nv) qM (nx.length - 1) qN (by rw [List.length_map]; omega) fun a1=>?_
   refine aX (d:=J ((nx.map cn).getD (nx.length - 1) z0)) qM (bM _) fun a2=>?_
   have hsg:∀ y,Meets Tryz.prog 51 [y] [(y,J ((nx.map cn).getD (nx.length - 1) z0))] (fun r os fs=>os=[]∧fs=[]∧r=.int .i64 (ld nx).sign):=fun y=>by
    rw [fE qN,hld]; exact uG y _ e (zb.get _) qN
   refine cH (hsg a2) ?_
   refine aD _ rfl (fun hpos=>?_) (fun hpos=>?_)
   ·have hcond:(dg A+1 - dg nx)%2=0∨0<ld nx:=.inr (by
     rcases Int.lt_trichotomy (ld nx) 0 with h | h | h
     ·rw [eO h] at hpos; omega
     ·rw [h] at hpos; simp at hpos
     ·exact h)
    have en:nxt A nx R=ptim (-1) R:=if_pos hcond
    have hzz:szR (re e (dg A+1 - dg nx)) (ptim (-1) R):=zR.neg
    refine cG (dN (-1) qE qE) fun u1=>?_
    refine dK (pTimesOT rb u1 R (-1) _ 1 zR (jS _ qE) (by have:=hre (dg A+1 - dg nx) qN; omega) qN) (Seals.L 0 rfl hrb) qS ?_
    rintro r2 _ _ ⟨hr2,rfl,rfl⟩
    have hnn:Nm (ptim (-1) R):=by first | exact hspec.rn | (rw [← en]; exact nxt_nm hspec.rn)
    have hdn:dg (ptim (-1) R)=dg R:=by first | rfl | (rw [← en]; exact nxt_dg _ _ _)
    have hll:=eH hnn
    have hstep2:=hstep' T R hspec
    rw [en] at hstep2
    have hlow2:=hspec.low
    refine nO hr2 hnn hzz (hre _ qN) ?_
    refine aU ⟨lv2,r2,ls++[nx],redc (ptim (-1) R),re e (dg A+1 - dg nx)⟩ ⟨hlv2,hstep2,fun l hl=>?_,?_,hzz.redc,?_,Nat.le_trans he1 (re_ge _ _),?_⟩ ?_ qF (aA (dC hr2) (aB qS))
    ·rcases List.mem_append.1 hl with h | h
     ·exact hall l h
     ·rw [List.mem_singleton.1 h]; exact ⟨zb.mono qN,lb⟩
    ·show szR _ (chF (ls++[nx]) _ ((ls++[nx]).length - 1))
     rw [hlast2]; exact zb.mono (re_ge _ _)
    ·show (redc _).length≤n
     rw [jO,← hll,hdn]; omega
    ·show _≤ge _ (ls++[nx]).length (dg s - dg (chF (ls++[nx]) _ ((ls++[nx]).length - 1)))
     rw [hlast2,List.length_append]; exact hj
    ·show (redc _).length<nx.length
     rw [jO,← hll,hdn]; omega
   ·have hcond:¬ ((dg A+1 - dg nx)%2=0∨0<ld nx):=fun h=>by
     rcases h with h | h
     ·omega
     ·rw [eN h] at hpos; omega
    have en:nxt A nx R=R:=if_neg hcond
    have hzz:=zR
    have hnn:Nm (R):=by first | exact hspec.rn | (rw [← en]; exact nxt_nm hspec.rn)
    have hdn:dg (R)=dg R:=by first | rfl | (rw [← en]; exact nxt_dg _ _ _)
    have hll:=eH hnn
    have hstep2:=hstep' T R hspec
    rw [en] at hstep2
    have hlow2:=hspec.low
    refine nO hrb hnn hzz (hre _ qN) ?_
    refine aU ⟨lv2,rb,ls++[nx],redc (R),re e (dg A+1 - dg nx)⟩ ⟨hlv2,hstep2,fun l hl=>?_,?_,hzz.redc,?_,Nat.le_trans he1 (re_ge _ _),?_⟩ ?_ qF (aA (dC hrb) (aB qS))
    ·rcases List.mem_append.1 hl with h | h
     ·exact hall l h
     ·rw [List.mem_singleton.1 h]; exact ⟨zb.mono qN,lb⟩
    ·show szR _ (chF (ls++[nx]) _ ((ls++[nx]).length - 1))
     rw [hlast2]; exact zb.mono (re_ge _ _)
    ·show (redc _).length≤n
     rw [jO,← hll,hdn]; omega
    ·show _≤ge _ (ls++[nx]).length (dg s - dg (chF (ls++[nx]) _ ((ls++[nx]).length - 1)))
     rw [hlast2,List.length_append]; exact hj
    ·show (redc _).length<nx.length
     rw [jO,← hll,hdn]; omega
 ·obtain rfl:nx=[]:=List.length_eq_zero_iff.1 qN
  exact fin ⟨rfl,s,ls,hs,hc,fun l hl=>⟨(hall l hl).1,Nat.le_trans (hall l hl).2 hnN⟩,rfl⟩ (aA (Seals.L 0 rfl hlv) (aB qS))
end Go.Proofs.YtjebljkoiaojaaaGreat
