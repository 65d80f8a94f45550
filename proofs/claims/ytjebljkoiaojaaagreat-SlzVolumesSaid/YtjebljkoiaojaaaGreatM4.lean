/- Towards the statement, part 4 of 6: contracts of functions, and what they rest on. Conditions: each theorem names its own. -/
import Derived.Test.YtjebljkoiaojaaaGreatM3
import Derived.DeepKeys4
set_option linter.unusedVariables false
set_option linter.unusedSimpArgs false
namespace Go.Proofs.YtjebljkoiaojaaaGreat
open Go.RowKit
theorem vx_drop (ls:List (List Int)) (x:Int):∀ (e i:Nat),i+e=ls.length→vx (fun j=>ls.getD j []) x i e=(ls.drop i).map fun l=>pev l x
 | 0,i,h=>by rw [List.drop_eq_nil_of_le qN]; rfl
 | e+1,i,h=>by
  have hi:i<ls.length:=by omega
  rw [List.drop_eq_getElem_cons hi,List.map_cons,← vx_drop ls x e (i+1) qN]
  have:ls[i]=ls.getD i []:=by rw [gE,List.getElem?_eq_getElem hi]; rfl
  rw [this]; rfl
def tns (ls:List (List Int)) (x:Int):Nat:=vs 0 (ls.map fun l=>pev l x)
theorem tns_sV {ls:List (List Int)} (h:1≤ls.length) (x:Int):tns ls x=sV (fun i=>ls.getD i []) (ls.length - 1) x:=by
 unfold tns sV
 rw [show ls.length - 1+1=ls.length by omega,vx_drop ls x ls.length 0 qN,List.drop_zero]
theorem tns_le (ls:List (List Int)) (x:Int):tns ls x≤ls.length - 1:=by
 unfold tns
 have:=vs_len0 (ls.map fun l=>pev l x)
 rwa [List.length_map] at this
theorem turnsT (v w:Value) (ls:List (List Int)) (x:Bool×List Nat) (k a n:Nat) (hm:∀ l,l∈ls→szR k l∧l.length≤n) (hxl:Lim x.2) (hxa:x.2.length≤a) (hk:k+(n+1)*(a+1)≤137438953472) (ln:n≤1073741824) (lm:ls.length≤1073741824) :
  Meets Tryz.prog 148 [v,w] [(v,wd ls),(w,J x)] (fun r os fs=>os=[]∧fs=[]∧r=.int .i64 (tns ls (jv x):Nat)):=by
 have h:=turns_meets v w (ls.map fun l=>l.map cn) x k a n (fun r hr=>by
  obtain ⟨l,hl,rfl⟩:=List.mem_map.1 hr
  exact ⟨(hm l hl).1.fit,by rw [List.length_map]; exact (hm l hl).2⟩) hxl hxa hk ln (by rw [List.length_map]; exact lm)
 rw [List.map_map] at h
 have e:(ls.map ((fun r=>pev (vv r) (jv x)) ∘ fun l=>l.map cn))=ls.map fun l=>pev l (jv x):=List.map_congr_left fun l _=>by show pev (vv (l.map cn)) _=_; rw [fR]
 rw [e] at h
 exact h
structure ChOk (P:List Int) (k n a:Nat):Prop where
 n1:n≤1048576
 k1:ge (k+1) (n - 1) n+(k+1)≤137438953472
 k2:k+(n+1)*(dvk (k+1) n+1)≤137438953472
 k3:∃ K m,SimOk P K m∧m≤n∧K*(m+2)≤34359738368∧K+(n+1)*(a+1)≤137438953472
 k5:k+(n+1)*(a+1)≤137438953472
structure Ch0 (k n a:Nat):Prop where
 n1:n≤1048576
 k1:ge (k+1) n n*(n+2)≤137438953472
 k2:k+(n+1)*(dvk (k+1) n+1)≤137438953472
 k3:chK k n*(n+2)≤34359738368
 k4:chK k n+(n+1)*(a+1)≤137438953472
 k5:k+(n+1)*(a+1)≤137438953472
theorem sim_sz {P s:List Int} {k n:Nat} (hP:szR k P) (hl:P.length≤n) (hn:n≤1048576) (h:m5 P s):szR (dvk k n) s∧s.length≤n:=by
 by_cases h0:dg P=0
 ·rw [h.zero h0]; exact ⟨fun x hx=>by simp at hx,Nat.zero_le _⟩
 ·obtain ⟨g,_,hg⟩:=h.ok qN
  have hd:=dO P
  have hdl:=dY P
  have hv:Dv s (pprim P):=⟨g,fun x=>by rw [hg]; exact Int.mul_comm _ _⟩
  refine ⟨dv_szR hv qN hP.pprim h.sn qN qN,?_⟩
  have:=(hv.deg qN).2
  rw [eH h.sn] at this
  omega
theorem Ch0.of {p:Row} {k n a:Nat} (h:Ch0 k n a) (hp:Fit k p) (lp:p.length≤n):ChOk (vv p) k n a :=
 ⟨h.n1,Nat.le_trans (ge_old _ _) h.k1,h.k2,⟨chK k n,n,fun _ hs=>⟨dvk k n,(sim_sz hp.szR (by rw [cV]; exact lp) h.n1 hs).1,(sim_sz hp.szR (by rw [cV]; exact lp) h.n1 hs).2,Nat.le_refl _⟩,Nat.le_refl _,h.k3,h.k4⟩,h.k5⟩
def pfx:Value→Nat→Value
 | .slice a _ c,k=>.slice a k c
 | v,_=>v
theorem pfx_sl {v:Value} {k:Nat} (h:isSl v):isSl (pfx v k):=by
 obtain ⟨a,n,c,rfl⟩:=h
 exact ⟨_,_,_,rfl⟩
theorem own_cases {G:Ctx} {os:List Own} {fs:List bD} {w:World} {pos size n:Nat} {v:Value} {d:Nat→Dat} (hw:Holds G os fs w) (h:a8 os pos=some (bE v size n d)) (hs:isSl v) (hsz:0<size) :
  (v=.slice none 0 0∧n=0)∨∃ r cap,v=.slice (some ⟨r,0,none⟩) n cap∧OwnRow (Good G.A os w) G.B w r size n cap d:=by
 rcases hw.own _ (bF h) 0 Nat.zero_lt_one with h1 | h1 | ⟨r,h1,_⟩ | ⟨_,h2,_⟩
 ·exact .inl h1
 ·exact .inr h1
 ·obtain ⟨_,_,_,rfl⟩:=hs; simp [bE] at h1
 ·simp only [bE] at h2; omega
theorem slice_pfx {P:Program} {t e:TypeId} {v:Value} {size n:Nat} {d:Nat→Dat} {kk:IntKind} {x:Int} {os:List Own} {fs:List bD} {K:bZ} [ht:TSl P t e size] (pos:Nat) (h:a8 os pos=some (bE v size n d)) (hs:isSl v)
  (k:Nat) (hx:x=(k:Int)) (hk:k≤n) (hsz:0<size) (kf:K (pfx v k) os fs):SliceK P t v none (some (.int kk x)) none os fs K:=by
 subst hx
 refine ⟨fun G w hw=>⟨pfx v k,fs,fun w' _=>c9 ?_,kf,hw⟩⟩
 rcases own_cases hw h hs hsz with ⟨rfl,rfl⟩ | ⟨r,cap,rfl,h1,h2,_⟩
 ·obtain rfl:k=0:=by omega
  simp [Instr.sliceAt,run_underlying ht.und,Instr.slice,Instr.sliceBounds,Instr.sliceBound,asIntOf,bQ ht.size,pfx]
 ·have h3:(0:Int)≤(k:Int):=by omega
  have h4:(k:Int)≤(cap:Int):=by omega
  have h5:Addr.add ⟨r,0,none⟩ 0=⟨r,0,none⟩:=by simp [eX]
  by_cases hc:cap=0
  ·subst hc
   obtain rfl:k=0:=by omega
   simp [Instr.sliceAt,run_underlying ht.und,Instr.slice,Instr.sliceBounds,Instr.sliceBound,asIntOf,bQ ht.size,pfx]
  ·simp [Instr.sliceAt,run_underlying ht.und,Instr.slice,Instr.sliceBounds,Instr.sliceBound,asIntOf,h3,bQ ht.size,pfx,hc,h5]
   intro hcon; omega
theorem Seals.pfx {v:Value} {size n:Nat} {d:Nat→Dat} {os:List Own} {fs:List bD} (pos:Nat) (h:a8 os pos=some (bE v size n d)) (hs:isSl v) (k:Nat) (hk:k≤n) (hsz:0<size:=by exact Nat.zero_lt_succ _) :
  Seals os fs (setOwn os pos (bE (Go.Proofs.YtjebljkoiaojaaaGreat.pfx v k) size k d)) fs:=by
 intro G w hw
 have hv:=own_cases hw h hs hsz
 have hb:l8 (Go.Proofs.YtjebljkoiaojaaaGreat.pfx v k)=l8 v:=by
  obtain ⟨a,m,c,rfl⟩:=hs
  cases a <;> rfl
 refine hw.step h rfl rfl rfl (Nat.le_refl _) (fun _ _ _=>rfl) (fun b hb'=>.inl ?_) (fun i j b hi hj _ _=>by simp only [bE] at hi hj; omega) fun mono i hi=>?_
 ·obtain ⟨i,hi,hbb⟩:=hb'
  exact ⟨i,hi,by simp only [bE] at hbb ⊢; rw [← hbb]; exact hb.symm⟩
 rcases hv with ⟨rfl,rfl⟩ | ⟨r,cap,rfl,b1,b2,b3,cur,t,b4,b5,b6⟩
 ·obtain rfl:k=0:=by omega
  exact .inl ⟨rfl,rfl⟩
 ·exact .inr (.inl ⟨r,cap,rfl,b1,by simp only [bE]; omega,b3,cur,t,b4,b5,fun j hj=>by
   simp only [bE] at hj
   obtain ⟨cs,c1,c2⟩:=b6 j qN
   exact ⟨cs,mono _ _ c1,c2⟩⟩)
theorem rS {P:Program} {ty:TypeId} {x v:Value} {k size:Nat} {e:Nat→Dat} {d d':Dat} {os:List Own} {fs:List bD} {K:bZ} (pos:Nat) (h:a8 os pos=some (bE v size 1 e)) (hbx:l5 v) (hk:k+d.cells≤size) (hd0:0<d.cells)
  (ht:(P.info? ty).map (·.size)=some d.cells) (hx:Reads os fs x d)
  (hd:∀ S w cs cs',RdC S w (e 0) cs→RdC S w d cs'→RdC S w d' (cs.take k++cs'++cs.drop (k+cs'.length))) (k':K undef (setOwn os pos (bE v size 1 fun _=>d')) fs):StoreK P ty (k6 v k) x os fs K:=by
 obtain ⟨r,rfl⟩:=hbx
 refine ⟨fun G w hw=>?_⟩
 obtain ⟨cx,x1,x2⟩:=hx G w hw
 have hlx:cx.length=d.cells:=dJ x1
 have hov:=hw.own _ (bF h) 0 Nat.zero_lt_one
 obtain ⟨r',cap,hr⟩:=hov.row Nat.zero_lt_one
 have hrr:r'=r:=by have:=hr.blk; simp [bE,l8] at this; exact this.symm
 subst hrr
 obtain ⟨b1,b2,b3,cur,t,b4,b5,b6⟩:=hr.row
 obtain ⟨cs,c1,c2,c3⟩:=b6 0 Nat.zero_lt_one
 have hcap:1≤cap:=b2
 have hs:(bE (.pointer (some ⟨r',0,none⟩)) size 1 e).size=size:=rfl
 have hfit:k+cx.length≤cur.size:=by
  have:1*size≤cap*size:=Nat.mul_le_mul_right _ hcap
  rw [b5,hs,hlx]; omega
 have he:k6 (.pointer (some ⟨r',0,none⟩)) k=.pointer (some ⟨r',k,none⟩):=by simp [k6,eX]
 rw [he,uK (nM (cs:=cx) x2 (RdC.oneCells x1) (by rw [hlx]; exact ht) b4 hfit)]
 refine ⟨_,_,k',?_⟩
 have hhas:(bE (.pointer (some ⟨r',0,none⟩)) size 1 e).has r':=⟨0,Nat.zero_lt_one,hr.blk⟩
 refine hw.step h rfl rfl rfl qP (fun q hq hno=>setRow_other w r' q _ fun e'=>hno (e' ▸ hhas)) (fun b hb=>.inl hb) (fun a b c ha hb _ _=>by
  have ha':a<1:=ha
  have hb':b<1:=hb
  omega) fun mono y hy=>?_
 have hy0:y=0:=by have:y<1:=hy; omega
 subst hy0
 have hc1:cap=1:=by
  rcases hov with ⟨h1,h2⟩ | ⟨q,cap',h1,h2⟩ | ⟨q,h1,h2,h3⟩ | ⟨h1,_⟩
  ·simp [bE] at h1
  ·simp [bE] at h1
  ·have:q=r':=by simp [bE] at h1; exact h1.symm
   subst this
   obtain ⟨_,_,_,cur',t',q4,q5,_⟩:=h3
   rw [b4] at q4
   simp only [Option.some.injEq,Obj.cells.injEq] at q4
   obtain ⟨rfl,_⟩:=q4
   rw [q5] at b5
   exact (Nat.eq_of_mul_eq_mul_right (show 0<(bE (.pointer (some ⟨q,0,none⟩)) size 1 e).size by rw [hs]; omega) b5).symm
  ·simp [bE] at h1
 subst hc1
 refine .inr (.inr (.inl ⟨r',rfl,rfl,b1,Nat.le_refl _,b3,_,t,setRow_heap w r' cur _ t _ b4,?_,fun i hi=>?_⟩))
 ·simp only [List.size_toArray,List.length_append,List.length_take,List.length_drop,Array.length_toList] at hfit ⊢
  rw [b5] at hfit ⊢
  show _=1*size
  simp only [hs] at hfit ⊢
  omega
 ·have hi0:i=0:=by omega
  subst hi0
  have hm:=mono _ cs c1
  have hmx:=mono _ cx x1
  have c2':cs.length=size:=c2
  refine ⟨cs.take k++cx++cs.drop (k+cx.length),hd _ _ _ _ hm hmx,by
   show _=size
   simp only [List.length_append,List.length_take,List.length_drop]; omega,fun j hj=>?_⟩
  rw [List.getElem?_toArray,uV _ _ _ _ (by simpa using hfit)]
  have hj':j<size:=hj
  have c3':=c3 j hj'
  have c3'':cur[0*size+j]? = cs[j]? := c3'
  rw [Nat.zero_mul,Nat.zero_add] at c3''
  show (if k≤0*size+j∧0*size+j<k+cx.length then cx[0*size+j - k]? else cur.toList[0*size+j]?)=_
  have c4:cur.toList[j]? = cs[j]? := by rw [Array.getElem?_toList]; exact c3''
  rw [Nat.zero_mul,Nat.zero_add,uV cs cx k j qN,c4]
class TStr2211 (P:Program) (t:TypeId):Prop where
 und:∃ fs f0 f1 f2 f3,P.underlying t=some (.struct fs)∧fs = #[f0,f1,f2,f3]∧f0.offset=0∧f1.offset=2∧f2.offset=4∧f3.offset=5∧(P.info? f0.type).map (·.size)=some 2∧(P.info? f1.type).map (·.size)=some 2∧(P.info? f2.type).map (·.size)=some 1∧(P.info? f3.type).map (·.size)=some 1
 zero:∃ i z0 z1 z2 z3 z4 z5,P.info? t=some i∧i.zero=some (.agg #[z0,z1,z2,z3,z4,z5])
theorem build_run2211 {P:Program} {t:TypeId} {a b c d:Value} {x y:Int} (ht:TStr2211 P t) (w:World) :
  (Instr.build t #[(0,.agg #[a,b]),(1,.agg #[c,d]),(2,.int .i64 x),(3,.int .i64 y)]).run P w=.ok (.agg #[a,b,c,d,.int .i64 x,.int .i64 y]) w:=by
 obtain ⟨fs,f0,f1,f2,f3,h1,rfl,h3,h4,h5,h6,h7,h8,h9,h10⟩:=ht.und
 obtain ⟨i,z0,z1,z2,z3,z4,z5,k1,k2⟩:=ht.zero
 simp [Instr.build,zeroValue,typeInfo,k1,k2,run_underlying h1,bQ h7,bQ h8,bQ h9,bQ h10,h3,h4,h5,h6,Instr.fill,Value.cells,Array.zipIdx]
theorem RdC.two' {S:Nat→Prop} {w:World} {d1 d2:Dat} {cs:List Value} (h:RdC S w (.cat d1 d2) cs) (hc:d1.cells+d2.cells=2):∃ x y,cs=[x,y]:=by
 have:=dJ h
 simp only [Dat.cells,hc] at this
 match cs,this with
 | [x,y],_=>exact ⟨x,y,rfl⟩
theorem wY {P:Program} {t:TypeId} {a b:Value} {x y:Int} [ht:TStr2211 P t] {d1 d2 d3 d4:Dat} {os:List Own} {fs:List bD} {K:bZ} (ha:Knw os fs a (.cat d1 d2)) (hb:Knw os fs b (.cat d3 d4)) (ca:d1.cells+d2.cells=2) (cb:d3.cells+d4.cells=2)
  (k:∀ v,K v os ((v,.cat (.cat d1 d2) (.cat (.cat d3 d4) (.cat (.one (.int .i64 x)) (.one (.int .i64 y)))))::fs)):rJ P t [(0,a),(1,b),(2,.int .i64 x),(3,.int .i64 y)] os fs K:=by
 refine ⟨fun G w hw=>?_⟩
 obtain ⟨c1,a1,rfl⟩:=ha G w hw
 obtain ⟨c2,b1,rfl⟩:=hb G w hw
 obtain ⟨p,q,rfl⟩:=RdC.two' a1 ca
 obtain ⟨r,s,rfl⟩:=RdC.two' b1 cb
 exact ⟨_,_,fun w' _=>c9 (build_run2211 ht w'),k _,hw.put ⟨[p,q,r,s,.int .i64 x,.int .i64 y],⟨[p,q],[r,s,.int .i64 x,.int .i64 y],rfl,a1,⟨[r,s],[.int .i64 x,.int .i64 y],rfl,b1,⟨[.int .i64 x],[.int .i64 y],rfl,⟨rfl,rfl⟩,⟨rfl,rfl⟩⟩⟩⟩,rfl⟩⟩
def pD (lo hi m n:Int):Dat:=.cat (zd lo) (.cat (zd hi) (.cat (.one (.int .i64 m)) (.one (.int .i64 n))))
theorem vX:(Tryz.prog.info? 152).map (fun i=>(i.zero,i.size,i.bytes))=some (some (.agg #[.bool false,.slice none 0 0,.bool false,.slice none 0 0,.int .i64 0,.int .i64 0]),6,80):=by kernel_rfl
instance iCSd1:TStr2211 Tryz.prog 152:=⟨⟨_,_,_,_,_,Tryz.underlying152,rfl,rfl,rfl,rfl,rfl,by kernel_rfl,by kernel_rfl,by kernel_rfl,by kernel_rfl⟩,by
 obtain ⟨i,h1,_,_,h4⟩:=l6 vX
 exact ⟨i,_,_,_,_,_,_,h1,h4⟩⟩
instance iCSd2:TAgg Tryz.prog 152 6:=⟨⟨_,Tryz.underlying152,rfl⟩,by kernel_rfl⟩
instance iCSd3:tQ Tryz.prog 152 0 0:=⟨_,_,Tryz.underlying152,rfl,rfl,1,by kernel_rfl⟩
instance iCSd4:tQ Tryz.prog 152 1 2:=⟨_,_,Tryz.underlying152,rfl,rfl,1,by kernel_rfl⟩
instance iCSd5:tQ Tryz.prog 152 2 4:=⟨_,_,Tryz.underlying152,rfl,rfl,0,by kernel_rfl⟩
instance iCSd6:tQ Tryz.prog 152 3 5:=⟨_,_,Tryz.underlying152,rfl,rfl,0,by kernel_rfl⟩
instance iCSd7:TEl Tryz.prog 152 6 80:=tel vX rfl qE
instance iCSd8:TSl Tryz.prog 155 152 6:=⟨Tryz.underlying155,by kernel_rfl⟩
instance iCSd9:mJ Tryz.prog 109:=⟨⟨_,Tryz.underlying109,trivial⟩,by kernel_rfl⟩
theorem info_pp5:(Tryz.prog.info? 109).map (fun i=>(i.zero,i.size,i.bytes))=some (some (.slice none 0 0),1,24):=by kernel_rfl
instance tzpp5:m4 Tryz.prog 109 (.sl 1 0 fun _=>.one (.bool false)):=uL info_pp5 fun S w=>gM S w 1 _
def pZ:Dat:=.cat (I false []) (.cat (I false []) (.cat (.one (.int .i64 0)) (.one (.int .i64 0))))
instance tzPart:m4 Tryz.prog 152 pZ :=
 uL vX fun S w=>⟨[.bool false,.slice none 0 0],[.bool false,.slice none 0 0,.int .i64 0,.int .i64 0],rfl,⟨[.bool false],[.slice none 0 0],rfl,eJ S w,gM S w 1 _⟩,
  ⟨[.bool false,.slice none 0 0],[.int .i64 0,.int .i64 0],rfl,⟨[.bool false],[.slice none 0 0],rfl,eJ S w,gM S w 1 _⟩,⟨[.int .i64 0],[.int .i64 0],rfl,⟨rfl,rfl⟩,⟨rfl,rfl⟩⟩⟩⟩
theorem load_pD (lo hi m n:Int):jC Tryz.prog 152 (pD lo hi m n):=(inferInstance:TAgg Tryz.prog 152 6)
theorem pD_lo {lo hi m n x:Int} (S:Nat→Prop) (w:World) (cs cs':List Value) (h:RdC S w (pD lo hi m n) cs) (h':RdC S w (zd x) cs'):RdC S w (pD x hi m n) (cs.take 0++cs'++cs.drop (0+cs'.length)):=by
 have hl:cs'.length=2:=dJ h'
 obtain ⟨c1,c2,rfl,a1,a2⟩:=h
 have hl1:c1.length=2:=dJ a1
 refine ⟨cs',c2,?_,h',a2⟩
 rw [List.take_zero,List.nil_append,hl,← hl1]
 simp
theorem pD_hi {lo hi m n x:Int} (S:Nat→Prop) (w:World) (cs cs':List Value) (h:RdC S w (pD lo hi m n) cs) (h':RdC S w (zd x) cs'):RdC S w (pD lo x m n) (cs.take 2++cs'++cs.drop (2+cs'.length)):=by
 have hl:cs'.length=2:=dJ h'
 obtain ⟨c1,c2,rfl,a1,c3,c4,rfl,a3,a4⟩:=h
 have hl1:c1.length=2:=dJ a1
 have hl3:c3.length=2:=dJ a3
 refine ⟨c1,cs'++c4,?_,a1,cs',c4,rfl,h',a4⟩
 have e1:(c1++(c3++c4)).take 2=c1:=by rw [← hl1]; simp
 have e2:(c1++(c3++c4)).drop (2+cs'.length)=c4:=by
  rw [hl,← List.append_assoc,show 2+2=(c1++c3).length by rw [List.length_append]; omega]
  exact List.drop_left
 rw [e1,e2,List.append_assoc]
theorem rtSignT (v w:Value) (l:List Int) (x:Int) (k a n:Nat) (hl:szR k l) (hx:sz x a) (hn:l.length≤n) (hk:k+(n+1)*(a+1)≤137438953472) (ln:n≤1073741824) :
  Meets Tryz.prog 112 [v,w] [(v,vd l),(w,zd x)] (fun r os fs=>os=[]∧fs=[]∧r=.int .i64 (pev l x).sign):=by
 have hm:(l.length+1)*(a+1)≤(n+1)*(a+1):=Nat.mul_le_mul_right _ qN
 have h:=nN v w (l.map cn) (cn x) k a hl.fit (a0 _) hx.len (by rw [List.length_map]; omega) (by rw [List.length_map]; omega)
 rw [fR,eR] at h
 exact h
theorem sgn3b (y:Int):y.sign = -1∨y.sign=0∨y.sign=1:=by
 rcases Int.lt_trichotomy y 0 with h | h | h
 ·rw [eO h]; omega
 ·rw [h]; simp
 ·rw [eN h]; omega
theorem sgn0 {y:Int}:y.sign=0↔y=0:=Int.sign_eq_zero_iff_zero
def manyV (s:List Int) (lo hi m n:Int):Int:=m - n+(if pev s lo=0 then 1 else 0) - (if pev s hi=0 then 1 else 0)
theorem many_meets (v b:Value) (ls:List (List Int)) (lo hi m n:Int) (k a N:Nat) (h1:1≤ls.length) (hs:szR k (ls.getD 0 [])) (hN:(ls.getD 0 []).length≤N) (hlo:sz lo a) (hhi:sz hi a) (hk:k+(N+1)*(a+1)≤137438953472) (lN:N≤1073741824)
  (hm:0≤m∧m≤1073741824) (hn:0≤n∧n≤1073741824) :
  Meets Tryz.prog 147 [v,b] [(v,pD lo hi m n),(b,.ptr (wd ls))] (fun r os fs=>os=[]∧fs=[]∧r=.int .i64 (manyV (ls.getD 0 []) lo hi m n)):=by
 have hsg:∀ x,sz x a→∀ y z,Meets Tryz.prog 112 [y,z] [(y,V ((ls.map fun l=>l.map cn).getD 0 [])),(z,zd x)] (fun r os fs=>os=[]∧fs=[]∧r=.int .i64 (pev (ls.getD 0 []) x).sign):=fun x hx y z=>by
  rw [tI]; exact rtSignT y z _ x k a N hs hx hN hk lN
 have hsl:=hsg lo hlo
 have hsh:=hsg hi hhi
 refine mV Tryz.func147 ?_
 refine bA (aC (d:=pD lo hi m n) qM) fun q hq=>?_
 refine aS 0 rfl hq ?_
 refine aJ 0 rfl (aR (aR (aZ (aK _)))) ?_
 refine aS 0 rfl hq ?_
 refine aJ 0 rfl (aR (aR (aR (aK _)))) ?_
 refine ar rfl qI ?_
 refine aY [0,1,2,3,4,5,6] [0,1,2,3,4,5,6] qK qK ?_
 refine aX (d:=wd ls) qM (inferInstanceAs (mJ Tryz.prog 109)) fun y1=>?_
 refine aQ (v:=y1) qM 0 rfl (by rw [List.length_map]; exact h1) fun y2=>?_
 refine aX (d:=V ((ls.map fun l=>l.map cn).getD 0 [])) qM (kX _) fun y3=>?_
 refine aS 0 rfl hq ?_
 refine aP (d:=zd lo) 0 rfl (aZ (aK _)) (aN _ _) fun y4=>?_
 refine cH (hsl y3 y4) ?_
 unfold manyV
 refine aD _ rfl (fun e1=>?_) (fun e1=>?_)
 ·rw [if_pos (sgn0.1 e1)]
  refine ar rfl qI ?_
  refine aY [0,1,2,3,4,5,6] [0,1,2,3,4,5,6] qK qK ?_
  refine aX (d:=wd ls) qM (inferInstanceAs (mJ Tryz.prog 109)) fun z1=>?_
  refine aQ (v:=z1) qM 0 rfl (by rw [List.length_map]; exact h1) fun z2=>?_
  refine aX (d:=V ((ls.map fun l=>l.map cn).getD 0 [])) qM (kX _) fun z3=>?_
  refine aS 0 rfl hq ?_
  refine aP (d:=zd hi) 0 rfl (aR (aZ (aK _))) (aN _ _) fun z4=>?_
  refine cH (hsh z3 z4) ?_
  refine aD _ rfl (fun e2=>?_) (fun e2=>?_)
  ·rw [if_pos (sgn0.1 e2)]
   refine ar rfl qI ?_
   exact fin ⟨rfl,rfl,rfl⟩ (dS (aH _ _))
  ·rw [if_neg (fun h=>e2 (sgn0.2 h)),Int.sub_zero]
   exact fin ⟨rfl,rfl,rfl⟩ (dS (aH _ _))
 ·rw [if_neg (fun h=>e1 (sgn0.2 h)),Int.add_zero]
  refine aY [0,1,2,3,4,5,6] [0,1,2,3,4,5,6] qK qK ?_
  refine aX (d:=wd ls) qM (inferInstanceAs (mJ Tryz.prog 109)) fun z1=>?_
  refine aQ (v:=z1) qM 0 rfl (by rw [List.length_map]; exact h1) fun z2=>?_
  refine aX (d:=V ((ls.map fun l=>l.map cn).getD 0 [])) qM (kX _) fun z3=>?_
  refine aS 0 rfl hq ?_
  refine aP (d:=zd hi) 0 rfl (aR (aZ (aK _))) (aN _ _) fun z4=>?_
  refine cH (hsh z3 z4) ?_
  refine aD _ rfl (fun e2=>?_) (fun e2=>?_)
  ·rw [if_pos (sgn0.1 e2)]
   refine ar rfl qI ?_
   exact fin ⟨rfl,rfl,rfl⟩ (dS (aH _ _))
  ·rw [if_neg (fun h=>e2 (sgn0.2 h)),Int.sub_zero]
   exact fin ⟨rfl,rfl,rfl⟩ (dS (aH _ _))
theorem oZ {lo hi x:Int} {a:Nat} (h1:sz lo a) (h2:sz hi a) (h3:lo≤x) (h4:x≤hi):sz x a:=by
 unfold sz at *; omega
theorem zShrZ (v:Value) (x:Int) (a:Nat) (hx:sz x a) (ha:a≤137438953472) :
  Meets Tryz.prog 150 [v,.int .i64 1] [(v,zd x)] (fun r os fs=>os=[]∧fs=[(r,zd (x/2))]):=by
 have h:=zShr1 v (decide (x<0)) (bT x.natAbs) (a0 _) (Nat.le_trans hx.len ha)
 rw [nC] at h
 exact h
theorem zAddZ2 (v w:Value) (x y:Int) (a:Nat) (hx:sz x a) (hy:sz y a) (ha:a≤137438953471) :
  Meets Tryz.prog 97 [v,w] [(v,zd x),(w,zd y)] (fun r os fs=>os=[]∧fs=[(r,zd (x+y))]):=nH v w x y a a hx hy qN qN
theorem zCmpZS (v w:Value) (x y:Int) (a:Nat) (hx:sz x a) (hy:sz y a) (ha:a≤137438953472) :
  Meets Tryz.prog 95 [v,w] [(v,zd x),(w,zd y)] (fun r os fs=>os=[]∧fs=[]∧r=.int .i64 (x - y).sign):=by
 have h:=zCmpS v w (cn x) (cn y) (a0 _) (a0 _) (Nat.le_trans hx.len ha) (Nat.le_trans hy.len ha)
 rw [eR,eR] at h
 exact h
theorem kG {y:Int}:y.sign<0↔y<0:=by
 rcases Int.lt_trichotomy y 0 with h | h | h
 ·rw [eO h]; omega
 ·rw [h]; simp
 ·rw [eN h]; omega
theorem sgn_opp {s t:Int} (ht:t≠0):s.sign = -t.sign↔t*s<0:=by
 rw [Int.mul_comm,← sgn_mul]
 constructor
 ·intro h
  refine ⟨fun e=>ht (sgn0.1 qN),h⟩
 ·exact fun h=>h.2
theorem alone_meets (v w:Value) (l:List Int) (lo hi m n:Int) (k a N:Nat) (I0:Int→Int→Prop) (hl:szR k l) (hN:l.length≤N) (hlo:sz lo a) (hhi:sz hi a) (ha:1≤a) (hk:k+(N+1)*(a+1)≤137438953472) (lN:N≤1073741824)
  (hak:a+2≤137438953471) (h0:I0 lo hi) (hlt:lo<hi) (hst:∀ x y,I0 x y→lo≤x→y≤hi→x+1<y→pev l x≠0→if pev l x*pev l ((x+y)/2)<0 then I0 x ((x+y)/2) else I0 ((x+y)/2) y) :
  Meets Tryz.prog 149 [v,w] [(v,vd l),(w,pD lo hi m n)] (fun r os fs=>os=[]∧∃ x y,lo≤x∧x<y∧y≤hi∧I0 x y∧(pev l x=0∨y=x+1)∧fs=[(r,zd x)]):=by
 have hsg:=fun u u' x hx=>rtSignT u u' l x k a N hl hx hN hk lN
 refine mV Tryz.func149 ?_
 refine bA (aC (d:=pD lo hi m n) qM) fun q hq=>?_
 refine aM (d:=I false []) fun o ho=>?_
 refine aS 1 rfl hq ?_
 refine aP (d:=zd lo) 1 rfl (aZ (aK _)) (aN _ _) fun f1=>?_
 refine cH (hsg v f1 lo hlo) ?_
 refine aO (X:=Int×Int) (fun x=>([(0,v),(3,q),(4,o),(5,.int .i64 (pev l x.1).sign)],[bE o 2 1 (fun _=>I false []),bE q 6 1 (fun _=>pD x.1 x.2 m n)],[(v,vd l)]))
  (fun x=>lo≤x.1∧x.1<x.2∧x.2≤hi∧I0 x.1 x.2) (fun x=>(x.2 - x.1).toNat) rfl ?_ ?_
 ·exact aU (lo,hi) ⟨Int.le_refl _,hlt,Int.le_refl _,h0⟩ trivial qF (aA (Seals.box1 rfl) (aB qS))
 rintro ⟨x,y⟩ ⟨g1,g2,g3,g4⟩
 simp only at g1 g2 g3 g4 ⊢
 have zx:sz x a:=oZ hlo hhi g1 qN
 have zy:sz y a:=oZ hlo hhi qN g3
 have zx1:sz (x+1) a:=oZ hlo hhi qN qN
 have hb:=sgn3b (pev l x)
 refine aY [0,1,2,3,4,7,8,5,6,9,10,11] [0,1,2,3,4,5,6,7,8,9,10,11] qK qK ?_
 refine aD _ rfl (fun e0=>?_) (fun e0=>?_)
 ·have hne:pev l x≠0:=fun e=>e0 (sgn0.2 e)
  refine aS 1 rfl hq ?_
  refine aP (d:=zd x) 1 rfl (aZ (aK _)) (aN _ _) fun y1=>?_
  refine aS 1 rfl hq ?_
  refine aP (d:=zd y) 1 rfl (aR (aZ (aK _))) (aN _ _) fun y2=>?_
  refine cG (dN 1 qE qE) fun y3=>?_
  refine cG (zAddZ2 y1 y3 x 1 a zx ((jS 1 qE).mono ha) qN) fun y4=>?_
  refine cH (zCmpZS y4 y2 (x+1) y a zx1 zy qN) ?_
  refine aD _ rfl (fun e1=>?_) (fun e1=>?_)
  ·have hw:x+1<y:=by have:=kG.1 e1; omega
   have hmid:x<(x+y)/2∧(x+y)/2<y:=by omega
   have zs:sz (x+y) (a+1):=by
    have:=iL zx zy.neg
    rwa [Int.sub_neg] at this
   have zm:sz ((x+y)/2) a:=oZ zx zy qN qN
   have hstep:=hst x y g4 g1 g3 hw hne
   refine aS 1 rfl hq ?_
   refine aP (d:=zd x) 1 rfl (aZ (aK _)) (aN _ _) fun y5=>?_
   refine aS 1 rfl hq ?_
   refine aP (d:=zd y) 1 rfl (aR (aZ (aK _))) (aN _ _) fun y6=>?_
   refine cG (zAddZ2 y5 y6 x y a zx zy qN) fun y7=>?_
   refine cG (zShrZ y7 (x+y) (a+1) zs qN) fun y8=>?_
   generalize hM:(x+y)/2=M at *
   refine aM (d:=I false []) fun mb hmb=>?_
   refine aI (d:=zd M) 0 rfl hmb rfl qK (aC (v:=y8) qM) ?_
   refine aF (d:=zd M) 0 rfl hmb rfl (aN _ _) fun y9=>?_
   refine cH (hsg v y9 M zm) ?_
   refine un_neg (m := -(pev l x).sign) (by rw [cJ (show inK .i64 (0 - (pev l x).sign) from ⟨by omega,by omega⟩)]; omega) ?_
   refine aD _ rfl (fun e2=>?_) (fun e2=>?_)
   ·rw [if_pos ((sgn_opp hne).1 e2)] at hstep
    refine aF (d:=zd M) 0 rfl hmb rfl (aN _ _) fun z1=>?_
    refine aS 2 rfl hq ?_
    refine rS (d:=zd M) (d':=pD x M m n) 2 rfl hq (by show _+2≤6; omega) (Nat.zero_lt_succ _) qK (aC (v:=z1) qM) pD_hi ?_
    exact aU (x,M) ⟨g1,by simp only; omega,by simp only; omega,hstep⟩ (by simp only; omega) qF (dS (aB (fs':=[(v,vd l)]) qS))
   ·rw [if_neg (fun h=>e2 ((sgn_opp hne).2 h))] at hstep
    refine aY [0,1,2,4,3,5,6] [0,1,2,3,4,5,6] qK qK ?_
    refine aF (d:=zd M) 0 rfl hmb rfl (aN _ _) fun z1=>?_
    refine aF (d:=zd M) 0 rfl hmb rfl (aN _ _) fun z2=>?_
    refine aS 2 rfl hq ?_
    refine cH (hsg v z2 M zm) ?_
    refine rS (d:=zd M) (d':=pD M y m n) 2 rfl hq (by show _+2≤6; omega) (Nat.zero_lt_succ _) qK (aC (v:=z1) qM) pD_lo ?_
    exact aU (M,y) ⟨by simp only; omega,by simp only; omega,g3,hstep⟩ (by simp only; omega) qF (dS (aB (fs':=[(v,vd l)]) qS))
  ·have hw:y=x+1:=by
    have:¬ x+1 - y<0:=fun h=>e1 (kG.2 h)
    omega
   refine aS 1 rfl hq ?_
   refine aP (d:=zd x) 1 rfl (aZ (aK _)) (aN _ _) fun u1=>?_
   refine aI (d:=zd x) 0 rfl ho rfl qK (aC (v:=u1) qM) ?_
   refine aF (d:=zd x) 0 rfl ho rfl (aN _ _) fun r=>?_
   exact fin ⟨rfl,x,y,g1,g2,g3,g4,.inr hw,rfl⟩ (dS (dS (aB (fs':=[(r,zd x)]) qS)))
 ·have hz:pev l x=0:=sgn0.1 qN
  refine aS 1 rfl hq ?_
  refine aP (d:=zd x) 1 rfl (aZ (aK _)) (aN _ _) fun u1=>?_
  refine aI (d:=zd x) 0 rfl ho rfl qK (aC (v:=u1) qM) ?_
  refine aF (d:=zd x) 0 rfl ho rfl (aN _ _) fun r=>?_
  exact fin ⟨rfl,x,y,g1,g2,g3,g4,.inl hz,rfl⟩ (dS (dS (aB (fs':=[(r,zd x)]) qS)))
structure ChL (ls:List (List Int)):Prop where
 len:1≤ls.length
 ch:Chain (fun i=>ls.getD i []) (ls.length - 1)
def cnt (ls:List (List Int)) (x y:Int):Int:=manyV (ls.getD 0 []) x y (tns ls x:Nat) (tns ls y:Nat)
theorem kC (ls:List (List Int)) (x y z:Int):cnt ls x z=cnt ls x y+cnt ls y z:=by unfold cnt manyV; omega
theorem ChL.less {ls:List (List Int)} (h:ChL ls) {x y:Int} (hxy:x<y):(tns ls y:Int)+(if pev (ls.getD 0 []) y=0 then 1 else 0)≤tns ls x:=by
 have:=h.ch.less hxy
 rw [← tns_sV h.len,← tns_sV h.len] at this
 have this':tns ls y+(if pev (ls.getD 0 []) y=0 then 1 else 0)≤tns ls x:=this
 by_cases e:pev (ls.getD 0 []) y=0
 ·rw [if_pos e] at this' ⊢; omega
 ·rw [if_neg e] at this' ⊢; omega
theorem ChL.nn {ls:List (List Int)} (h:ChL ls) {x y:Int} (hxy:x<y):(if pev (ls.getD 0 []) x=0 then 1 else 0)≤cnt ls x y:=by
 have:=h.less hxy
 unfold cnt manyV
 omega
theorem ChL.nn0 {ls:List (List Int)} (h:ChL ls) {x y:Int} (hxy:x≤y):0≤cnt ls x y:=by
 by_cases e:x=y
 ·rw [e]; unfold cnt manyV; omega
 ·have:=h.nn (show x<y by omega)
  split at this <;> omega
theorem ChL.par {ls:List (List Int)} (h:ChL ls):∃ k,k≠0∧∀ x,pev (ls.getD 0 []) x≠0→(tns ls x)%2=if pev (ls.getD 0 []) x*k<0 then 1 else 0:=by
 obtain ⟨k,hk,e⟩:=h.ch.last
 refine ⟨k,hk,fun x hx=>?_⟩
 have e':ls.getD (ls.length - 1) []=[k]:=e
 have hl:=h.len
 by_cases h1:ls.length=1
 ·have e2:ls.getD 0 []=[k]:=by rw [← e',h1]
  obtain ⟨a,ha⟩:=List.length_eq_one_iff.1 h1
  subst ha
  have e3:a=[k]:=e2
  subst e3
  have:0<k*k:=by
   rcases Int.lt_trichotomy k 0 with g | g | g
   ·exact Int.mul_pos_of_neg_of_neg g g
   ·exact absurd g hk
   ·exact Int.mul_pos g g
  have e4:pev ([[k]].getD 0 []) x=k:=by simp [pev]
  rw [e4,if_neg qN]
  simp [tns,vs,pev]
 ·-- the head,the middle,the last
  cases ls with
  | nil=>simp at hl
  | cons s r =>
   have hr:0<r.length:=by
    have:(s::r).length=r.length+1:=rfl
    omega
   have hs:(s::r).getD 0 []=s:=rfl
   rw [hs] at hx ⊢
   have hlast:r=r.take (r.length - 1)++[[k]]:=by
    have h2:r.getD (r.length - 1) []=[k]:=by
     have:(s::r).getD ((s::r).length - 1) []=r.getD (r.length - 1) []:=by
      rw [show (s::r).length - 1=(r.length - 1)+1 by simp only [List.length_cons]; omega]; rfl
     rw [← this]; exact e'
    conv=>lhs; rw [← List.take_length (l:=r),show r.length=(r.length - 1)+1 by omega,List.take_add_one]
    rw [gE,List.getElem?_eq_getElem qN] at h2
    rw [List.getElem?_eq_getElem qN]
    have h3:r[r.length - 1]=[k]:=h2
    rw [h3]; rfl
   have h3:tns (s::r) x=vs (pev s x) (((r.take (r.length - 1)).map fun l=>pev l x)++[k]):=by
    unfold tns
    rw [List.map_cons]
    simp only [vs,Int.mul_zero,Int.lt_irrefl,if_false,if_neg hx,Nat.zero_add]
    conv=>lhs; rw [hlast]
    rw [List.map_append]
    simp [pev]
   rw [h3]
   exact vs_par _ _ _ hx hk
theorem sgn_tri {x t k:Int} (h0:x≠0) (ht:t≠0) (hk:k≠0):t*k<0↔(t*x<0↔¬ k*x<0):=by
 have n1:=Int.mul_ne_zero ht h0
 have n2:=Int.mul_ne_zero hk h0
 have n3:=Int.mul_ne_zero ht hk
 have hxx:0<x*x:=by
  rcases Int.lt_trichotomy x 0 with k | k | k
  ·exact Int.mul_pos_of_neg_of_neg k k
  ·exact absurd k h0
  ·exact Int.mul_pos k k
 have e:(t*x)*(k*x)=(x*x)*(t*k):=by grind
 constructor
 ·intro h
  have h1:(t*x)*(k*x)<0:=by rw [e]; exact Int.mul_neg_of_pos_of_neg hxx h
  constructor
  ·intro h2 h3; have:=Int.mul_pos_of_neg_of_neg h2 h3; omega
  ·intro h2
   have h3:0<k*x:=by omega
   exact Int.lt_of_not_ge fun k'=>by have:=Int.mul_nonneg k' (Int.le_of_lt h3); omega
 ·intro h
  refine Int.lt_of_not_ge fun h'=>?_
  have h1:0<(t*x)*(k*x):=by rw [e]; exact Int.mul_pos hxx qN
  by_cases h2:t*x<0
  ·have h3:=h.1 h2
   have:=Int.mul_nonpos_of_nonpos_of_nonneg (Int.le_of_lt h2) (show 0≤k*x by omega)
   omega
  ·have h3:k*x<0:=Classical.byContradiction fun h3=>h2 (h.2 h3)
   have:=Int.mul_nonpos_of_nonneg_of_nonpos (show 0≤t*x by omega) (Int.le_of_lt h3)
   omega
theorem ChL.odd {ls:List (List Int)} (h:ChL ls) {x y:Int} (hx:pev (ls.getD 0 []) x≠0) (hy:pev (ls.getD 0 []) y≠0) (_:x≤y):(cnt ls x y%2=1↔pev (ls.getD 0 []) x*pev (ls.getD 0 []) y<0):=by
 obtain ⟨k,hk,hp⟩:=h.par
 have h1:=hp x hx
 have h2:=hp y hy
 have e:cnt ls x y=(tns ls x:Int) - tns ls y:=by
  unfold cnt manyV; rw [if_neg hx,if_neg hy]; omega
 rw [e,sgn_tri hk hx hy]
 by_cases a:pev (ls.getD 0 []) x*k<0 <;> by_cases b:pev (ls.getD 0 []) y*k<0 <;> simp only [a,b,if_true,if_false] at h1 h2 ⊢ <;> constructor <;> intro g <;> first | omega | simp | (exfalso; simp at g)
theorem ChL.half {ls:List (List Int)} (h:ChL ls) {x m y:Int} (h1:x<m) (h2:m<y) (hc:cnt ls x y=1) (hx:pev (ls.getD 0 []) x≠0) :
  if pev (ls.getD 0 []) x*pev (ls.getD 0 []) m<0 then cnt ls x m=1 else cnt ls m y=1:=by
 have ha:=kC ls x m y
 have p1:=h.nn0 (show x≤m by omega)
 have p2:=h.nn h2
 by_cases hm:pev (ls.getD 0 []) m=0
 ·rw [if_neg (by rw [hm,Int.mul_zero]; omega)]
  rw [if_pos hm] at p2; omega
 ·rw [if_neg hm] at p2
  have ho:=h.odd hx hm qN
  split
  ·rename_i hs
   have:=ho.2 hs; omega
  ·rename_i hs
   have:¬ cnt ls x m%2=1:=fun g=>hs (ho.1 g)
   omega
def Stk:List (Int×Int)→Int→Int→Prop
 | [],b,e=>b=e
 | p::r,b,e=>p.1=b∧p.1<p.2∧Stk r p.2 e
theorem Stk.le:∀ {l:List (Int×Int)} {b e:Int},Stk l b e→b+l.length≤e
 | [],b,e,h=>by have:b=e:=h; simp; omega
 | p::r,b,e,h=>by
  have:=Stk.le h.2.2
  have h1:=h.1
  have h2:=h.2.1
  simp only [List.length_cons]; omega
def Rise:List Int→Prop
 | []=>True
 | a::l=>(∀ x,x∈l→a<x)∧Rise l
theorem Rise.snoc:∀ {l:List Int} {a:Int},Rise l→(∀ x,x∈l→x<a)→Rise (l++[a])
 | [],a,_,_=>⟨fun x hx=>by simp at hx,trivial⟩
 | b::l,a,h,g=>⟨fun x hx=>by
   rcases List.mem_append.1 hx with hx | hx
   ·exact h.1 x hx
   ·rw [List.mem_singleton.1 hx]; exact g b (List.mem_cons_self ..),Rise.snoc h.2 fun x hx=>g x (List.mem_cons_of_mem _ hx)⟩
structure Flr (ls:List (List Int)) (lo b:Int) (O:List Int):Prop where
 up:Rise O
 mem:∀ x,x∈O↔lo≤x∧x<b∧0<cnt ls x (x+1)
theorem Flr.skip {ls:List (List Int)} (h:ChL ls) {lo b c:Int} {O:List Int} (f:Flr ls lo b O) (hbc:b≤c) (h0:cnt ls b c=0):Flr ls lo c O:=⟨f.up,fun x=>by
 rw [f.mem]
 constructor
 ·rintro ⟨h1,h2,h3⟩; exact ⟨h1,by omega,h3⟩
 ·rintro ⟨h1,h2,h3⟩
  refine ⟨h1,Int.lt_of_not_ge fun h4=>?_,h3⟩
  have e1:=kC ls b x c
  have e2:=kC ls x (x+1) c
  have p1:=h.nn0 (show b≤x by omega)
  have p2:=h.nn0 (show x+1≤c by omega)
  omega⟩
theorem Flr.one {ls:List (List Int)} (h:ChL ls) {lo b c x:Int} {O:List Int} (f:Flr ls lo b O) (hlo:lo≤b) (hx:b≤x) (hc:x+1≤c) (h1:0<cnt ls x (x+1)) (h2:cnt ls b x=0) (h3:cnt ls (x+1) c=0):Flr ls lo c (O++[x]):=by
 have f2:=f.skip h hx h2
 have f3:Flr ls lo (x+1) (O++[x]):=⟨f2.up.snoc fun y hy=>((f2.mem y).1 hy).2.1,fun y=>by
  rw [List.mem_append,List.mem_singleton,f2.mem]
  constructor
  ·rintro (⟨g1,g2,g3⟩ | rfl)
   ·exact ⟨g1,by omega,g3⟩
   ·exact ⟨by omega,by omega,h1⟩
  ·rintro ⟨g1,g2,g3⟩
   by_cases e:y=x
   ·exact .inr e
   ·exact .inl ⟨g1,by omega,g3⟩⟩
 exact f3.skip h hc h3
structure FlSpec (p:List Int) (x y:Int) (O:List Int) (e:Int):Prop where
 bad:dg p=0∨y<x→O=[]∧e=1
 ok:0<dg p→x≤y→e=0∧∃ s ls,m5 p s∧ChL ls∧ls.getD 0 []=s∧ls.length≤dg s∧Flr ls x (y+1) O
 few:O.length≤1048578
def fP5 (ls:List (List Int)) (q:Int×Int):Dat:=pD q.1 q.2 (tns ls q.1:Nat) (tns ls q.2:Nat)
def Dbl (st:List (Int×Int)) (b:Int):Prop:=∀ p,p∈st→p.1 - b≤p.2 - p.1
theorem dbl_len:∀ {st:List (Int×Int)} {b c e:Int},Stk st c e→(∀ p,p∈st→p.1 - b≤p.2 - p.1)→b≤c→(c - b)*2^st.length≤e - b
 | [],b,c,e,h,_,_=>by have:c=e:=h; simp [this]
 | p::r,b,c,e,h,hd,hbc=>by
  have h1:=h.1
  have h2:=h.2.1
  have h3:=hd p (List.mem_cons_self ..)
  have ih:=dbl_len h.2.2 (b:=b) (fun q hq=>hd q (List.mem_cons_of_mem _ hq)) qN
  have h4:(0:Int)≤2^r.length:=Int.le_of_lt (Int.pow_pos qE)
  have h5:(c - b)*2*2^r.length≤(p.2 - b)*2^r.length:=Int.mul_le_mul_of_nonneg_right qN h4
  rw [List.length_cons,Int.pow_succ]
  have e1:(c - b)*(2^r.length*2)=(c - b)*2*2^r.length:=by grind
  omega
theorem stk_short {st:List (Int×Int)} {b e:Int} {a:Nat} (h:Stk st b e) (hd:Dbl st b) (hb:sz b a) (he:sz e a):st.length≤64*a+2:=by
 cases st with
 | nil=>simp
 | cons p r =>
  have h1:=h.1
  have h2:=h.2.1
  have h3:=dbl_len h.2.2 (b:=b) (fun q hq=>hd q (List.mem_cons_of_mem _ hq)) qN
  have h4:(1:Int)≤2^r.length:=Int.pow_pos qE
  have h5:(1:Int)*2^r.length≤(p.2 - b)*2^r.length:=Int.mul_le_mul_of_nonneg_right qN qN
  have h6:(2:Int)^r.length≤e - b:=by omega
  unfold sz at hb he
  have h7:((2^r.length:Nat):Int)≤e - b:=by rw [Int.natCast_pow]; exact h6
  have h8:2^r.length<2^(64*a+1):=by
   rw [Nat.pow_succ,Nat.pow_mul,show 2^64=18446744073709551616 from rfl]; omega
  have:=(Nat.pow_lt_pow_iff_right (show 1<2 by decide)).1 h8
  simp only [List.length_cons]; omega
structure FlS where
 st:List (Int×Int)
 O:List Int
 ov:Value
 wv:Value
 b:Int
theorem floors_meets (v w u:Value) (p:Row) (x y:Bool×List Nat) (k n a:Nat) (hp:Fit k p) (lp:p.length≤n) (hx:Lim x.2) (hxa:x.2.length≤a) (hy:Lim y.2) (hya:y.2.length≤a) (ha:1≤a) (haa:a≤1073741824) (hk:ChOk (vv p) k n (a+1)) :
  Meets Tryz.prog 111 [v,w,u] [(v,V p),(w,J x),(u,J y)] (fun r os fs=>os=[]∧∃ q O e,r=.tuple #[q,.int .i64 e]∧FlSpec (vv p) (jv x) (jv y) O e∧fs=[(q,vd O)]):=by
 obtain ⟨z1,z2,z3,⟨K,mm,hss,hmn,z4,z5⟩,z6⟩:=hk
 have hka:k≤137438953472:=by
  have:(n+1)*(a+1+1)=n*(a+1+1)+(a+1+1):=Nat.add_one_mul _ _
  omega
 have zx:sz (jv x) (a+1):=(gY hx hxa).mono qN
 have zE:sz (jv y+1) (a+1):=by
  have:=iL (gY hy hya) (((jS 1 qE).mono ha).neg)
  rwa [Int.sub_neg] at this
 have hadd:∀ r1 r2,Meets Tryz.prog 97 [r1,r2] [(r1,J y),(r2,zd 1)] (fun r os fs=>os=[]∧fs=[(r,zd (jv y+1))]):=fun r1 r2=>by
  have:=zAddJ r1 r2 y (cn 1) hy qN (a0 _) (Nat.le_trans (jS 1 qE).len qE)
  rw [eR] at this
  exact this
 have hnorm:∀ r1,Meets Tryz.prog 75 [r1] [(r1,J x)] (fun r os fs=>os=[]∧fs=[(r,zd (jv x))]):=fun r1=>iF r1 x.1 x.2 hx qN
 refine mV Tryz.func111 ?_
 refine bA (aC (d:=J x) qM) fun bx hbx=>?_
 refine bA (aC (d:=J y) qM) fun by' hby=>?_
 refine cH (tY v p (hp.mono hka)) ?_
 have hpos:=fun (h:0<dg (vv p))=>chain_meets v p k n K mm hp lp z1 h z2 z3 hss hmn z4
 have hlsn:dg (vv p)≤n:=Nat.le_trans (dY _) (by rw [cV]; exact lp)
 generalize hP:vv p=P at *
 refine aD _ rfl (fun hz=>?_) (fun hz=>?_)
 ·refine fin ⟨rfl,.slice none 0 0,[],1,rfl,⟨fun _=>⟨rfl,rfl⟩,fun h=>by omega,by decide⟩,rfl⟩ (dS (dS (a7 (dM 2 _) (aH _ _))))
 have hd0:0<dg P:=by omega
 refine aF (d:=J y) 0 rfl hby rfl (bM _) fun y1=>?_
 refine aF (d:=J x) 1 rfl hbx rfl (bM _) fun y2=>?_
 refine cH (zCmpS y1 y2 y x hy hx qN qN) ?_
 refine aD _ rfl (fun hlt=>?_) (fun hlt=>?_)
 ·have hl:jv y<jv x:=by have:=kG.1 hlt; omega
  refine fin ⟨rfl,.slice none 0 0,[],1,rfl,⟨fun _=>⟨rfl,rfl⟩,fun _ h=>by omega,by decide⟩,rfl⟩ (dS (dS (a7 (dM 2 _) (aH _ _))))
 have hl:jv x≤jv y:=Int.not_lt.1 fun h=>hlt (kG.2 qN)
 refine cF (hpos hd0) ?_
 rintro lv _ _ ⟨rfl,s,ls,hs,hc,hall,rfl⟩
 obtain ⟨c1,c2,c3⟩:=hc.chain hd0 hs
 have hch:ChL ls:=⟨hc.len,c1⟩
 have hln:=hc.len
 have hsd:dg s≤n:=by
  obtain ⟨gg,hg1,hg2⟩:=hs.ok hd0
  have:=Dv.deg (a:=s) (b:=pprim P) ⟨gg,fun x=>by rw [hg2]; exact Int.mul_comm _ _⟩ (by rw [dO]; exact hd0)
  rw [dO] at this; omega
 have hs0:szR K (ls.getD 0 [])∧(ls.getD 0 []).length≤n:=by
  refine hall _ ?_
  rw [gE,List.getElem?_eq_getElem qN]
  exact List.getElem_mem _
 have htj:=fun l w (x:Bool×List Nat) (hx:Lim x.2) (hxa:x.2.length≤a+1)=>turnsT l w ls x K (a+1) n hall hx hxa z5 qN qN
 have htz:∀ l w t,sz t (a+1)→Meets Tryz.prog 148 [l,w] [(l,wd ls),(w,zd t)] (fun r os fs=>os=[]∧fs=[]∧r=.int .i64 (tns ls t:Nat)):=fun l w t ht=>by
  have:=htj l w (cn t) (a0 _) ht.len
  rw [eR] at this
  exact this
 have hT:∀ t,tns ls t≤1048576:=fun t=>by have:=tns_le ls t; omega
 refine aM (t:=109) (d:=.sl 1 0 fun _=>.one (.bool false)) fun bl hbl=>?_
 refine aI (d:=wd ls) 0 rfl hbl rfl qK (aC (v:=lv) qM) ?_
 refine k7 (X:=Value) (fun eb=>([(4,bx),(8,bl),(9,.func (.func 147) #[] #[bl]),(10,.slice none 0 0),(11,eb)],[bE by' 2 1 (fun _=>J y),bE bx 2 1 (fun _=>J x)],[(eb,.ptr (zd (jv y+1))),(bl,.ptr (wd ls))])) (fun _=>True) ?_ ?_
 ·
  refine gO [0,1,2,3,4] qK ?_
  refine a9 1 3 qK qK qK ?_ ?_
  ·refine a9 2 3 qK qK qK ?_ ?_
   ·refine eE [0,1,2,3,4] qK qK ?_
    refine aF (d:=J y) 1 rfl hby rfl (bM _) fun r1=>?_
    refine cG (dN 1 qE qE) fun r2=>?_
    refine cG (hadd r1 r2) fun r3=>?_
    refine aM (d:=I false []) fun eb heb=>?_
    refine aI (d:=zd (jv y+1)) 0 rfl heb rfl qK (aC (v:=r3) qM) ?_
    exact aU eb trivial trivial qF (aA (Seals.box (d:=zd (jv y+1)) 0 rfl heb rfl) (aA (Seals.box (d:=wd ls) 0 rfl hbl rfl) (aB qS)))
   ·refine eE [0,1,3,2,4] qK qK ?_
    refine aF (d:=J y) 1 rfl hby rfl (bM _) fun r1=>?_
    refine cG (dN 1 qE qE) fun r2=>?_
    refine aM (d:=I false []) fun eb heb=>?_
    refine cG (hadd r1 r2) fun r3=>?_
    refine aI (d:=zd (jv y+1)) 0 rfl heb rfl qK (aC (v:=r3) qM) ?_
    exact aU eb trivial trivial qF (aA (Seals.box (d:=zd (jv y+1)) 0 rfl heb rfl) (aA (Seals.box (d:=wd ls) 0 rfl hbl rfl) (aB qS)))
  ·refine eE [0,3,1,2,4] qK qK ?_
   refine aF (d:=J y) 1 rfl hby rfl (bM _) fun r1=>?_
   refine aM (d:=I false []) fun eb heb=>?_
   refine cG (dN 1 qE qE) fun r2=>?_
   refine cG (hadd r1 r2) fun r3=>?_
   refine aI (d:=zd (jv y+1)) 0 rfl heb rfl qK (aC (v:=r3) qM) ?_
   exact aU eb trivial trivial qF (aA (Seals.box (d:=zd (jv y+1)) 0 rfl heb rfl) (aA (Seals.box (d:=wd ls) 0 rfl hbl rfl) (aB qS)))
 rintro eb -
 simp only
 have loadW:jC Tryz.prog 109 (wd ls):=(inferInstanceAs (mJ Tryz.prog 109))
 refine aY [0,2,3,4,6,7,1,5,8,9,10,11] [0,1,2,3,4,5,6,7,8,9,10,11] qK qK ?_
 refine aF (d:=J x) 1 rfl hbx rfl (bM _) fun f1=>?_
 refine aX (d:=zd (jv y+1)) qM (aN _ _) fun f2=>?_
 refine aX (d:=wd ls) qM loadW fun f3=>?_
 refine aF (d:=J x) 1 rfl hbx rfl (bM _) fun f4=>?_
 refine aX (d:=wd ls) qM loadW fun f5=>?_
 refine aX (d:=zd (jv y+1)) qM (aN _ _) fun f6=>?_
 refine cG (hnorm f1) fun f7=>?_
 refine cH (htj f3 f4 x hx qN) ?_
 refine cH (htz f5 f6 (jv y+1) zE) ?_
 generalize hX:jv x=X at *
 generalize hY:jv y+1=E at *
 have hXE:X<E:=by omega
 refine wY (bC (v:=f7) (d:=zd X) qM) (bC (v:=f2) (d:=zd E) qM) rfl rfl fun pv=>?_
 refine fL (size:=6) (n:=1) [pv] [fP5 ls (X,E)] rfl rfl qE qE ⟨aC (v:=pv) (List.Mem.head _),rfl,trivial⟩ fun w0 hw0=>?_
 have hf0:Flr ls X X []:=⟨trivial,fun t=>⟨fun h=>by simp at h,fun h=>by omega⟩⟩
 have hml:∀ l:List Int,(l.map cn).length=l.length:=fun l=>List.length_map _
 refine aO (X:=FlS) (fun x=>([(8,bl),(9,.func (.func 147) #[] #[bl]),(10,x.ov),(12,x.wv)],[jY 2 J z0 x.ov (x.O.map cn),jY 6 (fP5 ls) (0,0) x.wv x.st.reverse],[(bl,.ptr (wd ls))]))
  (fun x=>isSl x.ov∧isSl x.wv∧Stk x.st x.b E∧Dbl x.st x.b∧Flr ls X x.b x.O∧X≤x.b∧(x.O.length:Int)≤cnt ls X x.b) (fun x=>(2*(E - x.b) - x.st.length).toNat) rfl ?_ ?_
 ·refine aU ⟨[(X,E)],[],.slice none 0 0,w0,X⟩ ⟨fZ,hw0,⟨rfl,hXE,rfl⟩,fun q hq=>by rw [List.mem_singleton.1 hq]; simp only; omega,hf0,Int.le_refl _,hch.nn0 (Int.le_refl _)⟩ trivial qF ?_
  refine aA (aW 1 _ _) (aA (aW 1 _ _) (aA (cB _ _ 2 fun i=>J ((([]:List Int).map cn).getD i z0)) (aA (Seals.own_cong (os:=[_,_]) 1 (n':=1) (fun i=>fP5 ls (([(X,E)]:List (Int×Int)).getD i (0,0))) rfl rfl fun i hi=>?_) (aB qS))))
  have:i=0:=by omega
  subst this; rfl
 rintro ⟨st,O,ov,wv,b⟩ ⟨hov,hwv,hsk,hdb,hfl,hXb,hOl⟩
 simp only at hov hwv hsk hdb hfl hXb hOl ⊢
 have hskl:=hsk.le
 have zb:sz b (a+1):=oZ zx zE hXb qN
 have hsh:=stk_short hsk hdb zb zE
 have hcb:=hch.nn0 hXb
 have hcle:cnt ls X b≤1048578:=by
  have:=hT X
  unfold cnt manyV; split <;> split <;> omega
 have hrl:st.reverse.length=st.length:=List.length_reverse
 refine cS 1 rfl hwv fun _=>?_
 refine aD _ rfl (fun hgt=>?_) (fun hgt=>?_)
 ·cases st with
  | nil=>simp at hgt
  | cons q r =>
   obtain ⟨P1,P2⟩:=q
   obtain ⟨rfl,hP12,hsk2⟩:=hsk
   simp only at hP12 hsk2 hXb hOl hfl hdb hskl zb hsh hcb hcle
   simp only [List.length_cons] at hrl hskl hsh
   have hr2:r.reverse.length=r.length:=List.length_reverse
   have hrev:((P1,P2)::r).reverse=r.reverse++[(P1,P2)]:=List.reverse_cons
   have hsk2l:=hsk2.le
   have zP2:sz P2 (a+1):=oZ zx zE qN qN
   have hel:fP5 ls (((P1,P2)::r).reverse.getD r.length (0,0))=pD P1 P2 (tns ls P1:Nat) (tns ls P2:Nat):=by
    rw [hrev,gE,List.getElem?_append_right qN,hr2,Nat.sub_self]; rfl
   have hdb2:Dbl r P2:=fun q hq=>by have:=hdb q (List.mem_cons_of_mem _ hq); omega
   have hm1:=hT P1
   have hm2:=hT P2
   have hmany:∀ y2,Meets Tryz.prog 147 ([]++[y2]++[bl]) [(y2,pD P1 P2 (tns ls P1:Nat) (tns ls P2:Nat)),(bl,.ptr (wd ls))] (fun r os fs=>os=[]∧fs=[]∧r=.int .i64 (cnt ls P1 P2)):=fun y2=>many_meets y2 bl ls P1 P2 _ _ K (a+1) n hln hs0.1 hs0.2 zb zP2 z5 qN ⟨by omega,by omega⟩ ⟨by omega,by omega⟩
   have hc12:=hch.nn0 (Int.le_of_lt hP12)
   have hcsum:=kC ls X P1 P2
   have hst2:=hsk2
   have hal:=fun (I0:Int→Int→Prop) (h0:I0 P1 P2) (hst:∀ x y,I0 x y→P1≤x→y≤P2→x+1<y→pev (ls.getD 0 []) x≠0→if pev (ls.getD 0 []) x*pev (ls.getD 0 []) ((x+y)/2)<0 then I0 x ((x+y)/2) else I0 ((x+y)/2) y) (u1 u2:Value)=>(by
    rw [tI]
    exact alone_meets u1 u2 (ls.getD 0 []) P1 P2 (tns ls P1:Nat) (tns ls P2:Nat) K (a+1) n I0 hs0.1 hs0.2 zb zP2 qN z5 qN qN h0 hP12 hst:Meets Tryz.prog 149 [u1,u2] [(u1,V ((ls.map fun l=>l.map cn).getD 0 [])),(u2,fP5 ls (P1,P2))] (fun r os fs=>os=[]∧∃ x y,P1≤x∧x<y∧y≤P2∧I0 x y∧(pev (ls.getD 0 []) x=0∨y=x+1)∧fs=[(r,zd x)]))
   have hcg:∀ i,i<r.length→fP5 ls (((P1,P2)::r).reverse.getD i (0,0))=fP5 ls (r.reverse.getD i (0,0)):=fun i hi=>by
    rw [hrev,gE,List.getElem?_append_left qN,← gE]
   have hpop:∀ {o1:Own} {ob:Own} {fs:List bD},Seals [ob,o1,jY 6 (fP5 ls) (0,0) wv ((P1,P2)::r).reverse] fs [o1,jY 6 (fP5 ls) (0,0) (pfx wv r.length) r.reverse] fs:=fun {o1 ob fs} =>
    dS (aA (Seals.pfx (os:=[o1,jY 6 (fP5 ls) (0,0) wv ((P1,P2)::r).reverse]) 1 rfl hwv r.length qN) (Seals.own_cong (os:=[o1,bE (pfx wv r.length) 6 r.length _]) 1 (n':=r.reverse.length) (fun i=>fP5 ls (r.reverse.getD i (0,0))) rfl hr2.symm hcg))
   have hpre:∀ {o1 o2 o3:Own} {fs:List bD},Seals [o1,o2,o3,jY 6 (fP5 ls) (0,0) wv ((P1,P2)::r).reverse] fs [o1,o2,o3,jY 6 (fP5 ls) (0,0) (pfx wv r.length) r.reverse] fs:=fun {o1 o2 o3 fs} =>
    aA (Seals.pfx (os:=[o1,o2,o3,jY 6 (fP5 ls) (0,0) wv ((P1,P2)::r).reverse]) 3 rfl hwv r.length qN) (Seals.own_cong (os:=[o1,o2,o3,bE (pfx wv r.length) 6 r.length _]) 3 (n':=r.reverse.length) (fun i=>fP5 ls (r.reverse.getD i (0,0))) rfl hr2.symm hcg)
   refine cS 1 rfl hwv fun _=>?_
   refine ar rfl qI ?_
   refine aE 1 rfl hwv r.length qN qN ?_
   refine bK (d:=fP5 ls (P1,P2)) 1 rfl r.length qN hel (load_pD _ _ _ _) fun y1=>?_
   refine aM (d:=pZ) fun wb hwb=>?_
   refine aI (d:=fP5 ls (P1,P2)) 0 rfl hwb rfl qK (aC (v:=y1) qM) ?_
   refine cS 2 rfl hwv fun _=>?_
   refine ar rfl qI ?_
   refine slice_pfx 2 rfl hwv r.length qN qN qE ?_
   refine aF (d:=fP5 ls (P1,P2)) 0 rfl hwb rfl (load_pD _ _ _ _) fun y2=>?_
   refine wX (first:=[]) (cap:=[bl]) (Seals.refl _ _) (hmany y2) qS ?_
   rintro _ _ _ ⟨rfl,rfl,rfl⟩
   refine aD _ rfl (fun hn0=>?_) (fun hn0=>?_)
   ·exact aU ⟨r,O,ov,pfx wv r.length,P2⟩ ⟨hov,pfx_sl hwv,hst2,hdb2,hfl.skip hch (Int.le_of_lt hP12) hn0,by simp only; omega,by simp only; omega⟩ (by simp only [List.length_cons]; omega) qF (aA hpop (aB qS))
   refine aY [0,1,2,3,4,7,8,5,6,9,10,11,12] [0,1,2,3,4,5,6,7,8,9,10,11,12] qK qK ?_
   refine aD _ rfl (fun hn1=>?_) (fun hn1=>?_)
   ·have hI:∃ I0:Int→Int→Prop,I0 P1 P2∧(∀ x y,I0 x y→P1≤x→y≤P2→x+1<y→pev (ls.getD 0 []) x≠0→if pev (ls.getD 0 []) x*pev (ls.getD 0 []) ((x+y)/2)<0 then I0 x ((x+y)/2) else I0 ((x+y)/2) y) ∧
      ∀ x y,P1≤x→x<y→y≤P2→I0 x y→(pev (ls.getD 0 []) x=0∨y=x+1)→0<cnt ls x (x+1)∧cnt ls P1 x=0∧cnt ls (x+1) P2=0:=by
     refine ⟨fun x y=>cnt ls x y=1,hn1,fun x y h1 h2 h3 h4 h5=>hch.half qN qN h1 h5,fun x y h1 h2 h3 h4 h5=>?_⟩
     have g1:0<cnt ls x (x+1):=by
      rcases h5 with h5 | h5
      ·have:=hch.nn (show x<x+1 by omega)
       rw [if_pos h5] at this; omega
      ·rw [← h5,h4]; decide
     have e1:=kC ls P1 x P2
     have e2:=kC ls x (x+1) P2
     have p1:=hch.nn0 h1
     have p2:=hch.nn0 (show x+1≤P2 by omega)
     exact ⟨g1,by omega,by omega⟩
    obtain ⟨I0,hi0,hst,hfin⟩:=hI
    refine aY [0,1,2,3,4,5,6,7,8] [0,1,2,3,4,5,6,7,8] qK qK ?_
    refine aX (d:=wd ls) qM loadW fun h1=>?_
    refine aQ (v:=h1) qM 0 rfl (by rw [List.length_map]; omega) fun h2=>?_
    refine aX (d:=V ((ls.map fun l=>l.map cn).getD 0 [])) qM (kX _) fun h3=>?_
    refine aF (d:=fP5 ls (P1,P2)) 0 rfl hwb rfl (load_pD _ _ _ _) fun h4=>?_
    refine cF (hal I0 hi0 hst h3 h4) ?_
    rintro h5 _ _ ⟨rfl,x',y',g1,g2,g3,g4,g5,rfl⟩
    obtain ⟨q1,q2,q3⟩:=hfin x' y' g1 g2 g3 g4 g5
    refine mE (size:=2) J z0 (cn x') qE (aC (v:=h5) (d:=zd x') qM) rfl fun h6=>?_
    refine gX 1 rfl hov (bC (v:=h6) qM) (by rw [hml]; simp only [List.length_cons,List.length_nil]; omega) (by rw [hml]; simp only [List.length_cons,List.length_nil]; omega) fun ov2 hov2=>?_
    rw [t7 cn]
    have hO2:((O++[x']).length:Int)≤cnt ls X P2:=by
     rw [List.length_append]
     have e1:=kC ls X P1 P2
     have e2:=kC ls P1 x' P2
     have e3:=kC ls x' (x'+1) P2
     simp only [List.length_cons,List.length_nil]; omega
    exact aU ⟨r,O++[x'],ov2,pfx wv r.length,P2⟩ ⟨hov2,pfx_sl hwv,hst2,hdb2,hfl.one hch hXb g1 (show x'+1≤P2 by omega) q1 q2 q3,by simp only; omega,hO2⟩ (by simp only [List.length_cons]; omega) qF (aA hpop (aB qS))
   ·
    refine aS 0 rfl hwb ?_
    refine aP (d:=zd P1) 0 rfl (aZ (aK _)) (aN _ _) fun u1=>?_
    refine aS 0 rfl hwb ?_
    refine aP (d:=zd P2) 0 rfl (aR (aZ (aK _))) (aN _ _) fun u2=>?_
    refine cG (dN 1 qE qE) fun u3=>?_
    have zb1:sz (P1+1) (a+1):=oZ zx zE qN qN
    refine cG (zAddZ2 u1 u3 P1 1 (a+1) zb ((jS 1 qE).mono qN) qN) fun u4=>?_
    refine cH (zCmpZS u4 u2 (P1+1) P2 (a+1) zb1 zP2 qN) ?_
    refine aD _ rfl (fun hw1=>?_) (fun hw1=>?_)
    ·have hPP:P2=P1+1:=by have:=sgn0.1 hw1; omega
     have hI:∃ I0:Int→Int→Prop,I0 P1 P2∧(∀ x y,I0 x y→P1≤x→y≤P2→x+1<y→pev (ls.getD 0 []) x≠0→if pev (ls.getD 0 []) x*pev (ls.getD 0 []) ((x+y)/2)<0 then I0 x ((x+y)/2) else I0 ((x+y)/2) y) ∧
       ∀ x y,P1≤x→x<y→y≤P2→I0 x y→(pev (ls.getD 0 []) x=0∨y=x+1)→0<cnt ls x (x+1)∧cnt ls P1 x=0∧cnt ls (x+1) P2=0:=by
      refine ⟨fun _ _=>True,trivial,fun _ _ _ _ _ h _=>by omega,fun x y h1 h2 h3 _ _=>?_⟩
      obtain rfl:x=P1:=by omega
      have e1:cnt ls x x=0:=by unfold cnt manyV; omega
      have e2:cnt ls P2 P2=0:=by unfold cnt manyV; omega
      rw [← hPP]
      exact ⟨by omega,e1,e2⟩
     obtain ⟨I0,hi0,hst,hfin⟩:=hI
     refine aY [0,1,2,3,4,5,6,7,8] [0,1,2,3,4,5,6,7,8] qK qK ?_
     refine aX (d:=wd ls) qM loadW fun h1=>?_
     refine aQ (v:=h1) qM 0 rfl (by rw [List.length_map]; omega) fun h2=>?_
     refine aX (d:=V ((ls.map fun l=>l.map cn).getD 0 [])) qM (kX _) fun h3=>?_
     refine aF (d:=fP5 ls (P1,P2)) 0 rfl hwb rfl (load_pD _ _ _ _) fun h4=>?_
     refine cF (hal I0 hi0 hst h3 h4) ?_
     rintro h5 _ _ ⟨rfl,x',y',g1,g2,g3,g4,g5,rfl⟩
     obtain ⟨q1,q2,q3⟩:=hfin x' y' g1 g2 g3 g4 g5
     refine mE (size:=2) J z0 (cn x') qE (aC (v:=h5) (d:=zd x') qM) rfl fun h6=>?_
     refine gX 1 rfl hov (bC (v:=h6) qM) (by rw [hml]; simp only [List.length_cons,List.length_nil]; omega) (by rw [hml]; simp only [List.length_cons,List.length_nil]; omega) fun ov2 hov2=>?_
     rw [t7 cn]
     have hO2:((O++[x']).length:Int)≤cnt ls X P2:=by
      rw [List.length_append]
      have e1:=kC ls X P1 P2
      have e2:=kC ls P1 x' P2
      have e3:=kC ls x' (x'+1) P2
      simp only [List.length_cons,List.length_nil]; omega
     exact aU ⟨r,O++[x'],ov2,pfx wv r.length,P2⟩ ⟨hov2,pfx_sl hwv,hst2,hdb2,hfl.one hch hXb g1 (show x'+1≤P2 by omega) q1 q2 q3,by simp only; omega,hO2⟩ (by simp only [List.length_cons]; omega) qF (aA hpop (aB qS))
    ·have hw:P1+1<P2:=by
      have:P1+1 - P2≠0:=fun e=>hw1 (sgn0.2 e)
      omega
     have zs:sz (P1+P2) (a+2):=by
      have:=iL zb zP2.neg
      rwa [Int.sub_neg] at this
     have zM:sz ((P1+P2)/2) (a+1):=oZ zx zE qN qN
     have hM:P1<(P1+P2)/2∧(P1+P2)/2<P2∧(P1+P2)/2 - P1≤P2 - (P1+P2)/2:=by omega
     refine aS 0 rfl hwb ?_
     refine aP (d:=zd P1) 0 rfl (aZ (aK _)) (aN _ _) fun u5=>?_
     refine aS 0 rfl hwb ?_
     refine aP (d:=zd P2) 0 rfl (aR (aZ (aK _))) (aN _ _) fun u6=>?_
     refine cG (zAddZ2 u5 u6 P1 P2 (a+1) zb zP2 qN) fun u7=>?_
     refine cG (zShrZ u7 (P1+P2) (a+2) zs qN) fun u8=>?_
     generalize (P1+P2)/2=M at *
     have hm3:=hT M
     refine aM (d:=I false []) fun mb hmb=>?_
     refine aI (d:=zd M) 0 rfl hmb rfl qK (aC (v:=u8) qM) ?_
     refine aX (d:=wd ls) qM loadW fun v1=>?_
     refine aF (d:=zd M) 0 rfl hmb rfl (aN _ _) fun v2=>?_
     refine dK (htz v1 v2 M zM) hpre qS ?_
     rintro _ _ _ ⟨rfl,rfl,rfl⟩
     refine aF (d:=zd M) 0 rfl hmb rfl (aN _ _) fun v3=>?_
     refine aS 1 rfl hwb ?_
     refine aP (d:=zd P2) 1 rfl (aR (aZ (aK _))) (aN _ _) fun v4=>?_
     refine aS 1 rfl hwb ?_
     refine aJ (u:=.int .i64 (tns ls P2:Nat)) 1 rfl (aR (aR (aR (aK _)))) ?_
     refine wY (bC (v:=v3) (d:=zd M) qM) (bC (v:=v4) (d:=zd P2) qM) rfl rfl fun v5=>?_
     refine aS 1 rfl hwb ?_
     refine aP (d:=zd P1) 1 rfl (aZ (aK _)) (aN _ _) fun v6=>?_
     refine aF (d:=zd M) 0 rfl hmb rfl (aN _ _) fun v7=>?_
     refine aS 1 rfl hwb ?_
     refine aJ (u:=.int .i64 (tns ls P1:Nat)) 1 rfl (aR (aR (aZ (aK _)))) ?_
     refine wY (bC (v:=v6) (d:=zd P1) qM) (bC (v:=v7) (d:=zd M) qM) rfl rfl fun v8=>?_
     refine lit2_L (size:=6) (fP5 ls) (0,0) (M,P2) (P1,M) qE (aC (v:=v5) (d:=fP5 ls (M,P2)) qM) (aC (v:=v8) (d:=fP5 ls (P1,M)) qM) rfl rfl fun v9=>?_
     refine gX 3 rfl (pfx_sl hwv) (bC (v:=v9) qM) (by rw [hr2]; simp only [List.length_cons,List.length_nil]; omega) (by rw [hr2]; simp only [List.length_cons,List.length_nil]; omega) fun wv2 hwv2=>?_
     have hrev2:r.reverse++[(M,P2),(P1,M)]=((P1,M)::(M,P2)::r).reverse:=by simp
     rw [hrev2]
     refine aU ⟨(P1,M)::(M,P2)::r,O,ov,wv2,P1⟩ ⟨hov,hwv2,⟨rfl,hM.1,rfl,hM.2.1,hsk2⟩,fun q hq=>?_,hfl,hXb,hOl⟩ (by simp only [List.length_cons]; omega) qF (dS (dS (aB qS)))
     rcases List.mem_cons.1 hq with rfl | hq
     ·simp only; omega
     ·rcases List.mem_cons.1 hq with rfl | hq
      ·simp only; omega
      ·exact hdb q (List.mem_cons_of_mem _ hq)
 ·have hst0:st=[]:=List.length_eq_zero_iff.1 qN
  subst hst0
  obtain rfl:b=E:=hsk
  refine fin ⟨rfl,ov,O,0,rfl,⟨fun h=>by omega,fun _ _=>⟨rfl,s,ls,hs,hch,c3,hc.chain hd0 hs |>.2.1,by rw [hY]; exact hfl⟩,by omega⟩,rfl⟩ (aA (aW 1 _ _) (aA (dC hov) (aB qS)))
theorem FlSpec.mem {p:List Int} {x y:Int} {O:List Int} {e:Int} (h:FlSpec p x y O e):∀ t,t∈O→x≤t∧t≤y:=fun t ht=>by
 by_cases hb:dg p=0∨y<x
 ·rw [(h.bad hb).1] at ht; simp at ht
 ·obtain ⟨_,s,ls,_,_,_,_,f⟩:=h.ok qN qN
  have:=(f.mem t).1 ht; omega
def inRt (p O:List Int):List Int:=O.filter fun t=>decide (pev p t=0)
theorem inL_snoc (p:List Int) {O:List Int} {i:Nat} (h:i<O.length):inRt p (O.take (i+1))=if pev p (O.getD i 0)=0 then inRt p (O.take i)++[O.getD i 0] else inRt p (O.take i):=by
 have e:O.getD i 0=O[i]:=by rw [gE,List.getElem?_eq_getElem h]; rfl
 unfold inRt
 rw [List.take_add_one,List.getElem?_eq_getElem h,List.filter_append,e]
 by_cases hz:pev p O[i]=0
 ·rw [if_pos hz]; simp [hz]
 ·rw [if_neg hz]; simp [hz]
theorem in_meets (v w u:Value) (p:Row) (x y:Bool×List Nat) (k n a:Nat) (hp:Fit k p) (lp:p.length≤n) (hx:Lim x.2) (hxa:x.2.length≤a) (hy:Lim y.2) (hya:y.2.length≤a) (ha:1≤a) (haa:a≤1073741824) (hk:ChOk (vv p) k n (a+1)) :
  Meets Tryz.prog 67 [v,w,u] [(v,V p),(w,J x),(u,J y)] (fun r os fs=>os=[]∧∃ q O e,r=.tuple #[q,.int .i64 e]∧FlSpec (vv p) (jv x) (jv y) O e∧fs=[(q,vd (inRt (vv p) O))]):=by
 refine mV Tryz.func67 ?_
 refine bA (aC (d:=J x) qM) fun bx hbx=>?_
 refine bA (aC (d:=J y) qM) fun by' hby=>?_
 refine aF (d:=J x) 1 rfl hbx rfl (bM _) fun y1=>?_
 refine aF (d:=J y) 0 rfl hby rfl (bM _) fun y2=>?_
 refine cF (floors_meets v y1 y2 p x y k n a hp lp hx hxa hy hya ha haa hk) ?_
 rintro _ _ _ ⟨rfl,q,O,e,rfl,hO,rfl⟩
 have hfew:=hO.few
 have hsz:∀ t,t∈O→sz t a:=fun t ht=>by
  have:=hO.mem t ht
  exact oZ (gY hx hxa) (gY hy hya) this.1 this.2
 have hgm:∀ i,i<O.length→O.getD i 0∈O:=fun i hi=>by
  rw [gE,List.getElem?_eq_getElem hi]; exact List.getElem_mem _
 have hml:(O.map cn).length=O.length:=List.length_map _
 have z6:=hk.k5
 have hsg:∀ y i,i<O.length→Meets Tryz.prog 112 [v,y] [(v,V p),(y,J ((O.map cn).getD i z0))] (fun r os fs=>os=[]∧fs=[]∧r=.int .i64 (pev (vv p) (O.getD i 0)).sign):=fun y i hi=>by
  rw [fE hi]
  have hm:(p.length+1)*(a+1)≤(n+1)*(a+1+1):=Nat.mul_le_mul qN qN
  have:=nN v y p (cn (O.getD i 0)) k a hp (a0 _) (hsz _ (hgm i hi)).len qN (by have:=hk.n1; omega)
  rw [eR] at this
  exact this
 refine aT (v:=q) qM fun hOm=>?_
 refine aO (X:=Nat×Value) (fun x=>([(0,v),(9,.int .i64 e),(10,x.2),(20,q),(21,.int .i64 ((O.map cn).length:Nat)),(22,.int .i64 (x.1:Nat))],[jY 2 J z0 x.2 ((inRt (vv p) (O.take x.1)).map cn)],[(q,vd O),(v,V p)]))
  (fun x=>x.1≤O.length∧isSl x.2) (fun x=>O.length - x.1) rfl ?_ ?_
 ·refine aU (0,.slice none 0 0) ⟨Nat.zero_le _,fZ⟩ trivial qF (dS (dS (aA (cB _ _ 2 fun i=>J ((([]:List Int).map cn).getD i z0)) (aB qS))))
 rintro ⟨i,ov⟩ ⟨hi,hov⟩
 simp only at hi hov ⊢
 refine aD _ rfl (fun hlt=>?_) (fun hlt=>?_)
 ·have hin:i<O.length:=by omega
  have hil:((inRt (vv p) (O.take i)).map cn).length≤i:=by
   rw [List.length_map]
   have:=List.length_filter_le (fun t=>decide (pev (vv p) t=0)) (O.take i)
   unfold inRt
   rw [List.length_take] at this; omega
  have hsn:=inL_snoc (vv p) hin
  refine aQ (v:=q) qM i rfl qN fun a1=>?_
  refine aX (d:=J ((O.map cn).getD i z0)) qM (bM _) fun a2=>?_
  refine aM (d:=I false []) fun tb htb=>?_
  refine aI (d:=J ((O.map cn).getD i z0)) 0 rfl htb rfl qK (aC (v:=a2) qM) ?_
  refine aF (d:=J ((O.map cn).getD i z0)) 0 rfl htb rfl (bM _) fun a3=>?_
  refine cH (hsg a3 i hin) ?_
  refine aD _ rfl (fun hz=>?_) (fun hz=>?_)
  ·rw [if_pos (sgn0.1 hz)] at hsn
   refine aF (d:=J ((O.map cn).getD i z0)) 0 rfl htb rfl (bM _) fun a4=>?_
   refine mE (size:=2) J z0 ((O.map cn).getD i z0) qE (aC (v:=a4) qM) rfl fun a5=>?_
   refine gX 1 rfl hov (bC (v:=a5) qM) (by simp only [List.length_cons,List.length_nil]; omega) (by simp only [List.length_cons,List.length_nil]; omega) fun ov2 hov2=>?_
   refine ar rfl qI ?_
   refine aU (i+1,ov2) ⟨by simp only; omega,hov2⟩ (by simp only; omega) qF ?_
   rw [hsn,← t7,fE hin]
   exact dS (aB (fs':=[(q,vd O),(v,V p)]) qS)
  ·rw [if_neg (fun h=>hz (sgn0.2 h))] at hsn
   refine ar rfl qI ?_
   refine aU (i+1,ov) ⟨by simp only; omega,hov⟩ (by simp only; omega) qF ?_
   rw [hsn]
   exact dS (aB (fs':=[(q,vd O),(v,V p)]) qS)
 ·have hin:O.length=i:=by omega
  subst hin
  refine fin ⟨rfl,ov,O,e,rfl,hO,rfl⟩ (aA (dC hov) (a7 ?_ (aH _ _)))
  exact (bC (List.Mem.head _)).cast (by rw [List.take_length])
theorem sim_root {P s:List Int} (h:m5 P s) (hd:0<dg P) {x:Int} (hx:pev P x=0):pev s x=0:=by
 obtain ⟨g,hg,hs⟩:=h.ok hd
 have h0:j0 P≠0:=fun e=>by
  have h1:=fF P
  have h2:=mt dZ.1 (show ¬ dg P=0 by omega)
  rw [e] at h1
  exact h2 h1.symm
 have h1:=iW P x
 rw [hx] at h1
 have h2:pev (pprim P) x=0:=by
  rcases Int.mul_eq_zero.1 h1.symm with h | h
  ·exact absurd h h0
  ·exact h
 obtain ⟨u,hu⟩:=sO (w:=pprim P) (by rw [dO]; exact hd) hg hs (dg (pprim P)) (pprim P) qN (fD hd) (Dv.refl _)
 have h3:=hu x
 rw [h2,Int.zero_mul,kA] at h3
 exact Classical.byContradiction fun h=>ipow_ne h _ h3
theorem Rise.filter (f:Int→Bool):∀ {l:List Int},Rise l→Rise (l.filter f)
 | [],_=>trivial
 | a::l,h=>by
  have ih:=Rise.filter f h.2
  rw [List.filter_cons]
  split
  ·exact ⟨fun x hx=>h.1 x ((List.mem_filter.1 hx).1),ih⟩
  ·exact ih
theorem in_all {P:List Int} {x y:Int} {O:List Int} {e:Int} (h:FlSpec P x y O e) (hd:0<dg P) (hxy:x≤y):Rise (inRt P O)∧(∀ t,t∈inRt P O↔x≤t∧t≤y∧pev P t=0)∧e=0:=by
 obtain ⟨h1,s,ls,h2,h3,h4,h5,h6⟩:=h.ok hd hxy
 refine ⟨h6.up.filter _,fun t=>?_,h1⟩
 unfold inRt
 rw [List.mem_filter,h6.mem,decide_eq_true_iff]
 constructor
 ·rintro ⟨⟨g1,g2,_⟩,g4⟩; exact ⟨g1,by omega,g4⟩
 ·rintro ⟨g1,g2,g3⟩
  refine ⟨⟨g1,by omega,?_⟩,g3⟩
  have:=h3.nn (show t<t+1 by omega)
  rw [h4,if_pos (sim_root h2 hd g3)] at this
  omega
def near (v m y:Int):Bool:=decide (v%m≤y)||decide (m - v%m≤y)
theorem zDivModZJ7 (v w:Value) (x:Int) (m:Bool×List Nat) (a:Nat) (hx:sz x a) (ha:a≤137438953472) (hm:Lim m.2) (lm:m.2.length≤137438953472) (h0:jv m≠0) :
  Meets Tryz.prog 94 [v,w] [(v,zd x),(w,J m)] (fun r os fs=>os=[]∧∃ q r',r=.tuple #[q,r',.bool true]∧fs=[(q,zd (x/jv m)),(r',zd (x%jv m))]):=by
 have h:=pU v w (decide (x<0)) m.1 (bT x.natAbs) m.2 (a0 _) hm (Nat.le_trans hx.len ha) lm (by
  intro e
  apply h0
  show iv m.1 m.2=0
  unfold iv; rw [e]; split <;> simp)
 rw [nC] at h
 exact h
theorem zCmpZJ7 (v w:Value) (x:Int) (y:Bool×List Nat) (a:Nat) (hx:sz x a) (ha:a≤137438953472) (hy:Lim y.2) (ly:y.2.length≤137438953472) :
  Meets Tryz.prog 95 [v,w] [(v,zd x),(w,J y)] (fun r os fs=>os=[]∧fs=[]∧r=.int .i64 (x - jv y).sign):=by
 have h:=zCmpS v w (cn x) y (a0 _) hy (Nat.le_trans hx.len ha) ly
 rw [eR] at h
 exact h
theorem zSubJZ7 (v w:Value) (x:Bool×List Nat) (y:Int) (a:Nat) (hx:Lim x.2) (lx:x.2.length≤137438953472) (hy:sz y a) (ha:a≤137438953472) :
  Meets Tryz.prog 96 [v,w] [(v,J x),(w,zd y)] (fun r os fs=>os=[]∧fs=[(r,zd (jv x - y))]):=by
 have h:=rL v w x.1 (cn y).1 x.2 (cn y).2 hx (a0 _) lx (Nat.le_trans hy.len ha)
 have e:iv (cn y).1 (cn y).2=y:=nC y
 rw [e] at h
 exact h
theorem sgn_le {x:Int}:x.sign≤0↔x≤0:=by
 rcases Int.lt_trichotomy x 0 with g | g | g
 ·rw [eO g]; omega
 ·rw [g]; simp
 ·rw [eN g]; omega
theorem kO (v w u:Value) (x:Int) (m y:Bool×List Nat) (a:Nat) (hx:sz x a) (ha:a≤1073741824) (hm:Lim m.2) (lm:m.2.length≤1073741824) (hy:Lim y.2) (ly:y.2.length≤1073741824) (h0:0<jv m) :
  Meets Tryz.prog 52 [v,w,u] [(v,zd x),(w,J m),(u,J y)] (fun r os fs=>os=[]∧fs=[]∧r=.bool (near x (jv m) (jv y))):=by
 have hdm:=fun y1 y2=>zDivModZJ7 y1 y2 x m a hx qN hm qN qN
 have zm:=gY (x:=m) hm (Nat.le_refl _)
 have hr:sz (x%jv m) m.2.length:=by
  have h1:=Int.emod_nonneg x (show jv m≠0 by omega)
  have h2:=Int.emod_lt_of_pos x h0
  unfold sz at *
  omega
 have hd:sz (jv m - x%jv m) (m.2.length+1):=iL zm hr
 have hc1:=fun y1 y2=>zCmpZJ7 y1 y2 (x%jv m) y _ hr qN hy qN
 have hc2:=fun y1 y2=>zCmpZJ7 y1 y2 (jv m - x%jv m) y _ hd qN hy qN
 have hsb:=fun y1 y2=>zSubJZ7 y1 y2 m (x%jv m) _ hm qN hr qN
 have hn:near x (jv m) (jv y)=(decide (x%jv m≤jv y)||decide (jv m - x%jv m≤jv y)):=rfl
 rw [hn]
 generalize x/jv m=Q at *
 generalize x%jv m=R at *
 refine mV Tryz.func52 ?_
 refine bA (aC (d:=zd x) qM) fun b1 h1=>?_
 refine bA (aC (d:=J m) qM) fun b2 h2=>?_
 refine bA (aC (d:=J y) qM) fun b3 h3=>?_
 refine aF (d:=zd x) 2 rfl h1 rfl (aN _ _) fun y1=>?_
 refine aF (d:=J m) 1 rfl h2 rfl (bM _) fun y2=>?_
 refine cF (hdm y1 y2) ?_
 rintro _ _ _ ⟨rfl,q,r,rfl,rfl⟩
 refine aM (d:=I false []) fun c1 hb1=>?_
 refine aM (d:=I false []) fun c2 hb2=>?_
 refine aI (d:=zd Q) 1 rfl hb1 rfl qK (aC (v:=q) qM) ?_
 refine aI (d:=zd R) 0 rfl hb2 rfl qK (aC (v:=r) qM) ?_
 refine aY [0,1,2,3,4,5,6,8,7,9,10,11,12] [0,1,2,3,4,5,6,7,8,9,10,11,12] qK qK ?_
 refine aF (d:=zd R) 0 rfl hb2 rfl (aN _ _) fun y3=>?_
 refine aF (d:=J y) 2 rfl h3 rfl (bM _) fun y4=>?_
 refine cH (hc1 y3 y4) ?_
 refine aD _ rfl (fun hle=>?_) (fun hle=>?_)
 ·rw [decide_eq_true (show R≤jv y by have:=sgn_le.1 hle; omega),Bool.true_or]
  exact fin ⟨rfl,rfl,rfl⟩ (dS (dS (dS (dS (dS (aH _ _))))))
 ·rw [decide_eq_false (show ¬ R≤jv y from fun h=>hle (sgn_le.2 qN)),Bool.false_or]
  refine aF (d:=J m) 3 rfl h2 rfl (bM _) fun y5=>?_
  refine aF (d:=zd R) 0 rfl hb2 rfl (aN _ _) fun y6=>?_
  refine aF (d:=J y) 2 rfl h3 rfl (bM _) fun y7=>?_
  refine cG (hsb y5 y6) fun y8=>?_
  refine cH (hc2 y8 y7) ?_
  refine aD _ rfl (fun hle2=>?_) (fun hle2=>?_)
  ·rw [decide_eq_true (show jv m - R≤jv y by have:=sgn_le.1 hle2; omega)]
   exact fin ⟨rfl,rfl,rfl⟩ (dS (dS (dS (dS (dS (aH _ _))))))
  ·rw [decide_eq_false (show ¬ jv m - R≤jv y from fun h=>hle2 (sgn_le.2 qN))]
   exact fin ⟨rfl,rfl,rfl⟩ (dS (dS (dS (dS (dS (aH _ _))))))
def rO (P:List Int) (m y x:Int):Bool×Int:=if m<1∨y<0 then (false,1) else (near (pev P x) m y,0)
theorem uQ (v w u t:Value) (p:Row) (m y x:Bool×List Nat) (k a:Nat) (hp:Fit k p) (lp:p.length≤1000) (hk:k≤1000000) (hm:Lim m.2) (hma:m.2.length≤a) (hy:Lim y.2) (hya:y.2.length≤a) (hx:Lim x.2) (hxa:x.2.length≤a) (ha:a≤1000000) :
  Meets Tryz.prog 13 [v,w,u,t] [(v,V p),(w,J m),(u,J y),(t,J x)] (fun r os fs=>os=[]∧fs=[]∧r=.tuple #[.bool (rO (vv p) (jv m) (jv y) (jv x)).1,.int .i64 (rO (vv p) (jv m) (jv y) (jv x)).2]):=by
 have zm:=gY hm hma
 have zy:=gY hy hya
 have hmul:(p.length+1)*(a+1)≤1001*(a+1):=Nat.mul_le_mul_right _ qN
 have hsm:∀ z,Meets Tryz.prog 51 [z] [(z,J m)] (fun r os fs=>os=[]∧fs=[]∧r=.int .i64 (jv m).sign):=fun z=>cY z m.1 m.2 hm qN
 have hsy:∀ z,Meets Tryz.prog 51 [z] [(z,J y)] (fun r os fs=>os=[]∧fs=[]∧r=.int .i64 (jv y).sign):=fun z=>cY z y.1 y.2 hy qN
 have hv:=fun z=>pValueJ v z p x k a hp hx hxa qN qN
 have zv:sz (pev (vv p) (jv x)) 1073741824:=(ev_sz hp.szR (gY hx hxa)).mono (by
  rw [cV]
  have:p.length*(a+1)≤1000*(a+1):=Nat.mul_le_mul_right _ lp
  omega)
 refine mV Tryz.func13 ?_
 refine bA (aC (d:=J m) qM) fun b1 h1=>?_
 refine bA (aC (d:=J y) qM) fun b2 h2=>?_
 refine bA (aC (d:=J x) qM) fun b3 h3=>?_
 refine aF (d:=J m) 2 rfl h1 rfl (bM _) fun y1=>?_
 refine cH (hsm y1) ?_
 have hs1:(jv m).sign<1↔jv m<1:=by
  rcases Int.lt_trichotomy (jv m) 0 with g | g | g
  ·rw [eO g]; omega
  ·rw [g]; simp
  ·rw [eN g]; omega
 refine aD _ rfl (fun hl=>?_) (fun hl=>?_)
 ·rw [show rO (vv p) (jv m) (jv y) (jv x)=(false,1) from if_pos (.inl (hs1.1 hl))]
  exact fin ⟨rfl,rfl,rfl⟩ (dS (dS (dS (aH _ _))))
 have hm1:¬ jv m<1:=fun h=>hl (hs1.2 h)
 refine aF (d:=J y) 1 rfl h2 rfl (bM _) fun y2=>?_
 refine cH (hsy y2) ?_
 refine aD _ rfl (fun hl2=>?_) (fun hl2=>?_)
 ·rw [show rO (vv p) (jv m) (jv y) (jv x)=(false,1) from if_pos (.inr (kG.1 hl2))]
  exact fin ⟨rfl,rfl,rfl⟩ (dS (dS (dS (aH _ _))))
 rw [show rO (vv p) (jv m) (jv y) (jv x)=(near (pev (vv p) (jv x)) (jv m) (jv y),0) from if_neg (fun h=>h.elim hm1 fun h=>hl2 (kG.2 h))]
 refine aY [0,1,3,4,2,5,6,7] [0,1,2,3,4,5,6,7] qK qK ?_
 refine aF (d:=J x) 0 rfl h3 rfl (bM _) fun y3=>?_
 refine aF (d:=J m) 2 rfl h1 rfl (bM _) fun y4=>?_
 refine aF (d:=J y) 1 rfl h2 rfl (bM _) fun y5=>?_
 refine cG (hv y3) fun y6=>?_
 refine cH (kO y6 y4 y5 _ m y _ zv qE hm qN hy qN qN) ?_
 exact fin ⟨rfl,rfl,rfl⟩ (dS (dS (dS (aH _ _))))
def fP (x:Int):Int:=if x=0 then 1 else x
theorem jN (v:Value) (x:Bool×List Nat) (n:Nat) (a:Nat) (hx:Lim x.2) (hxa:x.2.length≤a) (hn:n≤1000) (ha:a≤100000) :
  Meets Tryz.prog 57 [v,.int .i64 (n:Int)] [(v,J x)] (fun r os fs=>os=[]∧fs=[(r,zd (jv x^n))]):=by
 have zx:=gY hx hxa
 have zp:∀ i,i≤n→sz (jv x^i) (i*a+1):=fun i _=>(lP zx i).mono qN
 have hle:∀ i,i≤n→i*a+1≤137438953472:=fun i hi=>by
  have:i*a≤1000*a:=Nat.mul_le_mul_right _ qN
  omega
 have hmu:=fun i (hi:i≤n) y1 y2=>zMulZJ y1 y2 (jv x^i) x _ (zp i hi) (hle i hi) hx qN
 refine mV Tryz.func57 ?_
 refine bA (aC (d:=J x) qM) fun b1 h1=>?_
 refine aM (d:=I false []) fun o ho=>?_
 refine cG (dN 1 qE qE) fun y1=>?_
 refine aM (d:=I false []) fun c hc=>?_
 refine aI (d:=zd 1) 0 rfl hc rfl qK (aC (v:=y1) qM) ?_
 refine aO (X:=Nat) (fun i=>([(2,b1),(4,o),(5,c),(7,.int .i64 (n:Int)),(8,.int .i64 (i:Nat))],[bE c 2 1 (fun _=>zd (jv x^i)),bE o 2 1 (fun _=>I false []),bE b1 2 1 (fun _=>J x)],[]))
  (fun i=>i≤n) (fun i=>n - i) rfl ?_ ?_
 ·exact aU 0 (Nat.zero_le _) trivial qF (aA (bJ (by show zd 1=zd (jv x^0); rw [Int.pow_zero])) (aB qS))
 rintro i hi
 refine aD _ rfl (fun hlt=>?_) (fun hlt=>?_)
 ·refine aF (d:=zd (jv x^i)) 0 rfl hc rfl (aN _ _) fun y2=>?_
  refine aF (d:=J x) 2 rfl h1 rfl (bM _) fun y3=>?_
  refine cG (hmu i hi y2 y3) fun y4=>?_
  refine aI (d:=zd (jv x^i*jv x)) 0 rfl hc rfl qK (aC (v:=y4) qM) ?_
  refine ar rfl qI ?_
  exact aU (i+1) qN (by simp only; omega) qF (aA (bJ (by show zd _=zd (jv x^(i+1)); rw [Int.pow_succ])) (aB qS))
 ·have hin:i=n:=by omega
  subst hin
  refine aF (d:=zd (jv x^i)) 0 rfl hc rfl (aN _ _) fun y5=>?_
  refine aI (d:=zd (jv x^i)) 1 rfl ho rfl qK (aC (v:=y5) qM) ?_
  refine aF (d:=zd (jv x^i)) 1 rfl ho rfl (aN _ _) fun r=>?_
  exact fin ⟨rfl,rfl⟩ (dS (dS (dS (aB (fs':=[(r,zd (jv x^i))]) qS))))
instance iCGa1:TSl Tryz.prog 56 22 1:=⟨Tryz.underlying56,by kernel_rfl⟩
instance tmS:TMap Tryz.prog 126 129 26 :=
 ⟨Tryz.underlying126,Maps.Keyed.of_law (deep_law_laid (m:=3) qK qE (Nat.le_of_ble_eq_true qK) qK qK)⟩
instance tsS:TSpot Tryz.prog 129 :=
 ⟨⟨_,_,Tryz.underlying129,rfl,rfl,by kernel_rfl,by kernel_rfl,Tryz.underlying3,Tryz.underlying3,by kernel_rfl,by kernel_rfl,by kernel_rfl⟩,by kernel_rfl,⟨Tryz.prog.types.size - 1,by kernel_rfl⟩⟩
theorem info_spot:(Tryz.prog.info? 129).map (fun i=>(i.zero,i.size,i.bytes))=some (some (.agg #[.int .i64 0,.int .i64 0]),2,16):=by kernel_rfl
instance iCGa3:TStr2 Tryz.prog 129 (.int .i64 0) (.int .i64 0):=⟨⟨_,_,_,Tryz.underlying129,rfl,rfl,rfl,by kernel_rfl,by kernel_rfl⟩,by
 obtain ⟨i,h1,_,_,h4⟩:=l6 info_spot
 exact ⟨i,h1,h4⟩⟩
instance iCGa4:TAgg Tryz.prog 129 2:=⟨⟨_,Tryz.underlying129,rfl⟩,by kernel_rfl⟩
instance iCGa5:tQ Tryz.prog 129 0 0:=⟨_,_,Tryz.underlying129,rfl,rfl,0,by kernel_rfl⟩
instance iCGa6:tQ Tryz.prog 129 1 1:=⟨_,_,Tryz.underlying129,rfl,rfl,0,by kernel_rfl⟩
instance tzS:m4 Tryz.prog 129 (jD 0 0):=uL info_spot fun _ _=>⟨[_],[_],rfl,⟨rfl,rfl⟩,⟨rfl,rfl⟩⟩
instance tvI:TZeroV Tryz.prog 26 (J z0):=⟨by
 obtain ⟨i,h1,_,_,h4⟩:=l6 t9
 exact ⟨i,_,h1,h4,fun S w=>⟨_,⟨[.bool false],[.slice none 0 0],rfl,eJ S w,gM S w 1 _⟩,rfl⟩⟩⟩
abbrev fG:=Nat×Nat×(Bool×List Nat)
def tr (i:Nat) (r:Row):Nat→List fG
 | 0=>[]
 | n+1=>tr i r n++if jv (r.getD n z0)=0 then [] else [(i,n,r.getD n z0)]
def tg (g:List Row):Nat→List fG
 | 0=>[]
 | n+1=>tg g n++tr n (g.getD n []) (g.getD n []).length
theorem tr_mem {i:Nat} {r:Row} {n:Nat} {t:fG} (h:t∈tr i r n):t.1=i∧t.2.1<n∧t.2.2=r.getD t.2.1 z0∧jv t.2.2≠0:=by
 induction n with
 | zero=>simp [tr] at h
 | succ n ih =>
  simp only [tr,List.mem_append] at h
  rcases h with h | h
  ·obtain ⟨h1,h2,h3⟩:=ih h; exact ⟨h1,by omega,h3⟩
  ·split at h
   ·simp at h
   ·rename_i hz
    simp only [List.mem_singleton] at h
    subst h
    exact ⟨rfl,Nat.lt_succ_self _,rfl,hz⟩
theorem uM {g:List Row} {n:Nat} {t:fG} (h:t∈tg g n):t.1<n∧t.2.1<(g.getD t.1 []).length∧t.2.2=(g.getD t.1 []).getD t.2.1 z0∧jv t.2.2≠0:=by
 induction n with
 | zero=>simp [tg] at h
 | succ n ih =>
  simp only [tg,List.mem_append] at h
  rcases h with h | h
  ·obtain ⟨h1,h2⟩:=ih h; exact ⟨by omega,h2⟩
  ·obtain ⟨h1,h2,h3,h4⟩:=tr_mem h
   subst h1
   exact ⟨Nat.lt_succ_self _,h2,h3,h4⟩
theorem tr_nd (i:Nat) (r:Row) (n:Nat):Nd (tr i r n):=by
 induction n with
 | zero=>exact List.Pairwise.nil
 | succ n ih =>
  refine List.pairwise_append.2 ⟨ih,?_,fun s hs t ht=>?_⟩
  ·split
   ·exact List.Pairwise.nil
   ·exact List.pairwise_singleton _ _
  ·split at ht
   ·simp at ht
   ·simp only [List.mem_singleton] at ht
    subst ht
    have:=(tr_mem hs).2.1
    simp only
    omega
theorem tg_nd (g:List Row) (n:Nat):Nd (tg g n):=by
 induction n with
 | zero=>exact List.Pairwise.nil
 | succ n ih =>
  refine List.pairwise_append.2 ⟨ih,tr_nd _ _ _,fun s hs t ht=>?_⟩
  have h1:=(uM hs).1
  have h2:=(tr_mem ht).1
  omega
theorem tr_len (i:Nat) (r:Row) (n:Nat):(tr i r n).length≤n:=by
 induction n with
 | zero=>exact Nat.le_refl _
 | succ n ih =>
  simp only [tr,List.length_append]
  split <;> simp only [List.length_nil,List.length_cons] <;> omega
theorem tg_len {g:List Row} {c:Nat} (hc:∀ r,r∈g→r.length≤c) (n:Nat):(tg g n).length≤n*c:=by
 induction n with
 | zero=>exact Nat.zero_le _
 | succ n ih =>
  have h1:=tr_len n (g.getD n []) (g.getD n []).length
  have h2:(g.getD n []).length≤c:=by
   by_cases hn:n<g.length
   ·exact hc _ (by rw [gE,List.getElem?_eq_getElem hn]; exact List.getElem_mem hn)
   ·rw [gE,List.getElem?_eq_none qN]; exact Nat.zero_le _
  simp only [tg,List.length_append,Nat.succ_mul]
  omega
theorem mput_new {L:List fG} {i j:Nat} (h:∀ t,t∈L→¬ (t.1=i∧t.2.1=j)) (a:Bool×List Nat):mput L i j a=L++[(i,j,a)]:=by
 unfold mput
 rw [List.findIdx?_eq_none_iff.2 fun t ht=>by
  have:=h t ht
  cases hb:(t.1==i&&t.2.1==j)
  ·rfl
  ·simp only [Bool.and_eq_true,beq_iff_eq] at hb; exact absurd hb this]
theorem lS (v:Value) (g:List Row) (hk:∀ r,r∈g→r.length≤1048576∧Fit 137438953472 r) (lg:g.length≤1048576) :
  Meets Tryz.prog 102 [v] [(v,W g)] (fun r os fs=>os=[]∧(∃ b,r=.map (some b))∧fs=[(r,MD J z0 (tg g g.length))]):=by
 refine mV Tryz.func102 ?_
 refine make_L J z0 fun m hm=>?_
 refine aT qM fun _=>?_
 refine aO (X:=Nat) (fun i=>([(3,m),(9,v),(10,.int .i64 (g.length:Nat)),(11,.int .i64 (i:Nat))],[mC J z0 m (tg g i)],[(v,W g)])) (fun i=>i≤g.length) (fun i=>g.length - i) rfl ?_ ?_
 ·exact aU 0 (Nat.zero_le _) trivial qF (aB qS)
 ·rintro i hi
  refine aD _ rfl (fun hlt=>?_) (fun hlt=>?_)
  ·have hin:i<g.length:=by omega
   have hrm:g.getD i []∈g:=by rw [gE,List.getElem?_eq_getElem hin]; exact List.getElem_mem hin
   obtain ⟨hrl,hrf⟩:=hk _ hrm
   have hlen:=tg_len (fun r hr=>(hk r hr).1) i
   have hmul:i*1048576≤1048576*1048576:=Nat.mul_le_mul_right _ qN
   have hmem:=fun t=>uM (g:=g) (n:=i) (t:=t)
   have hnd:=tg_nd g i
   have hstep:tg g (i+1)=tg g i++tr i (g.getD i []) (g.getD i []).length:=rfl
   refine aQ qM i rfl hin fun b1=>?_
   refine aX (d:=V (g.getD i [])) qM (show mJ Tryz.prog 22 from inferInstance) fun u=>?_
   generalize g.getD i []=r at *
   generalize hT:tg g i=T at *
   refine aT qM fun _=>?_
   refine aO (X:=Nat) (fun j=>([(3,m),(4,.int .i64 (i:Nat)),(9,v),(10,.int .i64 (g.length:Nat)),(11,.int .i64 (i:Nat)),(16,u),(17,.int .i64 (r.length:Nat)),(18,.int .i64 (j:Nat))],[mC J z0 m (T++tr i r j)],[(u,V r),(v,W g)])) (fun j=>j≤r.length) (fun j=>r.length - j) rfl ?_ ?_
   ·refine aU 0 (Nat.zero_le _) trivial qF ?_
    rw [show T++tr i r 0=T from List.append_nil _]
    exact aB qS
   ·rintro j hj
    refine aD _ rfl (fun hlt2=>?_) (fun hlt2=>?_)
    ·have hjr:j<r.length:=by omega
     have hx:=hrf.get j
     have hs:=fun u=>cY u (r.getD j z0).1 (r.getD j z0).2 hx.1 hx.2
     have hstep2:tr i r (j+1)=tr i r j++if jv (r.getD j z0)=0 then [] else [(i,j,r.getD j z0)]:=rfl
     have htm:=fun t=>tr_mem (i:=i) (r:=r) (n:=j) (t:=t)
     have htl:=tr_len i r j
     have hnd2:Nd (T++tr i r j):=List.pairwise_append.2 ⟨hnd,tr_nd _ _ _,fun s hs t ht=>by
      have h1:=(hmem s hs).1
      have h2:=(htm t ht).1
      omega⟩
     have hin64:In64 (T++tr i r j):=fun t ht=>by
      rcases List.mem_append.1 ht with ht | ht
      ·obtain ⟨h1,h2,_⟩:=hmem t ht
       have:(g.getD t.1 []).length≤1048576:=(hk _ (by rw [gE,List.getElem?_eq_getElem qN]; exact List.getElem_mem _)).1
       omega
      ·obtain ⟨h1,h2,_⟩:=htm t ht
       omega
     have hnew:=mput_new (L:=T++tr i r j) (i:=i) (j:=j) (fun t ht e=>by
      rcases List.mem_append.1 ht with ht | ht
      ·have:=(hmem t ht).1; omega
      ·have:=(htm t ht).2.1; omega) (r.getD j z0)
     refine aQ qM j rfl hjr fun b2=>?_
     refine aX (d:=J (r.getD j z0)) qM (bM _) fun y1=>?_
     refine aM (d:=I false []) fun q hq=>?_
     refine aI (d:=J (r.getD j z0)) 0 rfl hq rfl qK ?_ ?_; exact aC qM
     refine aF (d:=J (r.getD j z0)) 0 rfl hq rfl (bM _) fun y2=>?_
     refine cH (hs y2) ?_
     by_cases h0:jv (r.getD j z0)=0
     ·refine cX rfl (fun hne=>hne (by show (jv (r.getD j z0)).sign=0; rw [h0]; rfl)) ?_
      refine ar rfl qI ?_
      refine aU (j+1) qN (by simp only; omega) qF ?_
      rw [hstep2,if_pos h0,List.append_nil]
      exact dS (aB qS)
     ·refine dI rfl (fun e=>h0 (Int.sign_eq_zero_iff_zero.1 e)) ?_
      refine oX ?_
      refine aF (d:=J (r.getD j z0)) 0 rfl hq rfl (bM _) fun y3=>?_
      refine put_L (r.getD j z0) 1 rfl hm hin64 hnd2 qN qN (by simp only [List.length_append]; unfold maxLen; omega) (bC qM) ?_
      rw [hnew]
      refine ar rfl qI ?_
      refine aU (j+1) qN (by simp only; omega) qF ?_
      rw [hstep2,if_neg h0,← List.append_assoc]
      exact dS (aB qS)
    ·have hjr:j=r.length:=by omega
     subst hjr
     refine ar rfl qI ?_
     refine aU (i+1) qN (by simp only; omega) qF ?_
     rw [hstep]
     exact aB qS
  ·have hip:i=g.length:=by omega
   subst hip
   exact fin ⟨rfl,hm,rfl⟩ (aA (Seals.mapL 0 rfl hm) (aB qS))
def gtr:List (List Int)→List (List Int)
 | []=>[]
 | r::g=>match gtr g with
  | []=>if r=[] then [] else [r]
  | s::t=>r::s::t
theorem tF (l:List (List Int)):gtr (l++[[]])=gtr l:=by
 induction l with
 | nil=>rfl
 | cons r l ih=>simp only [List.cons_append,gtr,ih]
theorem gtr_snoc_ne {r:List Int} (h:r≠[]) (l:List (List Int)):gtr (l++[r])=l++[r]:=by
 induction l with
 | nil=>simp [gtr,h]
 | cons s l ih =>
  simp only [List.cons_append,gtr,ih]
  cases l <;> rfl
def rowL (L:List fG) (i n:Nat):Row:=(List.range n).map fun j=>lk z0 L i j
def qX (L:List fG) (c n:Nat):List (List Int):=(List.range n).map fun i=>nrm (vv (rowL L i c))
theorem p6 (L:List fG) (i n:Nat):(rowL L i n).length=n:=by simp [rowL]
theorem rowL_get (L:List fG) {i n j:Nat} (h:j<n):(rowL L i n).getD j z0=lk z0 L i j:=by simp [rowL,gE,h]
theorem laidN_len (L:List fG) (c n:Nat):(qX L c n).length=n:=by simp [qX]
theorem laidN_succ (L:List fG) (c n:Nat):qX L c (n+1)=qX L c n++[nrm (vv (rowL L n c))]:=by simp [qX,List.range_succ]
theorem o7 {L:List fG} {i j:Nat}:lk z0 L i j=z0∨∃ t,t∈L∧t.1=i∧t.2.1=j∧lk z0 L i j=t.2.2:=by
 unfold lk
 cases hf:L.find? fun t=>t.1==i&&t.2.1==j with
 | none=>exact .inl rfl
 | some t =>
  have h1:=List.find?_some hf
  simp only [Bool.and_eq_true,beq_iff_eq] at h1
  exact .inr ⟨t,List.mem_of_find?_eq_some hf,h1.1,h1.2,rfl⟩
theorem lay_s (F:Nat→Bool×List Nat) (j y:Nat):upd (fun y=>J (if y<j then F y else z0)) j (J (F j)) y=J (if y<j+1 then F y else z0):=by
 unfold upd
 by_cases h:y=j
 ·subst h; rw [if_pos rfl,if_pos qN]
 ·rw [if_neg h]
  show J (if y<j then F y else z0)=J (if y<j+1 then F y else z0)
  by_cases h2:y<j
  ·rw [if_pos h2,if_pos qN]
  ·rw [if_neg h2,if_neg qN]
theorem pK (v:Value) (L:List fG) (n c:Nat) (hL:In64 L) (hnd:Nd L) (hf:∀ t,t∈L→Lim t.2.2.2∧t.2.2.2.length≤137438953472) (hn:n≤1048576) (hc:c≤1048576) :
  Meets Tryz.prog 104 [v,.int .i64 ((n:Nat) - 1:Int),.int .i64 ((c:Nat) - 1:Int)] [(v,MD J z0 L)] (fun r os fs=>os=[]∧fs=[(r,wd (gtr (qX L c n)))]):=by
 refine mV Tryz.func104 ?_
 refine ar rfl qI ?_
 refine aO (X:=Nat×Value) (fun x=>([(0,v),(1,.int .i64 ((n:Nat) - 1:Int)),(2,.int .i64 ((c:Nat) - 1:Int)),(7,x.2),(12,.int .i64 (n:Nat)),(13,.int .i64 (x.1:Nat))],[jY 1 V [] x.2 ((qX L c x.1).map (·.map cn))],[(v,MD J z0 L)]))
  (fun x=>x.1≤n∧isSl x.2) (fun x=>n - x.1) rfl ?_ ?_
 ·exact aU (0,.slice none 0 0) ⟨Nat.zero_le _,fZ⟩ trivial qF (aA (cB _ _ 1 (fun i=>V (([]:List Row).getD i []))) (aB qS))
 ·rintro ⟨i,vo⟩ ⟨h1,hvo⟩
  simp only at h1 hvo ⊢
  refine aD _ rfl (fun hlt=>?_) (fun hlt=>?_)
  ·have hin:i<n:=by omega
   have hlen:=laidN_len L c i
   have hrow:Fit 137438953472 (rowL L i c):=fun x hx=>by
    obtain ⟨j,hj,rfl⟩:=List.mem_map.1 hx
    rcases o7 (L:=L) (i:=i) (j:=j) with h | ⟨t,ht,_,_,h⟩
    ·rw [h]; exact ⟨Lim.nil,Nat.zero_le _⟩
    ·rw [h]; exact hf t ht
   refine ar rfl qI ?_
   refine eF (t:=23) (d:=I false []) c qN qN qN qN fun u hu=>?_
   refine ar rfl qI ?_
   refine aO (X:=Nat) (fun j=>([(0,v),(1,.int .i64 ((n:Nat) - 1:Int)),(2,.int .i64 ((c:Nat) - 1:Int)),(7,vo),(8,.int .i64 (i:Nat)),(9,u),(12,.int .i64 (n:Nat)),(13,.int .i64 (i:Nat)),(20,.int .i64 (c:Nat)),(21,.int .i64 (j:Nat))],
    [bE u 2 c (fun y=>J (if y<j then lk z0 L i y else z0)),jY 1 V [] vo ((qX L c i).map (·.map cn))],[(v,MD J z0 L)])) (fun j=>j≤c) (fun j=>c - j) rfl ?_ ?_
   ·exact aU 0 (Nat.zero_le _) trivial qF (aA (Seals.own_cong (os:=[_,_]) 0 (fun y=>J (if y<0 then lk z0 L i y else z0)) rfl rfl fun y _=>by rw [if_neg (Nat.not_lt_zero _)]; rfl) (aB qS))
   ·rintro j hj
    refine aD _ rfl (fun hlt2=>?_) (fun hlt2=>?_)
    ·have hjc:j<c:=by omega
     refine oX ?_
     refine get_L qM hL hnd qN qN fun y1=>?_
     refine aE 0 rfl hu j rfl hjc ?_
     refine cI (bL (d:=J (lk z0 L i j)) 0 rfl j hjc rfl qK (aC qM) ⟨_,_,Seals.own_cong (os:=[_,_]) 0 (fun y=>J (if y<j+1 then lk z0 L i y else z0)) rfl rfl (fun y _=>lay_s (fun y=>lk z0 L i y) j y),?_⟩)
     refine ar rfl qI ?_
     exact aU (j+1) qN (by simp only; omega) qF (aB qS)
    ·have hjc:j=c:=by omega
     subst hjc
     refine dK (fH u (rowL L i j) hrow (by rw [p6]; omega)) (aA (Seals.own_cong (os:=[_,_]) 0 (n':=(rowL L i j).length) (fun y=>J ((rowL L i j).getD y z0)) rfl (p6 L i j).symm fun y hy=>by rw [if_pos hy,rowL_get L hy]) (Seals.L (os:=[jY 2 J z0 u (rowL L i j),_]) 0 rfl hu)) qS ?_
     rintro x2 _ _ ⟨rfl,rfl⟩
     refine mE (size:=1) V [] ((nrm (vv (rowL L i j))).map cn) qE (aC (d:=V ((nrm (vv (rowL L i j))).map cn)) qM) rfl fun l1=>?_
     refine gX 0 rfl hvo (bC qM) (by simp only [List.length_map,List.length_cons,List.length_nil]; omega) (by simp only [List.length_map,List.length_cons,List.length_nil]; omega) fun w2 hw2=>?_
     refine ar rfl qI ?_
     refine aU (i+1,w2) ⟨by simp only; omega,hw2⟩ (by simp only; omega) qF ?_
     simp only [laidN_succ,List.map_append,List.map_cons,List.map_nil]
     exact aB qS
  ·have hip:i=n:=by omega
   subst hip
   have hG:=laidN_len L c i
   generalize qX L c i=G at *
   have hGm:∀ k,k≤i→((G.take k).map (·.map cn)).length=k:=fun k hk=>by rw [List.length_map,List.length_take]; omega
   refine aO (X:=Nat×Value) (fun x=>([(7,x.2)],[],[(x.2,wd (G.take x.1))])) (fun x=>x.1≤i∧gtr (G.take x.1)=gtr G) (fun x=>x.1) rfl ?_ ?_
   ·refine aU (i,vo) ⟨Nat.le_refl _,by simp only; rw [List.take_of_length_le qN]⟩ trivial qF (aA (Seals.L 0 rfl hvo) ?_)
    simp only
    rw [List.take_of_length_le (show G.length≤i by omega)]
    exact aB qS
   ·rintro ⟨k,u⟩ ⟨g1,g2⟩
    simp only at g1 g2 ⊢
    have hm:=hGm k g1
    refine aT qM fun _=>?_
    rw [hm]
    refine aD _ rfl (fun hk0=>?_) (fun hk0=>?_)
    ·obtain ⟨j,rfl⟩:∃ j,k=j+1:=⟨k - 1,by omega⟩
     have hj:j<G.length:=by omega
     have ht:=rQ [] hj
     have hget:((G.take (j+1)).map (·.map cn)).getD j []=(G.getD j []).map cn:=by
      rw [ht,List.map_append,gE,List.getElem?_append_right (by rw [hGm j qN]; exact Nat.le_refl _),hGm j qN,Nat.sub_self]; rfl
     refine aT qM fun _=>?_
     rw [hm]
     refine ar rfl qI ?_
     refine aQ qM j qN qN fun b1=>?_
     refine aX (d:=V (((G.take (j+1)).map (·.map cn)).getD j [])) qM (iZ _) fun y1=>?_
     rw [hget]
     refine aT qM fun _=>?_
     refine aD _ rfl (fun hz=>?_) (fun hz=>?_)
     ·have hnil:G.getD j []=[]:=List.eq_nil_of_length_eq_zero (by rw [List.length_map] at hz; omega)
      refine aT qM fun _=>?_
      rw [hm]
      refine ar rfl qI ?_
      refine slice_L (kl:=.i64) (kh:=.i64) qM 0 j _ _ (.inl ⟨rfl,rfl⟩) (.inr (by congr 2; omega)) qN qN fun u'=>?_
      refine aU (j,u') ⟨by omega,by simp only; rw [← g2,ht,hnil,tF]⟩ (by simp only; omega) qF ?_
      simp only
      have e:((G.take (j+1)).map (·.map cn)).take j=(G.take j).map (·.map cn):=by rw [← List.map_take,List.take_take]; congr 2; omega
      rw [List.drop_zero,e]
      exact aB qS
     ·have hne:G.getD j []≠[]:=fun e=>hz (by rw [e]; rfl)
      refine fin ⟨rfl,rfl⟩ ?_
      rw [← g2,ht,gtr_snoc_ne hne,← ht]
      exact aB qS
    ·have hk:k=0:=by omega
     subst hk
     refine fin ⟨rfl,rfl⟩ ?_
     rw [← g2]
     exact aB qS
def gv (G:List (List Int)) (i j:Nat):Int:=(G.getD i []).getD j 0
def Gn (G:List (List Int)):Prop:=gtr G=G∧∀ r,r∈G→Nm r
theorem gtr_gtr (G:List (List Int)):gtr (gtr G)=gtr G:=by
 induction G with
 | nil=>rfl
 | cons r G ih =>
  simp only [gtr]
  split
  ·split
   ·rfl
   ·rename_i h; simp [gtr,h]
  ·rename_i s t h
   rw [h] at ih
   show (match gtr (s::t) with | []=>_ | s::t=>_)=_
   rw [ih]
theorem gtr_getD (G:List (List Int)) (i:Nat):(gtr G).getD i []=G.getD i []:=by
 induction G generalizing i with
 | nil=>rfl
 | cons r G ih =>
  simp only [gtr]
  split
  ·rename_i h
   have hz:∀ i,G.getD i []=[]:=fun i=>by rw [← ih,h]; rfl
   split
   ·rename_i hr
    cases i with
    | zero=>simp [hr]
    | succ i=>simpa using (hz i).symm
   ·cases i with
    | zero=>rfl
    | succ i=>simpa using (hz i).symm
  ·rename_i s t h
   cases i with
   | zero=>rfl
   | succ i =>
    have:=ih i
    rw [h] at this
    simpa using this
theorem gtr_mem {G:List (List Int)} {r:List Int} (h:r∈gtr G):r∈G:=by
 induction G with
 | nil=>exact h
 | cons s G ih =>
  simp only [gtr] at h
  split at h
  ·split at h
   ·simp at h
   ·simp only [List.mem_singleton] at h; exact List.mem_cons.2 (.inl h)
  ·rename_i s' t hg
   rcases List.mem_cons.1 h with h | h
   ·exact List.mem_cons.2 (.inl h)
   ·exact List.mem_cons.2 (.inr (ih (by rw [hg]; exact h)))
theorem gtr_last {G:List (List Int)} (h:gtr G=G):∀ n,G.length=n+1→G.getD n []≠[]:=by
 intro n hn he
 have ht:G=G.take n++[G.getD n []]:=by
  conv=>lhs; rw [← List.take_length (l:=G),hn]
  exact rQ [] qN
 rw [he] at ht
 have h1:gtr G=gtr (G.take n):=by rw [ht,tF,List.take_append_of_le_length (by rw [List.length_take]; omega),List.take_take,Nat.min_self]
 have h2:(gtr (G.take n)).length≤(G.take n).length:=by
  have:∀ H:List (List Int),(gtr H).length≤H.length:=fun H=>by
   induction H with
   | nil=>exact Nat.le_refl _
   | cons r H ih =>
    simp only [gtr]
    split
    ·split <;> simp
    ·rename_i s t hg
     rw [hg] at ih
     simpa using ih
  exact this _
 rw [← h1,h,List.length_take] at h2
 omega
theorem Gn.ext {G H:List (List Int)} (hG:Gn G) (hH:Gn H) (h:∀ i j,gv G i j=gv H i j):G=H:=by
 have rows:∀ i,G.getD i []=H.getD i []:=fun i=>by
  have nm:∀ {K:List (List Int)},Gn K→Nm (K.getD i []):=fun {K} hK=>by
   by_cases hi:i<K.length
   ·exact hK.2 _ (by rw [gE,List.getElem?_eq_getElem hi]; exact List.getElem_mem hi)
   ·rw [gE,List.getElem?_eq_none qN]; exact rfl
  have e:nrm (G.getD i [])=nrm (H.getD i []):=kT fun j=>h i j
  rwa [nm hG,nm hH] at e
 have len:G.length=H.length:=by
  rcases Nat.lt_trichotomy G.length H.length with hl | hl | hl
  ·obtain ⟨n,hn⟩:∃ n,H.length=n+1:=⟨H.length - 1,by omega⟩
   refine absurd ?_ (gtr_last hH.1 n hn)
   rw [← rows,gE,List.getElem?_eq_none qN]; rfl
  ·exact hl
  ·obtain ⟨n,hn⟩:∃ n,G.length=n+1:=⟨G.length - 1,by omega⟩
   refine absurd ?_ (gtr_last hG.1 n hn)
   rw [rows,gE,List.getElem?_eq_none qN]; rfl
 exact gI [] len fun i _=>rows i
def gof (F:Nat→Nat→Int) (n c:Nat):List (List Int):=gtr ((List.range n).map fun i=>nrm (lst c (F i)))
theorem gof_gn (F:Nat→Nat→Int) (n c:Nat):Gn (gof F n c):=⟨gtr_gtr _,fun r hr=>by
 obtain ⟨i,_,rfl⟩:=List.mem_map.1 (gtr_mem hr)
 exact gZ _⟩
theorem gof_gv (F:Nat→Nat→Int) (n c i j:Nat):gv (gof F n c) i j=if i<n∧j<c then F i j else 0:=by
 unfold gv gof
 rw [gtr_getD]
 by_cases hi:i<n
 ·have:((List.range n).map fun i=>nrm (lst c (F i))).getD i []=nrm (lst c (F i)):=by simp [gE,hi]
  rw [this,gT]
  by_cases hj:j<c
  ·rw [nW hj,if_pos ⟨hi,hj⟩]
  ·rw [if_neg (fun h=>hj h.2),gE,List.getElem?_eq_none (by rw [eC]; omega)]; rfl
 ·have:((List.range n).map fun i=>nrm (lst c (F i))).getD i []=[]:=by simp [gE,show n≤i by omega]
  rw [this,if_neg (fun h=>hi h.1)]; rfl
theorem laid_gof (L:List fG) (n c:Nat):gtr (qX L c n)=gof (fun i j=>jv (lk z0 L i j)) n c:=by
 unfold qX gof
 congr 2
 funext i
 congr 1
 refine gI 0 (by rw [cV,p6,eC]) fun j hj=>?_
 rw [cV,p6] at hj
 rw [lO _ _ (by rw [p6]; exact hj),rowL_get L hj,nW hj]
def gn (G:List (List Int)):List (List Int):=gtr (G.map nrm)
theorem gn_gn (G:List (List Int)):Gn (gn G):=⟨gtr_gtr _,fun r hr=>by
 obtain ⟨i,_,rfl⟩:=List.mem_map.1 (gtr_mem hr)
 exact gZ _⟩
theorem gn_gv (G:List (List Int)) (i j:Nat):gv (gn G) i j=gv G i j:=by
 unfold gv gn
 rw [gtr_getD]
 by_cases hi:i<G.length
 ·have:(G.map nrm).getD i []=nrm (G.getD i []):=by simp [gE,hi]
  rw [this,gT]
 ·have h1:(G.map nrm).getD i []=[]:=by simp [gE,List.getElem?_eq_none (show G.length≤i by omega)]
  have h2:G.getD i []=[]:=by simp [gE,List.getElem?_eq_none (show G.length≤i by omega)]
  rw [h1,h2]
theorem cW {α:Type} {l:List α} {z:α} {i:Nat} (h:l.length≤i):l.getD i z=z:=by
 rw [gE,List.getElem?_eq_none h]; rfl
def gdxN (G:List (List Int)):Nat→Nat
 | 0=>0
 | n+1=>if dg (G.getD n [])=0 then gdxN G n else n+1
def gdyN (G:List (List Int)):Nat→Nat
 | 0=>0
 | n+1=>max (gdyN G n) (dg (G.getD n []))
def gdx (G:List (List Int)):Nat:=gdxN G G.length
def gdy (G:List (List Int)):Nat:=gdyN G G.length
theorem wE (G:List (List Int)) (n:Nat):gdxN G n≤n:=by
 induction n with
 | zero=>exact Nat.le_refl _
 | succ n ih=>simp only [gdxN]; split <;> omega
theorem gdyN_le {G:List (List Int)} {c:Nat} (hc:∀ i,dg (G.getD i [])≤c) (n:Nat):gdyN G n≤c:=by
 induction n with
 | zero=>exact Nat.zero_le _
 | succ n ih=>have:=hc n; simp only [gdyN]; omega
theorem gdxN_zero {G:List (List Int)} {n i:Nat} (h:gdxN G n≤i) (hi:i<n):dg (G.getD i [])=0:=by
 induction n with
 | zero=>omega
 | succ n ih =>
  simp only [gdxN] at h
  split at h
  ·rename_i hz
   by_cases e:i=n
   ·subst e; exact hz
   ·exact ih h qN
  ·omega
theorem gdyN_zero {G:List (List Int)} {n i:Nat} (hi:i<n):dg (G.getD i [])≤gdyN G n:=by
 induction n with
 | zero=>omega
 | succ n ih =>
  simp only [gdyN]
  by_cases e:i=n
  ·subst e; omega
  ·have:=ih qN; omega
theorem gv_zero {G:List (List Int)} {i j:Nat} (h:¬ (i<gdx G∧j<gdy G)):gv G i j=0:=by
 unfold gv
 by_cases hi:i<G.length
 ·by_cases hx:i<gdx G
  ·exact jK.1 (gdyN_zero (G:=G) hi) j (by unfold gdy at h; omega)
  ·exact jK.1 (Nat.le_of_eq (gdxN_zero (Nat.le_of_not_lt hx) hi)) j (Nat.zero_le _)
 ·rw [cW (Nat.le_of_not_lt hi)]; rfl
theorem gof_gn_eq (G:List (List Int)) {n c:Nat} (hn:gdx G≤n) (hc:gdy G≤c):gof (gv G) n c=gn G :=
 (gof_gn _ _ _).ext (gn_gn _) fun i j=>by
  rw [gof_gv,gn_gv]
  split
  ·rfl
  ·rename_i h; exact (gv_zero fun h'=>h qN).symm
theorem i7 {L:List fG} (hn:Nd L) {i j:Nat} {a:Bool×List Nat} (h:(i,j,a)∈L):lk z0 L i j=a:=by
 rcases o7 (L:=L) (i:=i) (j:=j) with hz | ⟨t,ht,h1,h2,h3⟩
 ·unfold lk at hz
  cases hf:L.find? fun t=>t.1==i&&t.2.1==j with
  | none=>have:=List.find?_eq_none.1 hf _ h; simp at this
  | some t =>
   have h1:=List.find?_some hf
   simp only [Bool.and_eq_true,beq_iff_eq] at h1
   unfold lk
   rw [hf]
   have ht:=List.mem_of_find?_eq_some hf
   have:=nd_eq hn ht h h1.1 h1.2
   rw [this]; rfl
 ·rw [h3,nd_eq hn ht h h1 h2]
where
 nd_eq {L:List fG} (hn:Nd L) {t:fG} {i j:Nat} {a:Bool×List Nat} (ht:t∈L) (h:(i,j,a)∈L) (h1:t.1=i) (h2:t.2.1=j):t=(i,j,a):=by
  obtain ⟨m,hm,rfl⟩:=List.mem_iff_getElem.1 ht
  obtain ⟨n,hn',e⟩:=List.mem_iff_getElem.1 h
  have:=hn.one (z:=z0) hm hn' (by
   unfold s9 spk
   rw [gE,List.getElem?_eq_getElem hm,gE,List.getElem?_eq_getElem hn']
   simp only [Option.getD_some,h1,h2,e])
  subst this
  exact e
theorem mem_tr {i:Nat} {r:Row} {n j:Nat} (hj:j<n) (h0:jv (r.getD j z0)≠0):(i,j,r.getD j z0)∈tr i r n:=by
 induction n with
 | zero=>omega
 | succ n ih =>
  simp only [tr,List.mem_append]
  by_cases e:j=n
  ·subst e; exact .inr (by rw [if_neg h0]; exact List.mem_singleton.2 rfl)
  ·exact .inl (ih qN)
theorem mem_tg {g:List Row} {n i j:Nat} (hi:i<n) (hj:j<(g.getD i []).length) (h0:jv ((g.getD i []).getD j z0)≠0):(i,j,(g.getD i []).getD j z0)∈tg g n:=by
 induction n with
 | zero=>omega
 | succ n ih =>
  simp only [tg,List.mem_append]
  by_cases e:i=n
  ·subst e; exact .inr (mem_tr hj h0)
  ·exact .inl (ih qN)
theorem gv_ww (g:List Row) (i j:Nat):gv (ww g) i j=jv ((g.getD i []).getD j z0):=by
 unfold gv
 rw [nI]
 by_cases h:j<(g.getD i []).length
 ·exact lO _ _ h
 ·rw [cW (by rw [cV]; omega),cW (l:=g.getD i []) qN]; rfl
theorem lk_tg (g:List Row) (i j:Nat):jv (lk z0 (tg g g.length) i j)=gv (ww g) i j:=by
 rw [gv_ww]
 by_cases h0:jv ((g.getD i []).getD j z0)=0
 ·rw [h0]
  rcases o7 (L:=tg g g.length) (i:=i) (j:=j) with h | ⟨t,ht,rfl,rfl,h⟩
  ·rw [h]; rfl
  ·obtain ⟨_,_,h1,h2⟩:=uM ht
   rw [h1] at h2
   exact absurd h0 h2
 ·have hj:j<(g.getD i []).length:=Nat.lt_of_not_le fun h=>h0 (by rw [cW h]; rfl)
  have hi:i<g.length:=Nat.lt_of_not_le fun h=>by
   rw [cW h] at hj
   exact absurd hj (Nat.not_lt_zero _)
  rw [i7 (tg_nd _ _) (mem_tg hi hj h0)]
theorem jQ (v:Value) (g:List Row) (hk:∀ r,r∈g→Fit 137438953472 r) (lg:g.length≤1048576) (hl:∀ r,r∈g→r.length≤1048576) :
  Meets Tryz.prog 103 [v] [(v,W g)] (fun r os fs=>os=[]∧fs=[]∧r=.tuple #[.int .i64 ((gdx (ww g):Nat) - 1:Int),.int .i64 ((gdy (ww g):Nat) - 1:Int)]):=by
 have hwl:(ww g).length=g.length:=by simp [ww]
 have hfin:gdx (ww g)=gdxN (ww g) g.length∧gdy (ww g)=gdyN (ww g) g.length:=by unfold gdx gdy; rw [hwl]; exact ⟨rfl,rfl⟩
 have hdb:∀ i,dg ((ww g).getD i [])≤1048576:=fun i=>by
  rw [nI]
  refine Nat.le_trans (dY _) ?_
  rw [cV]
  by_cases h:i<g.length
  ·exact hl _ (by rw [gE,List.getElem?_eq_getElem h]; exact List.getElem_mem h)
  ·rw [cW (Nat.le_of_not_lt h)]; exact Nat.zero_le _
 rw [hfin.1,hfin.2]
 refine mV Tryz.func103 ?_
 refine aT qM fun _=>?_
 refine aO (X:=Nat) (fun i=>([(4,.int .i64 ((gdxN (ww g) i:Nat) - 1:Int)),(5,.int .i64 ((gdyN (ww g) i:Nat) - 1:Int)),(9,v),(10,.int .i64 (g.length:Nat)),(11,.int .i64 (i:Nat))],[],[(v,W g)])) (fun i=>i≤g.length) (fun i=>g.length - i) rfl ?_ ?_
 ·exact aU 0 (Nat.zero_le _) trivial qF (aB qS)
 ·rintro i hi
  refine aD _ rfl (fun hlt=>?_) (fun hlt=>?_)
  ·have hin:i<g.length:=by omega
   have hrm:g.getD i []∈g:=by rw [gE,List.getElem?_eq_getElem hin]; exact List.getElem_mem hin
   have hd:=fun u=>qJ u (g.getD i []) (hk _ hrm)
   have hx1:gdxN (ww g) (i+1)=if dg ((ww g).getD i [])=0 then gdxN (ww g) i else i+1:=rfl
   have hy1:gdyN (ww g) (i+1)=max (gdyN (ww g) i) (dg ((ww g).getD i [])):=rfl
   rw [nI] at hx1 hy1
   simp only [deg_dg] at hd
   have hb:=hdb i
   rw [nI] at hb
   have hby:=gdyN_le hdb i
   have hbx:=wE (ww g) i
   generalize dg (vv (g.getD i []))=D at *
   generalize gdxN (ww g) i=A at *
   generalize gdyN (ww g) i=B at *
   refine aQ qM i rfl hin fun b1=>?_
   refine aX (d:=V (g.getD i [])) qM (iZ _) fun u=>?_
   refine cH (hd u) ?_
   refine aD _ rfl (fun h0=>?_) (fun h0=>?_)
   ·refine kV ?_
    refine ar rfl qI ?_
    rw [if_neg qN] at hx1
    exact aU (i+1) qN (by simp only; omega) ⟨vZ (by rw [hx1]; omega),vZ (by rw [hy1]; omega),rfl,rfl,vZ qN,trivial⟩ (aB qS)
   ·refine ar rfl qI ?_
    rw [if_pos qN] at hx1
    exact aU (i+1) qN (by simp only; omega) ⟨vZ (by rw [hx1]),vZ (by rw [hy1]; omega),rfl,rfl,vZ qN,trivial⟩ (aB qS)
  ·have hip:i=g.length:=by omega
   subst hip
   exact fin ⟨rfl,rfl,rfl⟩ (aH _ _)
structure Gf (k:Nat) (g:List Row):Prop where
 len:g.length≤1048576
 row:∀ r,r∈g→r.length≤1048576∧Fit k r
theorem Gf.get {k:Nat} {g:List Row} (h:Gf k g) (i:Nat):(g.getD i []).length≤1048576∧Fit k (g.getD i []):=by
 by_cases hi:i<g.length
 ·exact h.row _ (by rw [gE,List.getElem?_eq_getElem hi]; exact List.getElem_mem hi)
 ·rw [cW (Nat.le_of_not_lt hi)]; exact ⟨Nat.zero_le _,fun x hx=>by cases hx⟩
theorem Gf.in64 {k:Nat} {g:List Row} (h:Gf k g) (n:Nat) (hn:n≤1048576):In64 (tg g n):=fun t ht=>by
 obtain ⟨h1,h2,_⟩:=uM ht
 have:=(h.get t.1).1
 omega
theorem Gf.fit {k:Nat} {g:List Row} (h:Gf k g) (n:Nat):∀ t,t∈tg g n→Lim t.2.2.2∧t.2.2.2.length≤k:=fun t ht=>by
 obtain ⟨_,_,h3,_⟩:=uM ht
 rw [h3]
 exact (h.get t.1).2.get _
theorem Gf.dx {k:Nat} {g:List Row} (h:Gf k g):gdx (ww g)≤1048576:=by
 have h1:=wE (ww g) (ww g).length
 have h2:=h.len
 rw [ww_len] at h1
 unfold gdx
 rw [ww_len]
 omega
theorem Gf.dy {k:Nat} {g:List Row} (h:Gf k g):gdy (ww g)≤1048576:=gdyN_le (fun i=>by
 rw [nI]
 exact Nat.le_trans (dY _) (by rw [cV]; exact (h.get i).1)) _
theorem gNorm_meets (v:Value) (g:List Row) (h:Gf 137438953472 g) :
  Meets Tryz.prog 145 [v] [(v,W g)] (fun r os fs=>os=[]∧fs=[(r,wd (gn (ww g)))]):=by
 have h1:=jQ v g (fun r hr=>(h.row r hr).2) h.len (fun r hr=>(h.row r hr).1)
 have h2:=lS v g h.row h.len
 have h3:=fun u=>pK u (tg g g.length) (gdx (ww g)) (gdy (ww g)) (h.in64 _ h.len) (tg_nd _ _) (h.fit _) h.dx h.dy
 have e:gtr (qX (tg g g.length) (gdy (ww g)) (gdx (ww g)))=gn (ww g):=by
  rw [laid_gof,← gof_gn_eq (ww g) (Nat.le_refl _) (Nat.le_refl _)]
  congr 1
  funext i j
  exact lk_tg g i j
 rw [e] at h3
 refine mV Tryz.func145 ?_
 refine cH h1 ?_
 refine cF h2 ?_
 rintro m _ _ ⟨rfl,_,rfl⟩
 refine cG (h3 m) fun r=>?_
 exact fin ⟨rfl,rfl⟩ (aB qS)
def sw (t:fG):fG:=(t.2.1,t.1,t.2.2)
theorem Nd.sw {L:List fG} (h:Nd L):Nd (L.map Go.Proofs.YtjebljkoiaojaaaGreat.sw):=List.pairwise_map.2 (h.imp fun {a b} hab e=>hab ⟨e.2,e.1⟩)
theorem Nd.perm {L L':List fG} (h:Nd L) (p:L.Perm L'):Nd L':=(p.pairwise_iff fun {a b} hab e=>hab ⟨e.1.symm,e.2.symm⟩).1 h
theorem lk_perm {L L':List fG} (h:Nd L) (p:L.Perm L') (i j:Nat):lk z0 L i j=lk z0 L' i j:=by
 rcases o7 (L:=L) (i:=i) (j:=j) with h1 | ⟨t,ht,rfl,rfl,h1⟩
 ·rcases o7 (L:=L') (i:=i) (j:=j) with h2 | ⟨t,ht,rfl,rfl,h2⟩
  ·rw [h1,h2]
  ·rw [h2]; exact i7 h (p.mem_iff.2 ht)
 ·rw [h1]; exact (i7 (h.perm p) (p.mem_iff.1 ht)).symm
theorem lk_sw {L:List fG} (h:Nd L) (i j:Nat):lk z0 (L.map sw) i j=lk z0 L j i:=by
 rcases o7 (L:=L) (i:=j) (j:=i) with h1 | ⟨t,ht,rfl,rfl,h1⟩
 ·rcases o7 (L:=L.map sw) (i:=i) (j:=j) with h2 | ⟨t,ht,rfl,rfl,h2⟩
  ·rw [h1,h2]
  ·obtain ⟨s,hs,rfl⟩:=List.mem_map.1 ht
   rw [h2]; exact (i7 h hs).symm
 ·rw [h1]; exact i7 h.sw (List.mem_map.2 ⟨t,ht,rfl⟩)
theorem erase_perm {α:Type}:∀ (l:List α) (n:Nat) (h:n<l.length),l.Perm (l[n]::l.eraseIdx n)
 | _::_,0,_=>List.Perm.refl _
 | a::l,n+1,h=>((erase_perm l n (by simpa using h)).cons a).trans (List.Perm.swap _ _ _)
theorem vD {L D T:List fG} {n:Nat} {t:fG} (hg:L[n]? = some t) (hp:(L++D).Perm T):(L.eraseIdx n++(D++[t])).Perm T:=by
 obtain ⟨hn,rfl⟩:=List.getElem?_eq_some_iff.1 hg
 have h1:L.Perm (L[n]::L.eraseIdx n):=erase_perm L n hn
 refine List.Perm.trans ?_ hp
 rw [← List.append_assoc]
 refine List.perm_append_comm.trans ?_
 exact (h1.append_right D).symm
theorem wG (v:Value) (g:List Row) (h:Gf 137438953472 g) :
  Meets Tryz.prog 76 [v] [(v,W g)] (fun r os fs=>os=[]∧fs=[(r,wd (gof (fun i j=>gv (ww g) j i) (gdy (ww g)) (gdx (ww g))))]):=by
 have h1:=jQ v g (fun r hr=>(h.row r hr).2) h.len (fun r hr=>(h.row r hr).1)
 have h2:=lS v g h.row h.len
 have hnd:=tg_nd g g.length
 have hin:=h.in64 _ h.len
 have hft:=h.fit g.length
 have hlk:=lk_tg g
 have hlen:(tg g g.length).length≤1048576*1048576:=Nat.le_trans (tg_len (fun r hr=>(h.row r hr).1) _) (Nat.mul_le_mul_right _ h.len)
 have hdx:=h.dx
 have hdy:=h.dy
 generalize tg g g.length=T at *
 refine mV Tryz.func76 ?_
 refine make_L J z0 fun m hm=>?_
 refine cF h2 ?_
 rintro tm _ _ ⟨rfl,_,rfl⟩
 refine range_L qM fun p hp=>?_
 refine aO (X:=List fG×List fG×Value) (fun x=>([(0,v),(3,m),(11,p)],[ownWD J z0 p x.1 x.2.2,mC J z0 m (x.2.1.map sw)],[(tm,MD J z0 T),(v,W g)])) (fun x=>(x.1++x.2.1).Perm T) (fun x=>x.1.length) rfl ?_ ?_
 ·exact aU (T,[],.bool false) qP trivial qF (aB qS)
 ·rintro ⟨L,D,c⟩ hperm
  simp only at hperm ⊢
  have hndD:Nd (L++D):=hnd.perm hperm.symm
  have hlD:(L++D).length≤1048576*1048576:=by rw [hperm.length_eq]; exact hlen
  rw [List.length_append] at hlD
  have hndM:Nd (D.map sw):=(List.pairwise_append.1 hndD).2.1 |> Nd.sw
  have hinM:In64 (D.map sw):=fun t ht=>by
   obtain ⟨s,hs,rfl⟩:=List.mem_map.1 ht
   have:=hin s (hperm.mem_iff.1 (List.mem_append.2 (.inr hs)))
   exact ⟨this.2,this.1⟩
  refine next_L 0 rfl hp (fun e=>?_) fun n i j a x hn hg=>?_
  ·subst e
   rw [List.nil_append] at hperm
   have h3:=fun u=>pK u (D.map sw) (gdy (ww g)) (gdx (ww g)) hinM hndM (fun t ht=>by
    obtain ⟨s,hs,rfl⟩:=List.mem_map.1 ht
    exact hft s (hperm.mem_iff.1 hs)) hdy hdx
   have e:gtr (qX (D.map sw) (gdx (ww g)) (gdy (ww g)))=gof (fun i j=>gv (ww g) j i) (gdy (ww g)) (gdx (ww g)):=by
    rw [laid_gof]
    congr 1
    funext i j
    rw [lk_sw (hnd.perm hperm.symm),lk_perm (hnd.perm hperm.symm) hperm,hlk]
   rw [e] at h3
   refine cH h1 ?_
   refine dK (h3 m) (aA (Seals.mapL 1 rfl hm) (aW 0 _ _)) qS ?_
   rintro r _ _ ⟨rfl,rfl⟩
   exact fin ⟨rfl,rfl⟩ (aB qS)
  ·have htT:(i,j,a)∈T:=hperm.mem_iff.1 (List.mem_append.2 (.inl (List.mem_of_getElem? hg)))
   obtain ⟨hi,hj⟩:=hin _ htT
   simp only at hi hj
   have hnew:=mput_new (L:=D.map sw) (i:=j) (j:=i) (fun t ht e=>by
    obtain ⟨s,hs,rfl⟩:=List.mem_map.1 ht
    exact (List.pairwise_append.1 hndD).2.2 (i,j,a) (List.mem_of_getElem? hg) s hs ⟨e.2.symm,e.1.symm⟩) a
   refine rP 0 rfl hp ?_
   refine aM (d:=jD 0 0) fun b1 hb1=>?_
   refine aM (d:=I false []) fun b2 hb2=>?_
   refine aI (d:=jD (i:Nat) (j:Nat)) 1 rfl hb1 rfl qK ?_ ?_; exact Reads.spot _ _
   refine aI (d:=J a) 0 rfl hb2 rfl qK ?_ ?_; exact aC qM
   refine aS 1 rfl hb1 ?_
   refine aJ (u:=.int .i64 (j:Nat)) 1 rfl (aR (aK _)) ?_
   refine aS 1 rfl hb1 ?_
   refine aJ (u:=.int .i64 (i:Nat)) 1 rfl (aZ (aK _)) ?_
   refine oX ?_
   refine aF (d:=J a) 0 rfl hb2 rfl (bM _) fun y1=>?_
   refine put_L a 3 rfl hm hinM hndM hj hi (by rw [List.length_map]; unfold maxLen; omega) (bC qM) ?_
   rw [hnew]
   refine aU (L.eraseIdx n,D++[(i,j,a)],.tuple #[spot (i:Nat) (j:Nat),x]) (vD hg hperm) (by simp only [List.length_eraseIdx,if_pos hn]; omega) qF ?_
   simp only [List.map_append,List.map_cons,List.map_nil]
   exact dS (dS (aB qS))
def gpy (G:List (List Int)) (y:Int):List Int:=nrm (G.map fun r=>pev r y)
def gtu (G:List (List Int)):List (List Int):=gof (fun i j=>gv G j i) (gdy G) (gdx G)
theorem gtu_gn (G:List (List Int)):Gn (gtu G):=gof_gn _ _ _
theorem wA (G:List (List Int)) (i j:Nat):gv (gtu G) i j=gv G j i:=by
 rw [gtu,gof_gv]
 split
 ·rfl
 ·rename_i h; exact (gv_zero fun h'=>h qN).symm
def iR (L:List fG) (φ:fG→Int):Int:=(L.map φ).sum
def con (s t:fG) (i j:Nat):Int:=if s.1+t.1=i∧s.2.1+t.2.1=j then jv s.2.2*jv t.2.2 else 0
theorem esum_nil (φ:fG→Int):iR [] φ=0:=rfl
theorem esum_snoc (L:List fG) (t:fG) (φ:fG→Int):iR (L++[t]) φ=iR L φ+φ t:=by
 simp [iR]
theorem esum_perm {L L':List fG} (p:L.Perm L') (φ:fG→Int):iR L φ=iR L' φ:=by
 have hc:∀ (t:fG) (L:List fG),iR (t::L) φ=φ t+iR L φ:=fun t L=>by simp [iR]
 induction p with
 | nil=>rfl
 | cons t _ ih=>rw [hc,hc,ih]
 | swap s t l=>rw [hc,hc,hc,hc]; omega
 | trans _ _ a b=>exact a.trans b
theorem sC {L:List fG} {φ:fG→Int} {B:Nat} (h:∀ t,t∈L→(φ t).natAbs≤B):(iR L φ).natAbs≤L.length*B:=by
 induction L with
 | nil=>simp [iR]
 | cons t L ih =>
  have h1:=ih fun s hs=>h s (.tail _ hs)
  have h2:=h t (.head _)
  have e:iR (t::L) φ=φ t+iR L φ:=by simp [iR]
  rw [e,List.length_cons,Nat.succ_mul]
  omega
def Cn (M:List fG):Prop:=∀ t,t∈M→t.2.2=cn (jv t.2.2)
theorem z0_cn:z0=cn 0:=by show (false,[])=(decide ((0:Int)<0),bT 0); rw [bR]; rfl
theorem jv_z0:jv z0=0:=by rw [z0_cn,eR]
theorem lk_cn {M:List fG} (h:Cn M) (i j:Nat):lk z0 M i j=cn (jv (lk z0 M i j)):=by
 rcases o7 (L:=M) (i:=i) (j:=j) with h1 | ⟨t,ht,_,_,h1⟩
 ·rw [h1,jv_z0]; exact z0_cn
 ·rw [h1]; exact h t ht
theorem lk_append (L:List fG) (t:fG) (i j:Nat):lk z0 (L++[t]) i j=if (∀ s,s∈L→¬ (s.1=i∧s.2.1=j))∧t.1=i∧t.2.1=j then t.2.2 else lk z0 L i j:=by
 unfold lk
 rw [List.find?_append]
 cases hf:L.find? fun t=>t.1==i&&t.2.1==j with
 | some s =>
  have h1:=List.find?_some hf
  simp only [Bool.and_eq_true,beq_iff_eq] at h1
  rw [if_neg fun h=>h.1 s (List.mem_of_find?_eq_some hf) h1]
  rfl
 | none =>
  have h1:∀ s,s∈L→¬ (s.1=i∧s.2.1=j):=fun s hs e=>by
   have:=List.find?_eq_none.1 hf s hs
   simp [e.1,e.2] at this
  by_cases ht:t.1=i∧t.2.1=j
  ·rw [if_pos ⟨h1,ht⟩]; simp [ht.1,ht.2]
  ·rw [if_neg fun h=>ht h.2]
   have:(t.1==i&&t.2.1==j)=false:=by
    cases hb:(t.1==i&&t.2.1==j)
    ·rfl
    ·simp only [Bool.and_eq_true,beq_iff_eq] at hb; exact absurd hb ht
   simp [List.find?,this]
theorem mput_mem {M:List fG} {i j:Nat} {a:Bool×List Nat} {t:fG} (h:t∈mput M i j a):t∈M∨t=(i,j,a):=by
 unfold mput at h
 split at h
 ·exact List.mem_or_eq_of_mem_set h
 ·rcases List.mem_append.1 h with h | h
  ·exact .inl h
  ·exact .inr (List.mem_singleton.1 h)
theorem mput_len (M:List fG) (i j:Nat) (a:Bool×List Nat):(mput M i j a).length≤M.length+1:=by
 unfold mput
 split
 ·rw [List.length_set]; omega
 ·simp
theorem mput_nd {M:List fG} {i j:Nat} {a:Bool×List Nat} (h:Nd M):Nd (mput M i j a):=by
 unfold mput
 split
 ·rename_i n hf
  obtain ⟨hn,h1,_⟩:=List.findIdx?_eq_some_iff_getElem.1 hf
  simp only [Bool.and_eq_true,beq_iff_eq] at h1
  refine List.pairwise_iff_getElem.2 fun x y hx hy hxy=>?_
  rw [List.length_set] at hx hy
  have:=List.pairwise_iff_getElem.1 h x y hx hy hxy
  rw [List.getElem_set,List.getElem_set]
  by_cases e1:n=x
  ·subst e1
   rw [if_pos rfl,if_neg qN]
   rw [h1.1,h1.2] at this
   exact this
  ·rw [if_neg e1]
   by_cases e2:n=y
   ·subst e2
    rw [if_pos rfl]
    rw [h1.1,h1.2] at this
    exact this
   ·rw [if_neg e2]; exact this
 ·rename_i hf
  refine List.pairwise_append.2 ⟨h,List.pairwise_singleton _ _,fun s hs t ht e=>?_⟩
  simp only [List.mem_singleton] at ht
  subst ht
  have:=List.findIdx?_eq_none_iff.1 hf s hs
  simp [e.1,e.2] at this
theorem mput_lk {M:List fG} {i j:Nat} {a:Bool×List Nat} (h:Nd M) (i' j':Nat):lk z0 (mput M i j a) i' j'=if i'=i∧j'=j then a else lk z0 M i' j':=by
 have hin:(i,j,a)∈mput M i j a:=by
  unfold mput
  split
  ·rename_i n hf
   obtain ⟨hn,_⟩:=List.findIdx?_eq_some_iff_getElem.1 hf
   exact List.mem_iff_getElem.2 ⟨n,by rw [List.length_set]; exact hn,by simp⟩
  ·exact List.mem_append.2 (.inr (List.mem_singleton.2 rfl))
 by_cases e:i'=i∧j'=j
 ·rw [if_pos e,e.1,e.2]; exact i7 (mput_nd h) hin
 ·rw [if_neg e]
  rcases o7 (L:=mput M i j a) (i:=i') (j:=j') with h1 | ⟨t,ht,e1,e2,h1⟩
  ·rcases o7 (L:=M) (i:=i') (j:=j') with h2 | ⟨t,ht,e1,e2,h2⟩
   ·rw [h1,h2]
   ·have hm:t∈mput M i j a:=by
     unfold mput
     split
     ·rename_i n hf
      obtain ⟨hn,h3,_⟩:=List.findIdx?_eq_some_iff_getElem.1 hf
      simp only [Bool.and_eq_true,beq_iff_eq] at h3
      obtain ⟨m,hm,rfl⟩:=List.mem_iff_getElem.1 ht
      have hne:n≠m:=fun q=>by subst q; exact e ⟨e1.symm.trans h3.1,e2.symm.trans h3.2⟩
      exact List.mem_iff_getElem.2 ⟨m,by rw [List.length_set]; exact hm,by rw [List.getElem_set,if_neg hne]⟩
     ·exact List.mem_append.2 (.inl ht)
    subst e1 e2
    rw [h2]; exact i7 (mput_nd h) hm
  ·rcases mput_mem ht with ht | rfl
   ·subst e1 e2
    rw [h1]; exact (i7 h ht).symm
   ·exact absurd ⟨e1.symm,e2.symm⟩ e
theorem mput_cn {M:List fG} {i j:Nat} {x:Int} (h:Cn M):Cn (mput M i j (cn x)):=fun t ht=>by
 rcases mput_mem ht with ht | rfl
 ·exact h t ht
 ·rw [eR]
def nB (A B:List fG) (i j:Nat):Int:=iR A fun s=>iR B fun t=>con s t i j
def uP (s:fG) (B:List fG) (i j:Nat):Int:=iR B fun t=>con s t i j
theorem con_sz {s t:fG} {k l:Nat} (hs:sz (jv s.2.2) k) (ht:sz (jv t.2.2) l) (i j:Nat):(con s t i j).natAbs≤18446744073709551616^(k+l):=by
 unfold con
 split
 ·have:=hs.mul ht
  unfold sz at this
  omega
 ·simp
theorem sum_sz {A B C:List fG} {s:fG} {k l:Nat} (hA:∀ t,t∈A→sz (jv t.2.2) k) (hs:sz (jv s.2.2) k) (hB:∀ t,t∈B→sz (jv t.2.2) l) (hC:∀ t,t∈C→sz (jv t.2.2) l)
  (lA:A.length≤1048576) (lB:B.length≤1048576) (lC:C.length≤1048576) (i j:Nat):sz (nB A B i j+uP s C i j) (k+l+1):=by
 have h1:∀ t,t∈A→(iR B fun t'=>con t t' i j).natAbs≤B.length*18446744073709551616^(k+l):=fun t ht=>sC fun t' ht'=>con_sz (hA t ht) (hB t' ht') i j
 have h2:=sC h1
 have h3:(uP s C i j).natAbs≤C.length*18446744073709551616^(k+l):=sC fun t' ht'=>con_sz hs (hC t' ht') i j
 unfold sz
 rw [Nat.pow_succ]
 have hW:0<18446744073709551616^(k+l):=Nat.pow_pos qE
 have e1:nB A B i j=iR A fun s=>iR B fun t=>con s t i j:=rfl
 rw [← e1] at h2
 generalize 18446744073709551616^(k+l)=W at *
 have h4:A.length*(B.length*W)≤1048576*(1048576*W):=Nat.mul_le_mul lA (Nat.mul_le_mul_right _ lB)
 have h5:C.length*W≤1048576*W:=Nat.mul_le_mul_right _ lC
 omega
structure Gs (k:Nat) (g:List Row):Prop where
 len:g.length≤1024
 row:∀ r,r∈g→r.length≤1024∧Fit k r
theorem Gs.gf {k:Nat} {g:List Row} (h:Gs k g) {e:Nat} (he:k≤e):Gf e g:=⟨Nat.le_trans h.len qE,fun r hr=>⟨Nat.le_trans (h.row r hr).1 qE,(h.row r hr).2.mono he⟩⟩
theorem Gs.tlen {k:Nat} {g:List Row} (h:Gs k g):(tg g g.length).length≤1048576 :=
 Nat.le_trans (tg_len (fun r hr=>(h.row r hr).1) _) (Nat.mul_le_mul_right 1024 h.len)
theorem Gs.tin {k:Nat} {g:List Row} (h:Gs k g):∀ t,t∈tg g g.length→t.1<1024∧t.2.1<1024∧Lim t.2.2.2∧t.2.2.2.length≤k:=fun t ht=>by
 obtain ⟨h1,h2,h3,_⟩:=uM ht
 have h4:=h.row (g.getD t.1 []) (by rw [gE,List.getElem?_eq_getElem h1]; exact List.getElem_mem h1)
 have h5:=h.len
 rw [h3]
 exact ⟨by omega,by omega,h4.2.get _⟩
structure Sums (M A B C:List fG) (s:fG) (q:Nat):Prop where
 nd:Nd M
 cn:Cn M
 low:∀ t,t∈M→t.1<2048∧t.2.1<2048
 val:∀ i j,jv (lk z0 M i j)=nB A B i j+uP s C i j
 few:M.length≤q
theorem Sums.step {M A B C:List fG} {s t:fG} {q:Nat} (h:Sums M A B C s q) (hs:s.1<1024∧s.2.1<1024) (ht:t.1<1024∧t.2.1<1024) :
  Sums (mput M (s.1+t.1) (s.2.1+t.2.1) (Go.Proofs.YtjebljkoiaojaaaGreat.cn (jv (lk z0 M (s.1+t.1) (s.2.1+t.2.1))+jv s.2.2*jv t.2.2))) A B (C++[t]) s (q+1):=by
 refine ⟨mput_nd h.nd,mput_cn h.cn,fun u hu=>?_,fun i j=>?_,Nat.le_trans (mput_len _ _ _ _) (Nat.succ_le_succ h.few)⟩
 ·rcases mput_mem hu with hu | rfl
  ·exact h.low u hu
  ·exact ⟨by simp only; omega,by simp only; omega⟩
 ·rw [mput_lk h.nd]
  have e1:uP s (C++[t]) i j=uP s C i j+con s t i j:=esum_snoc _ _ _
  rw [e1]
  split
  ·rename_i e
   rw [eR,h.val,← e.1,← e.2]
   unfold con
   rw [if_pos ⟨e.1.symm,e.2.symm⟩]
   omega
  ·rename_i e
   rw [h.val]
   unfold con
   rw [if_neg fun e'=>e ⟨e'.1.symm,e'.2.symm⟩]
   omega
theorem Sums.start {M A B C:List fG} {s t:fG} {q:Nat} (h:Sums M A B C s q) (hC:C.Perm B):Sums M (A++[s]) B [] t q :=
 ⟨h.nd,h.cn,h.low,fun i j=>by
  rw [h.val]
  have e1:nB (A++[s]) B i j=nB A B i j+uP s B i j:=esum_snoc _ _ _
  have e2:uP s C i j=uP s B i j:=esum_perm hC _
  rw [e1,e2]
  show _=_+iR [] _
  rw [esum_nil]
  omega,h.few⟩
theorem Sums.other {M A B:List fG} {s t:fG} {q:Nat} (h:Sums M A B [] s q):Sums M A B [] t q :=
 ⟨h.nd,h.cn,h.low,fun i j=>h.val i j,h.few⟩
def gmuE (g h:List Row):List (List Int) :=
 if gdx (ww g)=0∨gdx (ww h)=0 then [] else gof (nB (tg g g.length) (tg h h.length)) (gdx (ww g)+gdx (ww h) - 1) (gdy (ww g)+gdy (ww h) - 1)
theorem gdy_pos {G:List (List Int)} (h:gdx G≠0):gdy G≠0:=fun h0=>h (by
 have h1:∀ n,gdyN G n=0→gdxN G n=0:=fun n=>by
  induction n with
  | zero=>intro _; rfl
  | succ n ih =>
   intro hn
   simp only [gdyN] at hn
   simp only [gdxN]
   rw [if_pos qN]
   exact ih qN
 exact h1 _ h0)
theorem gMul_meets (v w:Value) (g h:List Row) (k l:Nat) (hg:Gs k g) (hh:Gs l h) (hk:k+l+1≤1073741824) :
  Meets Tryz.prog 58 [v,w] [(v,W g),(w,W h)] (fun r os fs=>os=[]∧fs=[(r,wd (gmuE g h))]):=by
 have fg:=hg.gf (e:=137438953472) qN
 have fh:=hh.gf (e:=137438953472) qN
 have hd1:=jQ v g (fun r hr=>(fg.row r hr).2) fg.len (fun r hr=>(fg.row r hr).1)
 have hd2:=jQ w h (fun r hr=>(fh.row r hr).2) fh.len (fun r hr=>(fh.row r hr).1)
 have ht1:=lS v g fg.row fg.len
 have ht2:=lS w h fh.row fh.len
 have bx1:gdx (ww g)≤1024:=Nat.le_trans (wE _ _) (by rw [ww_len]; exact hg.len)
 have bx2:gdx (ww h)≤1024:=Nat.le_trans (wE _ _) (by rw [ww_len]; exact hh.len)
 have bys:∀ {e:Nat} {g:List Row},Gs e g→gdy (ww g)≤1024:=fun {e g} hg=>gdyN_le (fun i=>by
  rw [nI]
  refine Nat.le_trans (dY _) ?_
  rw [cV]
  by_cases hi:i<g.length
  ·exact (hg.row _ (by rw [gE,List.getElem?_eq_getElem hi]; exact List.getElem_mem hi)).1
  ·rw [cW (Nat.le_of_not_lt hi)]; exact Nat.zero_le _) _
 have by1:=bys hg
 have by2:=bys hh
 have lA:=hg.tlen
 have lB:=hh.tlen
 have iA:=hg.tin
 have iB:=hh.tin
 have nA:=tg_nd g g.length
 have sA:∀ t,t∈tg g g.length→sz (jv t.2.2) k:=fun t ht=>gY (iA t ht).2.2.1 (iA t ht).2.2.2
 have sB:∀ t,t∈tg h h.length→sz (jv t.2.2) l:=fun t ht=>gY (iB t ht).2.2.1 (iB t ht).2.2.2
 have hdef:gmuE g h=if gdx (ww g)=0∨gdx (ww h)=0 then [] else gof (nB (tg g g.length) (tg h h.length)) (gdx (ww g)+gdx (ww h) - 1) (gdy (ww g)+gdy (ww h) - 1):=rfl
 rw [hdef]
 generalize tg g g.length=A at *
 generalize tg h h.length=B at *
 refine mV Tryz.func58 ?_
 have hS0:Sums [] [] B [] (0,0,z0) (([]:List fG).length*B.length):=⟨List.Pairwise.nil,fun t ht=>(nomatch ht),fun t ht=>(nomatch ht),fun i j=>jv_z0,Nat.zero_le _⟩
 refine make_L J z0 fun m hm=>?_
 refine cF ht2 ?_
 rintro tb _ _ ⟨rfl,_,rfl⟩
 refine cF ht1 ?_
 rintro ta _ _ ⟨rfl,_,rfl⟩
 refine range_L (L:=A) qM fun p hp=>?_
 refine aO (X:=List fG×List fG×List fG×Value) (fun x=>([(0,v),(1,w),(5,m),(6,tb),(21,p)],[ownWD J z0 p x.1 x.2.2.2,mC J z0 m x.2.2.1],[(ta,MD J z0 A),(tb,MD J z0 B),(v,W g),(w,W h)]))
  (fun x=>(x.1++x.2.1).Perm A∧Sums x.2.2.1 x.2.1 B [] (0,0,z0) (x.2.1.length*B.length)) (fun x=>x.1.length) rfl ?_ ?_
 ·exact aU (A,[],[],.bool false) ⟨by simp,hS0⟩ trivial qF (aB qS)
 ·rintro ⟨L,D,M,c⟩ ⟨hperm,hS⟩
  simp only at hperm hS ⊢
  have hDA:∀ t,t∈D→t∈A:=fun t ht=>hperm.mem_iff.1 (List.mem_append.2 (.inr ht))
  have hlD:L.length+D.length=A.length:=by rw [← hperm.length_eq,List.length_append]
  refine next_L 0 rfl hp (fun e=>?_) fun n i j a x hn hgn=>?_
  ·subst e
   rw [List.nil_append] at hperm
   have hV:∀ i j,jv (lk z0 M i j)=nB A B i j:=fun i j=>by
    rw [hS.val]
    have e1:nB D B i j=nB A B i j:=esum_perm hperm _
    have e2:uP (0,0,z0) [] i j=0:=rfl
    rw [e1,e2]; omega
   have hfit:∀ t,t∈M→Lim t.2.2.2∧t.2.2.2.length≤137438953472:=fun t ht=>by
    have h1:=hS.cn t ht
    have h2:=i7 hS.nd (show (t.1,t.2.1,t.2.2)∈M from ht)
    have h3:=sum_sz (s:=(0,0,z0)) (C:=[]) (fun u hu=>sA u (hDA u hu)) (by rw [jv_z0]; exact jZ _) sB (fun u hu=>by cases hu) qN lB (Nat.zero_le _) t.1 t.2.1
    rw [← hS.val,h2] at h3
    rw [h1]
    exact ⟨a0 _,Nat.le_trans h3.len qN⟩
   have hlaid:=fun u=>pK u M (gdx (ww g)+gdx (ww h) - 1) (gdy (ww g)+gdy (ww h) - 1) (fun t ht=>by have:=hS.low t ht; omega) hS.nd hfit qN qN
   have e:gtr (qX M (gdy (ww g)+gdy (ww h) - 1) (gdx (ww g)+gdx (ww h) - 1))=gof (nB A B) (gdx (ww g)+gdx (ww h) - 1) (gdy (ww g)+gdy (ww h) - 1):=by
    rw [laid_gof]
    congr 1
    funext i j
    exact hV i j
   rw [e] at hlaid
   refine cH hd1 ?_
   refine cH hd2 ?_
   by_cases z1:gdx (ww g)=0
   ·refine dI rfl qN ?_
    refine fin ⟨rfl,rfl⟩ ?_
    rw [if_pos (.inl z1)]
    exact dS (dS (a7 (dM 1 _) (aH _ _)))
   refine cX rfl qN ?_
   by_cases z2:gdx (ww h)=0
   ·refine dI rfl qN ?_
    refine fin ⟨rfl,rfl⟩ ?_
    rw [if_pos (.inr z2)]
    exact dS (dS (a7 (dM 1 _) (aH _ _)))
   refine cX rfl qN ?_
   have y1:=gdy_pos z1
   have y2:=gdy_pos z2
   refine ar (n:=((gdx (ww g)+gdx (ww h) - 1:Nat):Int) - 1) (by simp only [arZ,Option.some.injEq]; omega) qI ?_
   refine ar (n:=((gdy (ww g)+gdy (ww h) - 1:Nat):Int) - 1) (by simp only [arZ,Option.some.injEq]; omega) qI ?_
   refine dK (hlaid m) (aA (Seals.mapL 1 rfl hm) (aW 0 _ _)) qS ?_
   rintro r _ _ ⟨rfl,rfl⟩
   refine fin ⟨rfl,rfl⟩ ?_
   rw [if_neg (fun e=>e.elim z1 z2)]
   exact aB qS
  ·have hsA:(i,j,a)∈A:=hperm.mem_iff.1 (List.mem_append.2 (.inl (List.mem_of_getElem? hgn)))
   have his:=iA _ hsA
   simp only at his
   refine rP 0 rfl hp ?_
   refine aM (d:=jD 0 0) fun b7 hb7=>?_
   refine aM (d:=I false []) fun b8 hb8=>?_
   refine aI (d:=jD (i:Nat) (j:Nat)) 1 rfl hb7 rfl qK ?_ ?_; exact Reads.spot _ _
   refine aI (d:=J a) 0 rfl hb8 rfl qK ?_ ?_; exact aC qM
   refine range_L (L:=B) qM fun p2 hp2=>?_
   refine aO (X:=List fG×List fG×List fG×Value) (fun y=>([(0,v),(1,w),(5,m),(6,tb),(7,b7),(8,b8),(21,p),(28,p2)],
    [ownWD J z0 p2 y.1 y.2.2.2,bE b8 2 1 (fun _=>J a),bE b7 2 1 (fun _=>jD (i:Nat) (j:Nat)),ownWD J z0 p (L.eraseIdx n) (.tuple #[spot (i:Nat) (j:Nat),x]),mC J z0 m y.2.2.1],[(ta,MD J z0 A),(tb,MD J z0 B),(v,W g),(w,W h)]))
    (fun y=>(y.1++y.2.1).Perm B∧Sums y.2.2.1 D B y.2.1 (i,j,a) (D.length*B.length+y.2.1.length)) (fun y=>y.1.length) rfl ?_ ?_
   ·refine aU (B,[],M,.bool false) ⟨by simp,hS.other⟩ trivial qF ?_
    refine aA (Seals.own_cong (os:=[_,_,_,_,_]) 1 (fun _=>J a) rfl rfl fun y hy=>(by
     have h0:y=0:=by omega
     subst h0
     rfl)) ?_
    refine aA (Seals.own_cong (os:=[_,_,_,_,_]) 2 (fun _=>jD (i:Nat) (j:Nat)) rfl rfl fun y hy=>(by
     have h0:y=0:=by omega
     subst h0
     rfl)) ?_
    exact aB qS
   ·rintro ⟨L2,C,M2,c2⟩ ⟨hperm2,hS2⟩
    simp only at hperm2 hS2 ⊢
    have hlC:L2.length+C.length=B.length:=by rw [← hperm2.length_eq,List.length_append]
    refine next_L 0 rfl hp2 (fun e=>?_) fun n2 i2 j2 a2 x2 hn2 hgn2=>?_
    ·subst e
     rw [List.nil_append] at hperm2
     have hst:=hS2.start (t:=(0,0,z0)) hperm2
     rw [hperm2.length_eq] at hst
     refine aU (L.eraseIdx n,D++[(i,j,a)],M2,.tuple #[spot (i:Nat) (j:Nat),x]) ⟨vD hgn hperm,by
      simp only
      rw [show (D++[(i,j,a)]).length*B.length=D.length*B.length+B.length by simp [Nat.add_mul]]
      exact hst⟩ (by simp only [List.length_eraseIdx,if_pos hn]; omega) qF ?_
     exact dS (dS (dS (aB qS)))
    ·have htB:(i2,j2,a2)∈B:=hperm2.mem_iff.1 (List.mem_append.2 (.inl (List.mem_of_getElem? hgn2)))
     have hit:=iB _ htB
     simp only at hit
     have hVs:=sum_sz (s:=(i,j,a)) (C:=C) (fun u hu=>sA u (hDA u hu)) (sA _ hsA) sB (fun u hu=>sB u (hperm2.mem_iff.1 (List.mem_append.2 (.inr hu)))) qN lB qN (i+i2) (j+j2)
     rw [← hS2.val] at hVs
     have hlkc:=lk_cn hS2.cn (i+i2) (j+j2)
     have hprod:sz (jv a*jv a2) (k+l):=(sA _ hsA).mul (sB _ htB)
     have hstep:=hS2.step (t:=(i2,j2,a2)) ⟨his.1,his.2.1⟩ ⟨hit.1,hit.2.1⟩
     simp only at hstep
     have hmul:=fun u u'=>zMulJ u u' a a2 his.2.2.1 (Nat.le_trans his.2.2.2 qN) hit.2.2.1 (Nat.le_trans hit.2.2.2 qN)
     have hadd:=fun u u'=>nH u u' _ _ _ _ hVs hprod qN qN
     have hfew:=hS2.few
     have hmulle:D.length*B.length≤1048576*1048576:=Nat.mul_le_mul qN lB
     have hJ:J (lk z0 M2 (i+i2) (j+j2))=zd (jv (lk z0 M2 (i+i2) (j+j2))):=congrArg J hlkc
     refine rP 0 rfl hp2 ?_
     refine aM (d:=jD 0 0) fun b9 hb9=>?_
     refine aM (d:=I false []) fun b10 hb10=>?_
     refine aI (d:=jD (i2:Nat) (j2:Nat)) 1 rfl hb9 rfl qK ?_ ?_; exact Reads.spot _ _
     refine aI (d:=J a2) 0 rfl hb10 rfl qK ?_ ?_; exact aC qM
     refine aS 4 rfl hb7 ?_
     refine aJ (u:=.int .i64 (i:Nat)) 4 rfl (aZ (aK _)) ?_
     refine aS 1 rfl hb9 ?_
     refine aJ (u:=.int .i64 (i2:Nat)) 1 rfl (aZ (aK _)) ?_
     refine ar (n:=((i+i2:Nat):Int)) (by simp [arZ]) qI ?_
     refine aS 4 rfl hb7 ?_
     refine aJ (u:=.int .i64 (j:Nat)) 4 rfl (aR (aK _)) ?_
     refine aS 1 rfl hb9 ?_
     refine aJ (u:=.int .i64 (j2:Nat)) 1 rfl (aR (aK _)) ?_
     refine ar (n:=((j+j2:Nat):Int)) (by simp [arZ]) qI ?_
     refine oX ?_
     refine aM (d:=jD 0 0) fun b11 hb11=>?_
     refine aI (d:=jD ((i+i2:Nat):Int) ((j+j2:Nat):Int)) 0 rfl hb11 rfl qK ?_ ?_; exact Reads.spot _ _
     refine aY [0,1,2,3,4,5,6,7,8,9] [0,1,2,3,4,5,6,7,8,9] qK qK ?_
     refine vO 0 rfl hb11 rfl ?_
     refine vO 0 rfl hb11 rfl ?_
     refine get_own_L (f:=J) (z:=z0) 7 rfl hm (fun t ht=>by have:=hS2.low t ht; omega) hS2.nd qN qN fun y1=>?_
     rw [hJ]
     refine aF (d:=J a) 4 rfl hb8 rfl (bM _) fun y2=>?_
     refine aF (d:=J a2) 1 rfl hb10 rfl (bM _) fun y3=>?_
     refine cG (hmul y2 y3) fun y4=>?_
     refine cG (hadd y1 y4) fun y5=>?_
     refine put_L (f:=J) (z:=z0) (cn (jv (lk z0 M2 (i+i2) (j+j2))+jv a*jv a2)) 7 rfl hm (fun t ht=>by have:=hS2.low t ht; omega) hS2.nd qN qN (by unfold maxLen; omega) (bC qM) ?_
     refine aU (L2.eraseIdx n2,C++[(i2,j2,a2)],mput M2 (i+i2) (j+j2) (cn (jv (lk z0 M2 (i+i2) (j+j2))+jv a*jv a2)),.tuple #[spot (i2:Nat) (j2:Nat),x2]) ⟨vD hgn2 hperm2,by simp only [List.length_append,List.length_cons,List.length_nil]; exact hstep⟩ (by simp only [List.length_eraseIdx,if_pos hn2]; omega) qF ?_
     exact dS (dS (dS (aB qS)))
theorem gtr_len (H:List (List Int)):(gtr H).length≤H.length:=by
 induction H with
 | nil=>exact Nat.le_refl _
 | cons r H ih =>
  simp only [gtr]
  split
  ·split <;> simp
  ·rename_i s t hg
   rw [hg] at ih
   simpa using ih
theorem gdx_zero {G:List (List Int)}:gdx G=0↔∀ i j,gv G i j=0:=by
 constructor
 ·intro h i j
  exact gv_zero qN
 ·intro h
  have hz:∀ i,dg (G.getD i [])=0:=fun i=>Nat.le_zero.1 (jK.2 fun j _=>h i j)
  have:∀ n,gdxN G n=0:=fun n=>by
   induction n with
   | zero=>rfl
   | succ n ih=>simp only [gdxN]; rw [if_pos (hz n)]; exact ih
  exact this _
structure Lk (A:Row) (l:List Int) (k n:Nat):Prop where
 val:vv A=l
 fit:Fit k A
 len:A.length≤n
theorem Lk.told {l:List Int} {k n:Nat} (h:szR k l) (hn:l.length≤n):Lk (l.map cn) l k n:=⟨fR l,h.fit,by rw [List.length_map]; exact hn⟩
theorem Lk.sz {A:Row} {l:List Int} {k n:Nat} (h:Lk A l k n):szR k l:=by rw [← h.val]; exact h.fit.szR
theorem qB (l m:List Int):(pmul l m).length≤l.length+m.length:=by
 by_cases h1:0<dg l
 ·by_cases h2:0<dg m
  ·have:=(vB h1 h2).1
   rw [eH (pmul_nm l m)] at this
   have a1:=dY l
   have a2:=dY m
   omega
  ·have:pmul l m=[]:=(pmul_nm l m).ext Nm.nil fun x=>by rw [bN,cT.1 (show dg m=0 by omega)]; simp [pev]
   rw [this]; exact Nat.zero_le _
 ·have:pmul l m=[]:=(pmul_nm l m).ext Nm.nil fun x=>by rw [bN,cT.1 (show dg l=0 by omega)]; simp [pev]
  rw [this]; exact Nat.zero_le _
theorem szR.pmul {k j:Nat} {l m:List Int} (h:szR k l) (h':szR j m) (hl:l.length<18446744073709551616):szR (k+j+1) (pmul l m):=by
 have hn:(Go.Proofs.YtjebljkoiaojaaaGreat.nrm l).length≤l.length:=cA l
 unfold Go.Proofs.YtjebljkoiaojaaaGreat.pmul
 simp only
 split
 ·exact fun x hx=>by simp at hx
 ·exact szR.nrm (szR.lst fun i _=>conv_sz h.nrm h'.nrm qN i)
section
variable {A B:Row} {l m:List Int} {k j n n':Nat}
end
theorem ptim_len (c:Int) (l:List Int):(ptim c l).length≤l.length:=by
 have:=iV c 0 l
 rw [qA] at this; omega
theorem ptim_szR {k a:Nat} {c:Int} {l:List Int} (h:szR k l) (hc:sz c a):szR (k+a) (ptim c l):=by
 have:=h.prai hc 0
 rwa [qA] at this
abbrev Px:=Nat→Nat→List Int
def evm (A:Px) (t:Int):Mx:=fun i j=>pev (A i j) t
def rX (f:Nat→List Int):Nat→List Int
 | 0=>[]
 | n+1=>padd (rX f n) (f n)
def kR:Nat→Px→List Int
 | 0,_=>[1]
 | n+1,A=>rX (fun i=>ptim (sg i) (pmul (A i 0) (kR n fun x y=>A (sk i x) (sk 0 y)))) (n+1)
theorem ev_psumf (f:Nat→List Int) (n:Nat) (t:Int):pev (rX f n) t=cM (fun i=>pev (f i) t) n:=by
 induction n with
 | zero=>rfl
 | succ n ih=>rw [rX,gS,ih]; rfl
theorem psumf_nm (f:Nat→List Int) (n:Nat):Nm (rX f n):=by
 cases n with
 | zero=>exact Nm.nil
 | succ n=>exact padd_nm _ _
theorem psumf_len {f:Nat→List Int} {n l:Nat} (h:∀ i,i<n→(f i).length≤l):(rX f n).length≤l:=by
 induction n with
 | zero=>exact Nat.zero_le _
 | succ n ih=>exact Nat.le_trans (padd_len _ _) (Nat.max_le.2 ⟨ih fun i hi=>h i qN,h n qN⟩)
theorem psumf_sz {f:Nat→List Int} {n k:Nat} (h:∀ i,i<n→szR k (f i)):szR (k+n) (rX f n):=by
 induction n with
 | zero=>exact fun x hx=>by simp [rX] at hx
 | succ n ih=>exact (ih fun i hi=>h i qN).padd ((h n qN).mono qN)
theorem wK:∀ (n:Nat) (A:Px) (t:Int),pev (kR n A) t=det n (evm A t)
 | 0,_,t=>by simp [kR,det,pev]
 | n+1,A,t=>by
  rw [kR,ev_psumf,det]
  exact bI fun i _=>by rw [cL,bN,wK n]; rfl
theorem pG (n:Nat) (A:Px):Nm (kR n A):=by
 cases n with
 | zero=>rfl
 | succ n=>exact psumf_nm _ _
theorem pdet_len {l:Nat}:∀ {n:Nat} {A:Px},(∀ i j,(A i j).length≤l)→(kR n A).length≤n*l+1
 | 0,A,_=>by simp [kR]
 | n+1,A,h=>by
  refine psumf_len fun i _=>Nat.le_trans (ptim_len _ _) (Nat.le_trans (qB _ _) ?_)
  have h1:=h i 0
  have h2:=pdet_len (n:=n) (A:=fun x y=>A (sk i x) (sk 0 y)) fun x y=>h _ _
  rw [Nat.succ_mul]; omega
def pdk (k n:Nat):Nat:=n*(k+n+3)+1
theorem pdk_succ (k n:Nat):k+pdk k n+2+(n+1)≤pdk k (n+1):=by unfold pdk; grind
theorem pdk_mono (k:Nat) {m n:Nat} (h:m≤n):pdk k m≤pdk k n:=Nat.succ_le_succ (Nat.mul_le_mul h qN)
theorem pdet_sz {k l:Nat}:∀ {n:Nat} {A:Px},(∀ i j,szR k (A i j))→(∀ i j,(A i j).length≤l)→l<18446744073709551616→szR (pdk k n) (kR n A)
 | 0,A,_,_,_=>fun x hx=>by
  rw [List.mem_singleton.1 hx]; exact (jS 1 qE).mono (by unfold pdk; omega)
 | n+1,A,h,hl,h64=>by
  refine (psumf_sz (k:=k+pdk k n+2) fun i _=>?_).mono (pdk_succ k n)
  have h1:=pdet_sz (n:=n) (A:=fun x y=>A (sk i x) (sk 0 y)) (fun x y=>h _ _) (fun x y=>hl _ _) h64
  have h2:=(h i 0).pmul h1 (Nat.lt_of_le_of_lt (hl i 0) h64)
  exact (ptim_szR h2 (jS (sg i) (by unfold sg; split <;> decide))).mono qN
theorem pdet_eq {n:Nat} {A:Px} {l:List Int} (hl:Nm l) (h:∀ t,pev l t=det n (evm A t)):l=kR n A:=hl.ext (pG _ _) fun t=>by rw [h,wK]
def psu (A:Px) (rl cl:List Nat):Px:=fun i j=>A (rl.getD i 0) (cl.getD j 0)
theorem ev_mi (A:Px) (s:Nat) (rl cl:List Nat) (t:Int):pev (kR s (psu A rl cl)) t=det s (kF (evm A t) rl cl):=wK _ _ _
theorem psylv (A:Px) (s x y c k:Nat) (rl cl:List Nat) (hd:0<dg (kR s (psu A rl cl))) (t:Int) :
  pev (kR s (psu A rl cl)) t*pev (kR (s+2) (psu A (y::x::rl) (k::c::cl))) t =
   pev (kR (s+1) (psu A (x::rl) (c::cl))) t*pev (kR (s+1) (psu A (y::rl) (k::cl))) t - pev (kR (s+1) (psu A (y::rl) (c::cl))) t*pev (kR (s+1) (psu A (x::rl) (k::cl))) t:=by
 have h:=cancel hd (u:=pmul (kR s (psu A rl cl)) (kR (s+2) (psu A (y::x::rl) (k::c::cl))))
  (v:=psub (pmul (kR (s+1) (psu A (x::rl) (c::cl))) (kR (s+1) (psu A (y::rl) (k::cl)))) (pmul (kR (s+1) (psu A (y::rl) (c::cl))) (kR (s+1) (psu A (x::rl) (k::cl)))))
  (fun z=>by
   by_cases h0:pev (kR s (psu A rl cl)) z=0
   ·rw [h0,Int.zero_mul,Int.zero_mul]
   ·congr 1
    rw [bN,iC,bN,bN]
    simp only [ev_mi] at h0 ⊢
    exact sylv _ s x y c k rl cl h0) t
 rw [bN,iC,bN,bN] at h
 exact h
def xc (s q i:Nat):Nat:=if i=s then q else if i=q then s else i
theorem xc_xc (s q i:Nat):xc s q (xc s q i)=i:=by unfold xc; split <;> split <;> (try split) <;> omega
theorem xc_lt {s q i N:Nat} (hs:s<N) (hq:q<N) (hi:i<N):xc s q i<N:=by unfold xc; split <;> (try split) <;> omega
theorem xc_ge {s q i:Nat} (hq:s≤q) (hi:s≤i):s≤xc s q i:=by unfold xc; split <;> (try split) <;> omega
theorem xc_low {s q i:Nat} (hq:s≤q) (hi:i<s):xc s q i=i:=by unfold xc; rw [if_neg qN,if_neg qN]
theorem xc_at (s q:Nat):xc s q s=q:=if_pos rfl
structure PInv (A:Px) (N:Nat) (x:Px) (last:List Int) (odd:Bool) (s:Nat) (rl cl:List Nat) (p:Nat→Nat):Prop where
 le:s≤N
 into:∀ i,i<N→p i<N
 onto:∀ i,i<N→∃ j,j<N∧p j=i
 rows:∀ j,j<s→rl.getD j 0=p (s - 1 - j)
 cols:∀ j,j<s→cl.getD j 0=s - 1 - j
 lst:last=kR s (psu A rl cl)
 ne:0<dg last
 val:∀ i k,s≤i→i<N→s≤k→k<N→x i k=kR (s+1) (psu A (p i::rl) (k::cl))
 sign:∀ t,det N (fun i j=>evm A t (p i) j)=(if odd then -1 else 1)*det N (evm A t)
theorem PInv.start {A:Px} {N:Nat} (h:∀ i k,i<N→k<N→Nm (A i k)):PInv A N A [1] false 0 [] [] (fun i=>i) :=
 ⟨Nat.zero_le _,fun _ h=>h,fun i h=>⟨i,h,rfl⟩,fun j h=>absurd h (Nat.not_lt_zero _),fun j h=>absurd h (Nat.not_lt_zero _),rfl,by decide,
  fun i k _ hi _ hk=>pdet_eq (h i k hi hk) fun t=>by simp [det,cM,sg,psu,evm],fun t=>by simp⟩
theorem PInv.dv {A:Px} {N:Nat} {x:Px} {last:List Int} {odd:Bool} {s:Nat} {rl cl:List Nat} {p:Nat→Nat} (h:PInv A N x last odd s rl cl p) {a b k:Nat} (ha:s≤a) (haN:a<N) (hb:s≤b) (hbN:b<N) (hs:s<N) (hk:s≤k) (hkN:k<N) (t:Int) :
  pev last t*pev (kR (s+2) (psu A (p b::p a::rl) (k::s::cl))) t=pev (x a s) t*pev (x b k) t - pev (x b s) t*pev (x a k) t:=by
 rw [h.lst,h.val a s ha haN (Nat.le_refl _) hs,h.val b k hb hbN hk hkN,h.val b s hb hbN (Nat.le_refl _) hs,h.val a k ha haN hk hkN]
 exact psylv A s (p a) (p b) s k rl cl (by rw [← h.lst]; exact h.ne) t
theorem PInv.step {A:Px} {N:Nat} {x:Px} {last:List Int} {odd:Bool} {s:Nat} {rl cl:List Nat} {p:Nat→Nat} (h:PInv A N x last odd s rl cl p) {q:Nat} (hq:s≤q) (hqN:q<N) (h0:x q s≠[]) {z:Px}
  (hz:∀ i k,s+1≤i→i<N→s+1≤k→k<N→z i k=kR (s+2) (psu A (p (xc s q i)::p q::rl) (k::s::cl))) :
  PInv A N z (x q s) (if q=s then odd else !odd) (s+1) (p q::rl) (s::cl) (fun i=>p (xc s q i)):=by
 have hs:s<N:=by omega
 have hval:=h.val q s hq hqN (Nat.le_refl _) hs
 refine ⟨by omega,fun i hi=>h.into _ (xc_lt hs hqN hi),fun i hi=>?_,fun j hj=>?_,fun j hj=>?_,hval,?_,hz,fun t=>?_⟩
 ·obtain ⟨j,hj,e⟩:=h.onto i hi
  exact ⟨xc s q j,xc_lt hs hqN hj,by rw [xc_xc,e]⟩
 ·cases j with
  | zero=>rw [List.getD_cons_zero,show s+1 - 1 - 0=s by omega,xc_at]
  | succ j=>rw [List.getD_cons_succ,h.rows j qN,show s+1 - 1 - (j+1)=s - 1 - j by omega,xc_low hq qN]
 ·cases j with
  | zero=>rw [List.getD_cons_zero]; omega
  | succ j=>rw [List.getD_cons_succ,h.cols j qN]; omega
 ·have hn:Nm (x q s):=by rw [hval]; exact pG _ _
  rw [eH hn]
  exact List.length_pos_iff.2 h0
 ·have hsg:=h.sign t
  by_cases e:q=s
  ·rw [if_pos e,← hsg]
   refine bP fun i j _ _=>?_
   have:xc s q i=i:=by unfold xc; split <;> (try split) <;> omega
   rw [this]
  ·rw [if_neg e]
   have hw:=(kJ N).swap (A:=fun i j=>evm A t (p i) j) (r:=s) (s:=q) hs hqN (fun e'=>e e'.symm)
   rw [hsg] at hw
   have:det N (fun i j=>evm A t (p (xc s q i)) j) = - ((if odd=true then -1 else 1)*det N (evm A t)):=by
    rw [← hw]
    refine bP fun i j _ _=>?_
    simp only [rw',xc]
    by_cases h1:i=q
    ·simp [h1,e]
    ·by_cases h2:i=s
     ·have:¬ s=q:=fun e'=>e e'.symm
      simp [h2,this]
     ·simp [h1,h2]
   rw [this]
   cases odd <;> simp
theorem isum_beyond {f:Nat→Int} {m n:Nat} (hm:m≤n) (h:∀ i,m≤i→f i=0):cM f n=cM f m:=by
 induction hm with
 | refl=>rfl
 | step hm ih=>rw [cM,ih,h _ hm,Int.add_zero]
theorem PInv.none {A:Px} {N:Nat} {x:Px} {last:List Int} {odd:Bool} {s:Nat} {rl cl:List Nat} {p:Nat→Nat} (h:PInv A N x last odd s rl cl p) (hs:s<N) (h0:∀ i,s≤i→i<N→x i s=[]):kR N A=[]:=by
 have key:∀ t,pev last t*pev (kR N A) t=0:=fun t=>by
  by_cases hl:pev last t=0
  ·rw [hl,Int.zero_mul]
  ·rw [wK,← pB]
   refine Int.mul_eq_zero.2 (.inr ?_)
   let B:Nat→Mx:=fun a=>kF (evm A t) (a::rl) (s::cl)
   have hrow:∀ a,a<N→det (s+1) (B a)=0:=fun a ha=>by
    obtain ⟨i,hi,rfl⟩:=h.onto a ha
    by_cases his:s≤i
    ·have h1:=h.val i s his hi (Nat.le_refl _) hs
     rw [h0 i his hi] at h1
     have h2:=ev_mi A (s+1) (p i::rl) (s::cl) t
     rw [← h1] at h2
     exact h2.symm
    ·refine (kJ (s+1)).eqRows (r:=0) (s:=s - 1 - i+1) qN qN qN fun j _=>?_
     show evm A t (p i) _=evm A t ((p i::rl).getD (s - 1 - i+1) 0) _
     rw [List.getD_cons_succ,h.rows _ qN,show s - 1 - (s - 1 - i)=i by omega]
   let u:Nat→Int:=fun c=>if c≤s then sg (s - c)*det s (cut (B 0) 0 (s - c)) else 0
   refine kernel_det (i:=s) hs (u:=u) ?_ fun a ha=>?_
   ·show (if s≤s then sg (s - s)*det s (cut (B 0) 0 (s - s)) else 0)≠0
    rw [if_pos (Nat.le_refl _),Nat.sub_self,sg_zero,Int.one_mul]
    intro e
    refine hl ?_
    rw [h.lst,ev_mi,← e]
    exact bP fun i j _ _=>by simp [cut,B,kF,iG]
   ·have h1:=hrow a ha
    rw [det_row (B a) (i:=0) qN] at h1
    rw [isum_beyond (m:=s+1) qN fun i hi=>by show (if i≤s then _ else (0:Int))*_=0; rw [if_neg qN,Int.zero_mul],← isum_rev,← h1]
    refine bI fun j hj=>?_
    show (if s+1 - 1 - j≤s then sg (s - (s+1 - 1 - j))*det s (cut (B 0) 0 (s - (s+1 - 1 - j))) else 0)*evm A t a (s+1 - 1 - j)=_
    rw [if_pos qN,show s - (s+1 - 1 - j)=j by omega,Nat.zero_add]
    have e1:det s (cut (B 0) 0 j)=det s (cut (B a) 0 j):=bP fun i k _ _=>by simp [cut,B,kF,iG]
    have e2:B a 0 j=evm A t a (s+1 - 1 - j):=by
     show evm A t a ((s::cl).getD j 0)=_
     congr 1
     cases j with
     | zero=>rw [List.getD_cons_zero]; omega
     | succ j=>rw [List.getD_cons_succ,h.cols j qN]; omega
    rw [e1,e2]; grind
 rcases mul_zero' key with h1 | h1
 ·have:=h.ne; omega
 ·rw [eH (pG _ _)] at h1
  exact List.length_eq_zero_iff.1 h1
theorem PInv.done {A:Px} {N:Nat} {x:Px} {last:List Int} {odd:Bool} {rl cl:List Nat} {p:Nat→Nat} (h:PInv A N x last odd N rl cl p) (t:Int):pev (kR N A) t=if odd then - pev last t else pev last t:=by
 have e:pev last t=det N (fun i j=>evm A t (p i) j):=by
  rw [h.lst,ev_mi,← det_rev N (fun i j=>evm A t (p i) j)]
  refine bP fun i j hi hj=>?_
  simp only [kF,rev]
  rw [h.rows i hi,h.cols j hj]
 rw [e,h.sign t,wK]
 cases odd <;> simp
theorem info_pp:(Tryz.prog.info? 109).map (fun i=>(i.zero,i.size,i.bytes))=some (some (.slice none 0 0),1,24):=by kernel_rfl
theorem info_p:(Tryz.prog.info? 23).map (fun i=>(i.zero,i.size,i.bytes))=some (some (.slice none 0 0),1,24):=by kernel_rfl
instance iCGk1:TSl Tryz.prog 107 109 1:=⟨Tryz.underlying107,by kernel_rfl⟩
instance iCGk2:mJ Tryz.prog 109:=⟨⟨_,Tryz.underlying109,trivial⟩,by kernel_rfl⟩
instance iCGk3:TEl Tryz.prog 109 1 24:=tel info_pp rfl qE
theorem tz_pp:m4 Tryz.prog 109 (.one (.slice none 0 0)):=uL info_pp fun _ _=>⟨rfl,rfl⟩
theorem tz_p:m4 Tryz.prog 23 (vd []):=uL info_p fun S w=>gM S w 2 _
def famP (vs:Nat→Value) (R C:Nat) (x:Px):Own:=⟨R,vs,1,fun _=>C,fun i k=>vd (x i k)⟩
theorem gR {vs:Nat→Value} {R C:Nat} {x:Px} {os:List Own} {fs:List bD} {K:bZ} (pos i j:Nat) (h:a8 os pos=some (famP vs R C x)) (hi:i<R) (hj:j<C) (a:List Int) (ha:x i j=a)
  (k:∀ u,K u os ((u,vd a)::fs)):kE Tryz.prog 23 (k6 (vs i) (j*1)) os fs K:=by
 subst ha
 exact oT (o:=famP vs R C x) pos i h hi j 0 rfl hj (aK _) (kX _) k
theorem e8 {kk:IntKind} {z:Int} {vs:Nat→Value} {R C:Nat} {x:Px} {os:List Own} {fs:List bD} {K:bZ} (pos i:Nat) (h:a8 os pos=some (famP vs R C x)) (hi:i<R) (hs:isSl (vs i)) (j:Nat) (hz:z=(j:Int)) (hj:j<C)
  (k:K (k6 (vs i) (j*1)) os fs):eM Tryz.prog 109 (vs i) (.int kk z) os fs K :=
 oC (o:=famP vs R C x) pos i h hi (fun r=>by obtain ⟨a,n,c,e⟩:=hs; show vs i≠_; rw [e]; simp) j hz hj k
def tS (F:List (List Int)) (d a:Nat) (y:Nat):List Int:=if a≤y∧y<a+(d+1) then F.getD (d - (y - a)) [] else []
def syX (A B:List (List Int)) (m n:Nat):Px:=fun i y=>if i<n then tS A m i y else tS B n (i - n) y
def l9 (F:List (List Int)) (d a k:Nat) (y:Nat):List Int:=if a≤y∧y<a+k then F.getD (d - (y - a)) [] else []
theorem syPart_s (F:List (List Int)) {d a k:Nat} (y:Nat):upd (fun y=>vd (l9 F d a k y)) (a+k) (vd (F.getD (d - k) [])) y=vd (l9 F d a (k+1) y):=by
 unfold upd l9
 by_cases h:y=a+k
 ·subst h
  rw [if_pos rfl,if_pos qN,show a+k - a=k by omega]
 ·rw [if_neg h]
  show vd (if a≤y∧y<a+k then F.getD (d - (y - a)) [] else [])=_
  by_cases h2:a≤y∧y<a+k
  ·rw [if_pos h2,if_pos qN]
  ·rw [if_neg h2,if_neg qN]
theorem tV (va vb:Value) (A B:List (List Int)) (m n:Nat) (hA:A.length=m+1) (hB:B.length=n+1) (hm:m≤1048576) (hn:n≤1048576) :
  Meets Tryz.prog 77 [va,vb,.int .i64 (m:Nat),.int .i64 (n:Nat)] [(va,wd A),(vb,wd B)] (fun r os fs=>isSl r∧∃ vs,(∀ i,i<m+n→isSl (vs i))∧os=[famP vs (m+n) (m+n) (syX A B m n),gJ r (m+n) vs]∧fs=[]):=by
 refine mV Tryz.func77 ?_
 refine ar (n:=((m+n:Nat):Int)) (by simp [arZ]) qI ?_
 have tz:=tz_pp
 have tzp:=tz_p
 refine eF (t:=107) (d:=.one (.slice none 0 0)) (m+n) rfl rfl qN qN fun v hv=>?_
 refine cS 0 rfl hv fun _=>?_
 refine aO (X:=Nat×(Nat→Value)) (fun x=>([(0,va),(1,vb),(2,.int .i64 (m:Nat)),(3,.int .i64 (n:Nat)),(9,v),(20,.int .i64 ((m+n:Nat):Int)),(21,.int .i64 (x.1:Nat))],[famP x.2 x.1 (m+n) (syX A B m n),gJ v (m+n) x.2],[(va,wd A),(vb,wd B)]))
  (fun x=>x.1≤m+n∧∀ i,i<x.1→isSl (x.2 i)) (fun x=>m+n - x.1) rfl ?_ ?_
 ·exact aU (0,fun _=>.slice none 0 0) ⟨Nat.zero_le _,fun i hi=>absurd hi (Nat.not_lt_zero _)⟩ trivial qF (Seals.none _ rfl)
 ·rintro ⟨i,vs⟩ ⟨h1,h2⟩
  simp only at h1 h2 ⊢
  refine aD _ rfl (fun hi=>?_) (fun hi=>?_)
  ·have hilt:i<m+n:=by omega
   refine ar (n:=((m+n:Nat):Int)) (by simp [arZ]) qI ?_
   refine eF (t:=109) (d:=vd []) (m+n) rfl rfl qN qN fun u hu=>?_
   refine aE 2 rfl hv i rfl hilt ?_
   refine cI (bL (d:=.one u) 2 rfl i hilt rfl qK (bW hu.one) ⟨_,_,Seals.own_cong (os:=[_,_,_]) 2 (fun y=>.one (if y=i then u else vs y)) rfl rfl (fun y _=>by simp only [upd]; split <;> rfl),?_⟩)
   by_cases hin:i<n
   ·refine cX rfl qN ?_
    have hrow:∀ y,syX A B m n i y=l9 A m i (m+1) y:=fun y=>by unfold syX; rw [if_pos hin]; rfl
    refine ar (n:=((m+1:Nat):Int)) (by simp [arZ]) qI ?_
    refine aO (X:=Nat) (fun k=>([(0,va),(1,vb),(2,.int .i64 (m:Nat)),(3,.int .i64 (n:Nat)),(9,v),(10,.int .i64 (i:Nat)),(11,va),(12,.int .i64 (m:Nat)),(13,.int .i64 ((i:Nat):Int)),(20,.int .i64 ((m+n:Nat):Int)),(21,.int .i64 (i:Nat)),(43,.int .i64 ((m+1:Nat):Int)),(44,.int .i64 (k:Nat))],
     [bE u 1 (m+n) (fun y=>vd (l9 A m (i) k y)),famP vs i (m+n) (syX A B m n),gJ v (m+n) fun y=>if y=i then u else vs y],[(va,wd A),(vb,wd B)])) (fun k=>k≤m+1) (fun k=>m+1 - k) rfl ?_ ?_
    ·exact aU 0 (Nat.zero_le _) trivial qF (aA (Seals.own_cong (os:=[_,_,_]) 0 (fun y=>vd (l9 A m (i) 0 y)) rfl rfl fun y _=>by unfold l9; rw [if_neg qN]) (aB qS))
    ·rintro k hk
     refine aD _ rfl (fun hc=>?_) (fun hc=>?_)
     ·refine aY [0,1,2,3,4,5,6,7,8,9,10,11,12,13,14] [0,1,2,3,4,5,6,7,8,9,10,11,12,13,14] qK qK ?_
      refine aE 2 rfl hv i rfl hilt ?_
      refine aG 2 rfl i hilt (u:=u) qP ?_
      refine ar (n:=((i+k:Nat):Int)) (by simp only [arZ,Option.some.injEq]; omega) qI ?_
      refine ar (n:=((m - k:Nat):Int)) (by simp only [arZ,Option.some.injEq]; omega) qI ?_
      refine uA qM (m - k) rfl qN fun b1=>?_
      refine aX (d:=vd ((A).getD (m - k) [])) qM (iZ _) fun y1=>?_
      refine aE 0 rfl hu (i+k) rfl qN ?_
      refine cI (bL (d:=vd ((A).getD (m - k) [])) 0 rfl (i+k) qN rfl qK (aC qM) ⟨_,_,Seals.own_cong (os:=[_,_,_]) 0 (fun y=>vd (l9 A m (i) (k+1) y)) rfl rfl (fun y _=>syPart_s A y),?_⟩)
      refine ar rfl qI ?_
      exact aU (k+1) qN (by simp only; omega) qF (aB qS)
     ·have hkd:k=m+1:=by omega
      subst hkd
      refine ar rfl qI ?_
      refine aU (i+1,fun y=>if y=i then u else vs y) ⟨by simp only; omega,fun y hy=>?_⟩ (by simp only; omega) qF ?_
      ·simp only at hy ⊢
       by_cases e:y=i
       ·rw [if_pos e]; exact hu
       ·rw [if_neg e]; exact h2 y qN
      ·refine aA (Seals.join (F':=famP (fun y=>if y=i then u else vs y) (i+1) (m+n) (syX A B m n)) rfl rfl rfl (fun y hy=>⟨?_,rfl,fun _ _=>rfl⟩) ⟨?_,rfl,fun y hy=>?_⟩) (aB qS)
       ·have hy':y<i:=hy
        show (if y=i then u else vs y)=vs y
        rw [if_neg qN]
       ·show (if i=i then u else vs i)=u
        rw [if_pos rfl]
       ·exact congrArg vd (hrow y)
   ·refine dI rfl qN ?_
    refine ar (n:=((i - n:Nat):Int)) (by simp only [arZ,Option.some.injEq]; omega) qI ?_
    have hrow:∀ y,syX A B m n i y=l9 B n (i - n) (n+1) y:=fun y=>by unfold syX; rw [if_neg hin]; rfl
    refine ar (n:=((n+1:Nat):Int)) (by simp [arZ]) qI ?_
    refine aO (X:=Nat) (fun k=>([(0,va),(1,vb),(2,.int .i64 (m:Nat)),(3,.int .i64 (n:Nat)),(9,v),(10,.int .i64 (i:Nat)),(11,vb),(12,.int .i64 (n:Nat)),(13,.int .i64 (((i - n):Nat):Int)),(20,.int .i64 ((m+n:Nat):Int)),(21,.int .i64 (i:Nat)),(43,.int .i64 ((n+1:Nat):Int)),(44,.int .i64 (k:Nat))],
     [bE u 1 (m+n) (fun y=>vd (l9 B n ((i - n)) k y)),famP vs i (m+n) (syX A B m n),gJ v (m+n) fun y=>if y=i then u else vs y],[(va,wd A),(vb,wd B)])) (fun k=>k≤n+1) (fun k=>n+1 - k) rfl ?_ ?_
    ·exact aU 0 (Nat.zero_le _) trivial qF (aA (Seals.own_cong (os:=[_,_,_]) 0 (fun y=>vd (l9 B n ((i - n)) 0 y)) rfl rfl fun y _=>by unfold l9; rw [if_neg qN]) (aB qS))
    ·rintro k hk
     refine aD _ rfl (fun hc=>?_) (fun hc=>?_)
     ·refine aY [0,1,2,3,4,5,6,7,8,9,10,11,12,13,14] [0,1,2,3,4,5,6,7,8,9,10,11,12,13,14] qK qK ?_
      refine aE 2 rfl hv i rfl hilt ?_
      refine aG 2 rfl i hilt (u:=u) qP ?_
      refine ar (n:=(((i - n)+k:Nat):Int)) (by simp only [arZ,Option.some.injEq]; omega) qI ?_
      refine ar (n:=((n - k:Nat):Int)) (by simp only [arZ,Option.some.injEq]; omega) qI ?_
      refine uA qM (n - k) rfl qN fun b1=>?_
      refine aX (d:=vd ((B).getD (n - k) [])) qM (iZ _) fun y1=>?_
      refine aE 0 rfl hu ((i - n)+k) rfl qN ?_
      refine cI (bL (d:=vd ((B).getD (n - k) [])) 0 rfl ((i - n)+k) qN rfl qK (aC qM) ⟨_,_,Seals.own_cong (os:=[_,_,_]) 0 (fun y=>vd (l9 B n ((i - n)) (k+1) y)) rfl rfl (fun y _=>syPart_s B y),?_⟩)
      refine ar rfl qI ?_
      exact aU (k+1) qN (by simp only; omega) qF (aB qS)
     ·have hkd:k=n+1:=by omega
      subst hkd
      refine ar rfl qI ?_
      refine aU (i+1,fun y=>if y=i then u else vs y) ⟨by simp only; omega,fun y hy=>?_⟩ (by simp only; omega) qF ?_
      ·simp only at hy ⊢
       by_cases e:y=i
       ·rw [if_pos e]; exact hu
       ·rw [if_neg e]; exact h2 y qN
      ·refine aA (Seals.join (F':=famP (fun y=>if y=i then u else vs y) (i+1) (m+n) (syX A B m n)) rfl rfl rfl (fun y hy=>⟨?_,rfl,fun _ _=>rfl⟩) ⟨?_,rfl,fun y hy=>?_⟩) (aB qS)
       ·have hy':y<i:=hy
        show (if y=i then u else vs y)=vs y
        rw [if_neg qN]
       ·show (if i=i then u else vs i)=u
        rw [if_pos rfl]
       ·exact congrArg vd (hrow y)
  ·have hiR:i=m+n:=by omega
   subst hiR
   exact fin ⟨hv,vs,h2,rfl,rfl⟩ (aB (fun F hF=>nomatch hF))
def gev (G:List (List Int)) (x y:Int):Int:=pev (gpy G y) x
theorem wB (G:List (List Int)) (y:Int) (i:Nat):(gpy G y).getD i 0=pev (G.getD i []) y:=by
 unfold gpy
 rw [gT]
 by_cases h:i<G.length
 ·simp [gE,h]
 ·rw [cW (l:=G.map fun r=>pev r y) (by rw [List.length_map]; omega),cW (l:=G) qN]; rfl
theorem Gn.ev_ext {G H:List (List Int)} (hG:Gn G) (hH:Gn H) (h:∀ x y,gev G x y=gev H x y):G=H :=
 hG.ext hH fun i j=>by
  have h1:∀ y,pev (G.getD i []) y=pev (H.getD i []) y:=fun y=>by
   rw [← wB,← wB]
   exact mH (fun x=>h x y) i
  exact mH h1 j
theorem gev_co {G H:List (List Int)} (h:∀ i j,gv G i j=gv H i j) (x y:Int):gev G x y=gev H x y:=by
 unfold gev
 refine same (fun i=>?_) x
 rw [wB,wB]
 exact same (fun j=>h i j) y
where
 same {l m:List Int} (h:∀ i,l.getD i 0=m.getD i 0) (x:Int):pev l x=pev m x:=by
  rw [← dL l,← dL m,kT h]
theorem ev_xsum (n:Nat) (f:Nat→Int) (x:Int):pev (lst n f) x=cM (fun i=>x^i*f i) n:=by
 induction n with
 | zero=>rfl
 | succ n ih =>
  have h:pev (lst (n+1) f) x=pev (lst n f) x+x^n*f n:=by
   have e:lst (n+1) f=lst n f++[f n]:=by simp [lst,List.range_succ]
   have ea:∀ (l m:List Int),pev (l++m) x=pev l x+x^l.length*pev m x:=fun l m=>by
    induction l with
    | nil=>simp [pev]
    | cons c l ih=>simp only [List.cons_append,pev,List.length_cons,Int.pow_succ,ih]; grind
   rw [e,ea,eC]
   simp [pev]
  rw [h,ih]
  rfl
theorem gev_sum {G:List (List Int)} {n:Nat} (h1:G.length≤n) (h2:∀ i,(G.getD i []).length≤n) (x y:Int) :
  gev G x y=cM (fun i=>x^i*cM (fun j=>y^j*gv G i j) n) n:=by
 have e1:gev G x y=pev (lst n fun i=>pev (G.getD i []) y) x:=by
  unfold gev
  refine gev_co.same (fun i=>?_) x
  rw [wB]
  by_cases hi:i<n
  ·rw [nW hi]
  ·rw [cW (l:=lst n _) (by rw [eC]; omega),cW (l:=G) qN]; rfl
 rw [e1,ev_xsum]
 congr 1
 funext i
 rw [← wL (h2 i) y,ev_xsum]
 rfl
theorem r9 (G:List (List Int)):∃ n,G.length≤n∧∀ i,(G.getD i []).length≤n:=by
 induction G with
 | nil=>exact ⟨0,Nat.le_refl _,fun i=>by simp⟩
 | cons r G ih =>
  obtain ⟨n,h1,h2⟩:=ih
  refine ⟨max (n+1) r.length,by simp only [List.length_cons]; omega,fun i=>?_⟩
  cases i with
  | zero=>simp only [List.getD_cons_zero]; omega
  | succ i=>have:=h2 i; simp only [List.getD_cons_succ]; omega
theorem isum_xmul (c:Int) (f:Nat→Int) (n:Nat):c*cM f n=cM (fun i=>c*f i) n:=by
 induction n with
 | zero=>simp [cM]
 | succ n ih=>simp only [cM,Int.mul_add,ih]
theorem gev_gtu (G:List (List Int)) (x y:Int):gev (gtu G) x y=gev G y x:=by
 obtain ⟨n1,a1,a2⟩:=r9 G
 obtain ⟨n2,b1,b2⟩:=r9 (gtu G)
 have hn:=fun i=>Nat.le_trans (a2 i) (Nat.le_max_left n1 n2)
 have hm:=fun i=>Nat.le_trans (b2 i) (Nat.le_max_right n1 n2)
 rw [gev_sum (n:=max n1 n2) qN hm,gev_sum (n:=max n1 n2) qN hn]
 simp only [isum_xmul,wA]
 rw [kY]
 congr 1
 funext i
 congr 1
 funext j
 rw [← Int.mul_assoc,← Int.mul_assoc,Int.mul_comm (x^j)]
def etm (x y:Int) (t:fG):Int:=x^t.1*(y^t.2.1*jv t.2.2)
theorem esum_app (L M:List fG) (φ:fG→Int):iR (L++M) φ=iR L φ+iR M φ:=by simp [iR]
theorem esum_tr (i:Nat) (r:Row) (n:Nat) (x y:Int):iR (tr i r n) (etm x y)=x^i*cM (fun j=>y^j*jv (r.getD j z0)) n:=by
 induction n with
 | zero=>simp [tr,iR,cM]
 | succ n ih =>
  simp only [tr,esum_app,cM,Int.mul_add,ih]
  split
  ·rename_i h; rw [h,esum_nil,Int.mul_zero,Int.mul_zero]
  ·simp [iR,etm]
theorem esum_tg (g:List Row) (n:Nat) (x y:Int):iR (tg g n) (etm x y)=cM (fun i=>x^i*pev (vv (g.getD i [])) y) n:=by
 induction n with
 | zero=>rfl
 | succ n ih =>
  simp only [tg,esum_app,cM,ih,esum_tr]
  congr 2
  rw [← wL (l:=vv (g.getD n [])) (Nat.le_refl _) y,ev_xsum,cV]
  refine isum_same fun j hj=>?_
  rw [lO _ _ hj]
where
 isum_same {f h:Nat→Int}:∀ {n:Nat},(∀ j,j<n→f j=h j)→cM f n=cM h n
  | 0,_=>rfl
  | n+1,e=>by simp only [cM]; rw [isum_same fun j hj=>e j qN,e n qN]
theorem gev_tg (g:List Row) (x y:Int):gev (ww g) x y=iR (tg g g.length) (etm x y):=by
 rw [esum_tg]
 unfold gev
 have:pev (gpy (ww g) y) x=pev (lst g.length fun i=>pev (vv (g.getD i [])) y) x:=gev_co.same (fun i=>by
  rw [wB,nI]
  by_cases hi:i<g.length
  ·rw [nW hi]
  ·rw [cW (l:=lst g.length _) (by rw [eC]; omega),cW (l:=g) qN]; rfl) x
 rw [this,ev_xsum]
theorem r6 (n:Nat):cM (fun _=>0) n=0:=by
 induction n with
 | zero=>rfl
 | succ n ih=>simp only [cM,ih]; rfl
theorem isum_add' (f h:Nat→Int) (n:Nat):cM (fun i=>f i+h i) n=cM f n+cM h n:=by
 induction n with
 | zero=>rfl
 | succ n ih=>simp only [cM,ih]; omega
theorem isum_onep {n a:Nat} (ha:a<n) (f:Nat→Int) (hf:∀ i,i≠a→f i=0):cM f n=f a:=by
 induction n with
 | zero=>omega
 | succ n ih =>
  simp only [cM]
  by_cases e:a=n
  ·subst e
   rw [esum_tg.isum_same (h:=fun _=>0) fun i hi=>hf i qN,r6,Int.zero_add]
  ·rw [ih qN,hf n (fun h=>e h.symm),Int.add_zero]
def fev (F:Nat→Nat→Int) (n:Nat) (x y:Int):Int:=cM (fun i=>x^i*cM (fun j=>y^j*F i j) n) n
theorem fev_add (F H:Nat→Nat→Int) (n:Nat) (x y:Int):fev (fun i j=>F i j+H i j) n x y=fev F n x y+fev H n x y:=by
 unfold fev
 rw [← isum_add']
 congr 1
 funext i
 rw [← Int.mul_add,← isum_add']
 congr 2
 funext j
 rw [Int.mul_add]
theorem fev_zero (n:Nat) (x y:Int):fev (fun _ _=>0) n x y=0:=by
 unfold fev
 simp only [Int.mul_zero,r6]
theorem fev_esum (L:List fG) (f:fG→Nat→Nat→Int) (n:Nat) (x y:Int):fev (fun i j=>iR L fun t=>f t i j) n x y=iR L fun t=>fev (f t) n x y:=by
 induction L with
 | nil=>exact fev_zero n x y
 | cons t L ih =>
  have e:∀ φ:fG→Int,iR (t::L) φ=φ t+iR L φ:=fun φ=>by simp [iR]
  simp only [e]
  rw [fev_add,ih]
theorem fev_con {s t:fG} {n:Nat} (h1:s.1+t.1<n) (h2:s.2.1+t.2.1<n) (x y:Int):fev (con s t) n x y=etm x y s*etm x y t:=by
 unfold fev
 rw [isum_onep h1 _ fun i hi=>by
  have:(fun j=>y^j*con s t i j)=fun _=>0:=by
   funext j
   unfold con
   rw [if_neg fun e=>hi e.1.symm,Int.mul_zero]
  rw [this,r6,Int.mul_zero]]
 rw [isum_onep h2 _ fun j hj=>by
  unfold con
  rw [if_neg fun e=>hj e.2.symm,Int.mul_zero]]
 unfold con etm
 rw [if_pos ⟨rfl,rfl⟩,Int.pow_add,Int.pow_add]
 grind
theorem esum_mulr (L:List fG) (φ:fG→Int) (c:Int):iR L (fun t=>φ t*c)=iR L φ*c:=by
 induction L with
 | nil=>simp [iR]
 | cons t L ih =>
  have e:∀ φ:fG→Int,iR (t::L) φ=φ t+iR L φ:=fun φ=>by simp [iR]
  rw [e,e,ih,Int.add_mul]
theorem esum_mull (L:List fG) (φ:fG→Int) (c:Int):iR L (fun t=>c*φ t)=c*iR L φ:=by
 rw [Int.mul_comm c,← esum_mulr]
 congr 1
 funext t
 rw [Int.mul_comm]
theorem q8 {L:List fG} {φ ψ:fG→Int} (h:∀ t,t∈L→φ t=ψ t):iR L φ=iR L ψ:=by
 unfold iR
 rw [List.map_congr_left h]
theorem fev_pairs {A B:List fG} {n:Nat} (h:∀ s t,s∈A→t∈B→s.1+t.1<n∧s.2.1+t.2.1<n) (x y:Int):fev (nB A B) n x y=iR A (etm x y)*iR B (etm x y):=by
 have e:fev (nB A B) n x y=iR A fun s=>fev (fun i j=>iR B fun t=>con s t i j) n x y:=fev_esum A (fun s i j=>iR B fun t=>con s t i j) n x y
 rw [e,← esum_mulr]
 refine q8 fun s hs=>?_
 rw [fev_esum B (fun t=>con s t),← esum_mull]
 exact q8 fun t ht=>fev_con (h s t hs ht).1 (h s t hs ht).2 x y
theorem tg_deg {g:List Row} {t:fG} (h:t∈tg g g.length):t.1<gdx (ww g)∧t.2.1<gdy (ww g):=by
 obtain ⟨_,_,h3,h4⟩:=uM h
 refine Classical.byContradiction fun hn=>h4 ?_
 have:=gv_zero (G:=ww g) hn
 rw [gv_ww,← h3] at this
 exact this
theorem gev_nil (x y:Int):gev [] x y=0:=rfl
theorem gev_zero {G:List (List Int)} (h:gdx G=0) (x y:Int):gev G x y=0:=by
 rw [gev_co (H:=[]) (fun i j=>by rw [gdx_zero.1 h]; simp [gv]) x y,gev_nil]
theorem gev_gmuE (g h:List Row) (x y:Int):gev (gmuE g h) x y=gev (ww g) x y*gev (ww h) x y:=by
 unfold gmuE
 by_cases z1:gdx (ww g)=0
 ·rw [if_pos (.inl z1),gev_zero z1,gev_nil,Int.zero_mul]
 by_cases z2:gdx (ww h)=0
 ·rw [if_pos (.inr z2),gev_zero z2,gev_nil,Int.mul_zero]
 rw [if_neg fun e=>e.elim z1 z2]
 have y1:=gdy_pos z1
 have y2:=gdy_pos z2
 have hv:∀ i j,gv (gof (nB (tg g g.length) (tg h h.length)) (gdx (ww g)+gdx (ww h) - 1) (gdy (ww g)+gdy (ww h) - 1)) i j=nB (tg g g.length) (tg h h.length) i j:=fun i j=>by
  rw [gof_gv]
  split
  ·rfl
  ·rename_i hn
   have e:∀ s,s∈tg g g.length→(iR (tg h h.length) fun t=>con s t i j)=0:=fun s hs=>by
    have e2:(iR (tg h h.length) fun t=>con s t i j)=iR (tg h h.length) fun _=>0:=q8 fun t ht=>by
     have h1:=tg_deg hs
     have h2:=tg_deg ht
     unfold con
     rw [if_neg fun e=>hn ⟨by omega,by omega⟩]
    rw [e2,esum_zero]
   show 0=iR _ _
   rw [q8 e,esum_zero]
 obtain ⟨n1,b1,b2⟩:=r9 (gof (nB (tg g g.length) (tg h h.length)) (gdx (ww g)+gdx (ww h) - 1) (gdy (ww g)+gdy (ww h) - 1))
 have hb:=fun i=>Nat.le_trans (b2 i) (Nat.le_add_right n1 (gdx (ww g)+gdx (ww h)+gdy (ww g)+gdy (ww h)))
 rw [gev_sum (n:=n1+(gdx (ww g)+gdx (ww h)+gdy (ww g)+gdy (ww h))) qN hb]
 simp only [hv]
 rw [gev_tg,gev_tg]
 exact fev_pairs (fun s t hs ht=>by
  have h1:=tg_deg hs
  have h2:=tg_deg ht
  omega) x y
where
 esum_zero {L:List fG}:(iR L fun _=>0)=0:=by
  induction L with
  | nil=>rfl
  | cons t L ih =>
   have e:∀ φ:fG→Int,iR (t::L) φ=φ t+iR L φ:=fun φ=>by simp [iR]
   rw [e,ih]; rfl
def dy (G:List (List Int)):Nat:=(gtu G).length - 1
def gel (G H:List (List Int)):List Int :=
 if gtu G=[]∨gtu H=[] then [] else kR (dy G+dy H) (syX (gtu G) (gtu H) (dy G) (dy H))
def led (G:List (List Int)):List Int:=(gtu G).getD (dy G) []
def gax (G:List (List Int)) (t:Int):List Int:=gpy (gtu G) t
def gaf (G:List (List Int)) (t:Int) (j:Nat):Int:=(gax G t).getD j 0
theorem gaf_eq (G:List (List Int)) (t:Int) (j:Nat):gaf G t j=pev ((gtu G).getD j []) t:=wB _ _ _
theorem gel_nm (G H:List (List Int)):Nm (gel G H):=by
 unfold gel; split
 ·exact Nm.nil
 ·exact pG _ _
theorem gel_none {G H:List (List Int)} (h:gtu G=[]∨gtu H=[]):gel G H=[]:=if_pos h
theorem dy_len {G:List (List Int)} (h:gtu G≠[]):(gtu G).length=dy G+1:=by
 have:=List.length_pos_iff.2 h
 unfold dy; omega
theorem gax_ev (G:List (List Int)) (t y:Int):pev (gax G t) y=gev G t y:=by
 rw [← gev_gtu]; rfl
theorem led_dg {G:List (List Int)} (h:gtu G≠[]):0<dg (led G):=by
 have hn:=gtu_gn G
 have h1:=gtr_last hn.1 (dy G) (dy_len h)
 have h2:(gtu G).getD (dy G) []∈gtu G:=dT [] (by rw [dy_len h]; exact Nat.lt_succ_self _)
 show 0<dg ((gtu G).getD (dy G) [])
 rw [eH (hn.2 _ h2)]
 exact List.length_pos_iff.2 h1
section
variable {C D G H K:List (List Int)}
end
theorem gdy_some {G:List (List Int)} {n:Nat} (h:gdy G=n+1):∃ i,gv G i n≠0:=by
 have key:∀ m,gdyN G m=n+1→∃ i,gv G i n≠0:=fun m=>by
  induction m with
  | zero=>intro h; simp [gdyN] at h
  | succ m ih =>
   intro h
   have h':max (gdyN G m) (dg (G.getD m []))=n+1:=h
   by_cases e:gdyN G m=n+1
   ·exact ih e
   ·have hd:dg (G.getD m [])=n+1:=by omega
    have:=nY (l:=G.getD m []) qN
    unfold ld at this
    rw [hd] at this
    exact ⟨m,this⟩
 exact key _ h
theorem gtu_len (G:List (List Int)):(gtu G).length=gdy G:=by
 have h1:(gtu G).length≤gdy G:=by
  unfold gtu gof
  exact Nat.le_trans (gtr_len _) qP
 refine Nat.le_antisymm h1 (Nat.le_of_not_lt fun hlt=>?_)
 obtain ⟨n,hn⟩:∃ n,gdy G=n+1:=⟨gdy G - 1,by omega⟩
 obtain ⟨i,hi⟩:=gdy_some hn
 rw [← wA] at hi
 refine hi ?_
 unfold gv
 rw [cW (l:=gtu G) qN]; rfl
theorem store_px {u:Value} {vs:Nat→Value} {R C:Nat} {x:Px} {os:List Own} {fs:List bD} {K:bZ} (pos i j:Nat) (h:a8 os pos=some (famP vs R C x)) (hi:i<R) (hj:j<C) (w:List Int) (x':Px)
  (hu:Reads os fs u (vd w)) (hx:∀ a b,a<R→b<C→x' a b=if a=i∧b=j then w else x a b) (k:K undef (setOwn os pos (famP vs R C x')) fs) :
  StoreK Tryz.prog 23 (k6 (vs i) (j*1)) u os fs K :=
 pX (d:=vd w) pos i (famP vs R C x') h hi j hj rfl qK hu rfl rfl (fun a ha=>⟨rfl,rfl,fun b hb=>by
  show vd (x' a b)=if a=i∧b=j then vd w else vd (x a b)
  rw [hx a b ha hb]; split <;> rfl⟩) k
theorem Seals.pxcong {vs vs':Nat→Value} {R C:Nat} {x x':Px} {os:List Own} {fs:List bD} (pos:Nat) (h:a8 os pos=some (famP vs R C x)) (s:Nat→Nat) (hs:∀ i,i<R→s i<R∧vs' i=vs (s i)∧∀ k,k<C→x' i k=x (s i) k)
  (hinj:∀ i j,i<R→j<R→s i=s j→i=j):Seals os fs (setOwn os pos (famP vs' R C x')) fs :=
 Seals.re (o':=famP vs' R C x') pos h s rfl (fun i hi=>⟨(hs i hi).1,(hs i hi).2.1,rfl,fun k hk=>by
  show vd _=vd _
  rw [(hs i hi).2.2 k hk]⟩) hinj
def pT (z y:Px) (i k:Nat):Px:=fun a b=>if a<i∨(a=i∧b<k) then z a b else y a b
def nextX (A:Px) (x:Px) (s q:Nat) (rl cl:List Nat) (p:Nat→Nat):Px:=fun i k =>
 if i≤s∨k≤s then x (xc s q i) k else kR (s+2) (psu A (p (xc s q i)::p q::rl) (k::s::cl))
theorem pouter_ex {vs:Nat→Value} {s p i:Nat} (h:p≠s):upd (upd (fun i=>.one (vs i)) p (.one (vs s))) s (.one (vs p)) i=.one (vs (xc s p i)):=by
 unfold upd xc
 by_cases h1:i=s
 ·simp [h1]
 ·by_cases h2:i=p
  ·subst h2; simp [h]
  ·simp [h1,h2]
theorem xc_inj {s p i j:Nat} (h:xc s p i=xc s p j):i=j:=by rw [← xc_xc s p i,h,xc_xc]
theorem xc_same (s i:Nat):xc s s i=i:=by unfold xc; split <;> (try split) <;> omega
theorem PInv.quo {A:Px} {N:Nat} {x:Px} {last:List Int} {odd:Bool} {s:Nat} {rl cl:List Nat} {p:Nat→Nat} (h:PInv A N x last odd s rl cl p) {a b k:Nat} (ha:s≤a) (haN:a<N) (hb:s≤b) (hbN:b<N) (hs:s<N) (hk:s≤k) (hkN:k<N) {t:List Int} {e:Int}
  (hd:oK (psub (pmul (x a s) (x b k)) (pmul (x b s) (x a k))) last t e):t=kR (s+2) (psu A (p b::p a::rl) (k::s::cl)):=by
 have key:=fun t=>h.dv ha haN hb hbN hs hk hkN t
 have h1:=(hd.ok h.ne ⟨kR (s+2) (psu A (p b::p a::rl) (k::s::cl)),fun t=>by rw [iC,bN,bN,← key]⟩).2
 exact hd.tn.ext (pG _ _) (cancel h.ne fun z=>by rw [← h1 z,iC,bN,bN]; exact (key z).symm)
def pdB (k l n:Nat):Nat:=2*pdk k n+2+(2*(n*l+1)+2)*(pdk k n+1)
structure PB (k l n:Nat) (A:Px):Prop where
 z:∀ i j,szR k (A i j)
 len:∀ i j,(A i j).length≤l
 l30:n*l+1≤268435456
 big:pdB k l n≤137438953472
theorem PB.minor {k l n m:Nat} {A:Px} (h:PB k l n A) (hm:m≤n) (h1:0<n) (rl cl:List Nat):szR (pdk k n) (kR m (psu A rl cl))∧(kR m (psu A rl cl)).length≤n*l+1 :=
 have h64:l<18446744073709551616:=by
  have:=h.l30
  have:1*l≤n*l:=Nat.mul_le_mul_right _ h1
  omega
 ⟨(pdet_sz (n:=m) (A:=psu A rl cl) (fun i j=>h.z _ _) (fun i j=>h.len _ _) h64).mono (pdk_mono k hm),
  Nat.le_trans (pdet_len (n:=m) (A:=psu A rl cl) fun i j=>h.len _ _) (Nat.succ_le_succ (Nat.mul_le_mul_right _ hm))⟩
theorem syRow_b {F:List (List Int)} {k l:Nat} (h:∀ i,szR k (F.getD i [])∧(F.getD i []).length≤l) (d a y:Nat):szR k (tS F d a y)∧(tS F d a y).length≤l:=by
 unfold tS; split
 ·exact h _
 ·exact ⟨fun x hx=>by simp at hx,Nat.zero_le _⟩
theorem syX_b {F E:List (List Int)} {k l:Nat} (h:∀ i,szR k (F.getD i [])∧(F.getD i []).length≤l) (h':∀ i,szR k (E.getD i [])∧(E.getD i []).length≤l) (m n i y:Nat):szR k (syX F E m n i y)∧(syX F E m n i y).length≤l:=by
 unfold syX; split
 ·exact syRow_b h _ _ _
 ·exact syRow_b h' _ _ _
theorem syX_nm (G H:List (List Int)) (m n i y:Nat):Nm (syX (gtu G) (gtu H) m n i y):=by
 have key:∀ (G:List (List Int)) d a,Nm (tS (gtu G) d a y):=fun G d a=>by
  unfold tS; split
  ·by_cases hi:d - (y - a)<(gtu G).length
   ·exact (gtu_gn G).2 _ (dT [] hi)
   ·rw [cW (l:=gtu G) qN]; exact Nm.nil
  ·exact Nm.nil
 unfold syX; split
 ·exact key _ _ _
 ·exact key _ _ _
structure Es where
 s:Nat
 odd:Bool
 last:List Int
 lv:Value
 x:Px
 vs:Nat→Value
theorem wH (v w:Value) (g h:List Row) (k l n:Nat) (hg:Gf k g) (hh:Gf k h) (hk:k≤137438953472) (hb:PB k l n (syX (gtu (ww g)) (gtu (ww h)) (dy (ww g)) (dy (ww h)))) (hn:dy (ww g)+dy (ww h)≤n) (h0:0<n) :
  Meets Tryz.prog 32 [v,w] [(v,W g),(w,W h)] (fun r os fs=>os=[]∧fs=[(r,vd (gel (ww g) (ww h)))]):=by
 have t1:=wG v g ⟨hg.len,fun r hr=>⟨(hg.row r hr).1,(hg.row r hr).2.mono hk⟩⟩
 have t2:=wG w h ⟨hh.len,fun r hr=>⟨(hh.row r hr).1,(hh.row r hr).2.mono hk⟩⟩
 have d1:(gtu (ww g)).length≤1048576:=by rw [gtu_len]; exact hg.dy
 have d2:(gtu (ww h)).length≤1048576:=by rw [gtu_len]; exact hh.dy
 have hgel:∀ h1:¬ (gtu (ww g)=[]∨gtu (ww h)=[]),gel (ww g) (ww h)=kR (dy (ww g)+dy (ww h)) (syX (gtu (ww g)) (gtu (ww h)) (dy (ww g)) (dy (ww h))):=fun h1=>if_neg h1
 have hgn:gtu (ww g)=[]∨gtu (ww h)=[]→gel (ww g) (ww h)=[]:=gel_none
 have hl1:=fun h1:gtu (ww g)≠[]=>dy_len h1
 have hl2:=fun h1:gtu (ww h)≠[]=>dy_len h1
 have hnm:=syX_nm (ww g) (ww h) (dy (ww g)) (dy (ww h))
 change Meets _ _ _ _ (fun r os fs=>os=[]∧fs=[(r,wd (gtu (ww g)))]) at t1
 change Meets _ _ _ _ (fun r os fs=>os=[]∧fs=[(r,wd (gtu (ww h)))]) at t2
 generalize gel (ww g) (ww h)=E at *
 generalize dy (ww g)=m at *
 generalize dy (ww h)=m' at *
 generalize gtu (ww g)=A at *
 generalize gtu (ww h)=B at *
 have hbig:=hb.big
 have hl30:=hb.l30
 have hE1:0≤pdk k n:=Nat.zero_le _
 refine mV Tryz.func32 ?_
 refine cG t1 fun va=>?_
 refine cG t2 fun vb=>?_
 refine len_wd qM ?_
 refine aD _ rfl (fun hA=>?_) (fun hA=>?_)
 ·rw [hgn (.inl (List.length_eq_zero_iff.1 qN))]
  exact fin ⟨rfl,rfl⟩ (a7 (dM 2 _) (aH _ _))
 refine len_wd qM ?_
 refine aD _ rfl (fun hB=>?_) (fun hB=>?_)
 ·rw [hgn (.inr (List.length_eq_zero_iff.1 qN))]
  exact fin ⟨rfl,rfl⟩ (a7 (dM 2 _) (aH _ _))
 have hA':A≠[]:=fun e=>hA (by rw [e]; rfl)
 have hB':B≠[]:=fun e=>hB (by rw [e]; rfl)
 have hE:=hgel fun e=>e.elim hA' hB'
 have la:=hl1 hA'
 have lb:=hl2 hB'
 refine cG (dN 1 qE qE) fun u0=>?_
 refine mE (size:=2) (f:=J) (z:=z0) (e:=26) (cn 1) qE (aC qM) rfl fun l0=>?_
 refine len_wd qM ?_
 refine ar (n:=((m:Nat):Int)) (by simp only [arZ,Option.some.injEq]; omega) qI ?_
 refine len_wd qM ?_
 refine ar (n:=((m':Nat):Int)) (by simp only [arZ,Option.some.injEq]; omega) qI ?_
 refine cF (tV va vb A B m m' la lb qN qN) ?_
 rintro v' _ _ ⟨hv',vs0,hvs0,rfl,rfl⟩
 refine cS 1 rfl hv' fun _=>?_
 generalize hN:m+m'=N at *
 generalize syX A B m m'=S at *
 have hminor:=fun (q:Nat) (hq:q≤N) rl cl=>hb.minor (m:=q) qN h0 rl cl
 refine aO (X:=Es) (fun x=>([(7,x.lv),(8,v'),(9,.bool x.odd),(39,.int .i64 (N:Nat)),(40,.int .i64 (x.s:Nat))],[famP x.vs N N x.x,gJ v' N x.vs],[(x.lv,vd x.last)]))
  (fun x=>(∀ i,i<N→isSl (x.vs i))∧∃ rl cl p,PInv S N x.x x.last x.odd x.s rl cl p) (fun x=>N - x.s) rfl ?_ ?_
 ·exact aU ⟨0,false,[1],l0,S,vs0⟩ ⟨hvs0,[],[],fun i=>i,PInv.start fun i k _ _=>hnm i k⟩ trivial qF (aB qS)
 ·rintro ⟨s,odd,last,lv,x,vs⟩ ⟨hvs,rl,cl,p,hP⟩
  simp only at hvs hP ⊢
  have hsle:=hP.le
  have hlast:szR (pdk k n) last∧last.length≤n*l+1:=by rw [hP.lst]; exact hminor s hsle rl cl
  refine aD _ rfl (fun hs=>?_) (fun hs=>?_)
  rotate_left
  ·have hsN:s=N:=by omega
   subst hsN
   have hdone:=hP.done
   rw [hE]
   cases odd with
   | true =>
    refine cG (dN (-1) qE qE) fun c1=>?_
    refine cG (pTimesT lv c1 last (-1) (pdk k n) 1 hlast.1 (jS _ qE) (by unfold pdB at hbig; omega) qN) fun r=>?_
    refine fin ⟨rfl,?_⟩ (dS (dS (aB (fs':=[(r,vd (ptim (-1) last))]) qS)))
    rw [show ptim (-1) last=kR s S from (ptim_nm _ _).ext (pG _ _) fun t=>by rw [cL,hdone t,if_pos rfl]; omega]
    rfl
   | false =>
    refine cG (pNormT lv last (hlast.1.mono (by unfold pdB at hbig; omega)) qN) fun r=>?_
    refine fin ⟨rfl,?_⟩ (dS (dS (aB (fs':=[(r,vd (nrm last))]) qS)))
    rw [show nrm last=kR s S from (Nm.nrm _).ext (pG _ _) fun t=>by rw [dL,hdone t]; rfl]
    rfl
  have hsN:s<N:=by omega
  refine aO (X:=Nat) (fun q=>([(7,lv),(8,v'),(9,.bool odd),(10,.int .i64 (s:Nat)),(11,.int .i64 (q:Nat)),(39,.int .i64 (N:Nat)),(40,.int .i64 (s:Nat))],[famP vs N N x,gJ v' N vs],[(lv,vd last)]))
   (fun q=>s≤q∧q≤N∧∀ i,s≤i→i<q→x i s=[]) (fun q=>N - q) rfl ?_ ?_
  ·exact aU s ⟨Nat.le_refl _,hsle,fun i h1 h2=>by omega⟩ trivial qF (aB qS)
  ·rintro q ⟨hq1,hq2,hqz⟩
   refine cS 1 rfl hv' fun _=>?_
   refine aD _ rfl (fun hq=>?_) (fun hq=>?_)
   rotate_left
   ·have hqN:q=N:=by omega
    subst hqN
    refine cS 1 rfl hv' fun _=>?_
    refine dI rfl rfl ?_
    rw [hE,hP.none hsN hqz]
    exact fin ⟨rfl,rfl⟩ (dS (dS (a7 (dM 2 _) (aH _ _))))
   have hqN:q<N:=by omega
   refine aE 1 rfl hv' q rfl qN ?_
   refine aG 1 rfl q qN (u:=vs q) rfl ?_
   refine e8 0 q rfl qN (hvs q qN) s rfl qN ?_
   refine gR 0 q s rfl qN qN (x q s) rfl fun u1=>?_
   refine fV qM ?_
   refine aD _ rfl (fun hz=>?_) (fun hz=>?_)
   ·refine ar rfl qI ?_
    refine aU (q+1) ⟨by omega,by omega,fun i h1 h2=>?_⟩ (by simp only; omega) qF (aB qS)
    by_cases e:i=q
    ·rw [e]; exact List.length_eq_zero_iff.1 qN
    ·exact hqz i h1 qN
   have hz0:x q s≠[]:=fun e=>hz (by rw [e]; rfl)
   refine cS 1 rfl hv' fun _=>?_
   refine cX rfl qN ?_
   have hnext0:=hP.step hq1 hqN hz0 (z:=nextX S x s q rl cl p) fun i k' h1 h2 h3 h4=>by unfold nextX; rw [if_neg qN]
   have hquo0:∀ i k',s+1≤i→i<N→s+1≤k'→k'<N→∀ {t:List Int} {e:Int},oK (psub (pmul (x (xc s q s) s) (x (xc s q i) k')) (pmul (x (xc s q i) s) (x (xc s q s) k'))) last t e→t=nextX S x s q rl cl p i k':=fun i k' h1 h2 h3 h4 t e hd=>by
    unfold nextX; rw [if_neg qN]
    rw [xc_at] at hd
    exact hP.quo hq1 hqN (xc_ge hq1 qN) (xc_lt hsN hqN h2) hsN qN h4 hd
   have hzy0:∀ a b,a≤s∨b≤s→nextX S x s q rl cl p a b=x (xc s q a) b:=fun a b e=>by unfold nextX; rw [if_pos e]
   have hys0:∀ i j,i<N→j<N→s≤i→s≤j→szR (pdk k n) (x (xc s q i) j)∧(x (xc s q i) j).length≤n*l+1:=fun i j hi hj h1 h2=>by
    rw [hP.val _ j (xc_ge hq1 h1) (xc_lt hsN hqN hi) h2 hj]; exact hminor (s+1) qN _ _
   have hdiv:∀ m,m≤2*(n*l+1)→(pdk k n+pdk k n+1+1)+(m+1)*(pdk k n+1)≤137438953472:=fun m hm=>by
    have:(m+1)*(pdk k n+1)≤(2*(n*l+1)+2)*(pdk k n+1):=Nat.mul_le_mul_right _ qN
    unfold pdB at hbig
    omega
   have hbig2:2*pdk k n+2≤137438953472:=by unfold pdB at hbig; omega
   have hyx:∀ i j,(fun a b=>x (xc s q a) b:Px) i j=x (xc s q i) j:=fun _ _=>rfl
   have hnext:∀ od,(if q=s then odd else !odd)=od→(∀ i,i<N→isSl (vs (xc s q i)))∧∃ rl' cl' p',PInv S N (nextX S x s q rl cl p) (x (xc s q s) s) od (s+1) rl' cl' p':=fun od e=>by
    rw [xc_at,← e]
    exact ⟨fun i hi=>hvs _ (xc_lt hsN hqN hi),_,_,_,hnext0⟩
   obtain ⟨y,hy⟩:∃ y:Px,∀ a b,y a b=x (xc s q a) b:=⟨_,fun _ _=>rfl⟩
   obtain ⟨vs',hv's⟩:∃ vs':Nat→Value,∀ i,vs' i=vs (xc s q i):=⟨_,fun _=>rfl⟩
   have hvs':∀ i,i<N→isSl (vs' i):=fun i hi=>by rw [hv's]; exact hvs _ (xc_lt hsN hqN hi)
   simp only [← hy] at hquo0 hzy0 hys0 hnext
   generalize hz':nextX S x s q rl cl p=z at *
   have hnext:∀ od,(if q=s then odd else !odd)=od→(∀ i,i<N→isSl (vs' i))∧∃ rl' cl' p',PInv S N z (y s s) od (s+1) rl' cl' p':=fun od e=>⟨hvs',(hnext od e).2⟩
   have hzy:=hzy0
   have hys:=hys0
   have hquo:=hquo0
   have hpx:∀ i,i<N→xc s q i<N∧vs' i=vs (xc s q i)∧∀ j,j<N→pT z y (s+1) 0 i j=x (xc s q i) j:=fun i hi=>⟨xc_lt hsN hqN hi,hv's i,fun j _=>by
    unfold pT
    split
    ·rw [hzy i j qN,hy]
    ·rw [hy]⟩
   clear hnext0 hqz hz0 hz hminor hzy0 hys0 hquo0 hz'
   refine aD _ rfl (fun hne=>?_) (fun hne=>?_)
   ·have hqs:q≠s:=by omega
    have hnext:=hnext (!odd) (if_neg hqs)
    refine aY [0,1,2,3,4,5,6,7,8,9,10,11,12,13,14,15] [0,1,4,5,6,7,8,9,10,11,12,13,2,3,14,15] qK qK ?_
    refine aE 1 rfl hv' s rfl qN ?_
    refine aG 1 rfl s qN (u:=vs s) rfl ?_
    refine aE 1 rfl hv' q rfl qN ?_
    refine aG 1 rfl q qN (u:=vs q) rfl ?_
    refine aE 1 rfl hv' q rfl qN ?_
    refine bL (d:=.one (vs s)) 1 rfl q qN rfl qK (bW (hvs s qN).one) ?_
    refine aE 1 rfl hv' s rfl qN ?_
    refine bL (d:=.one (vs q)) 1 rfl s qN rfl qK (bW (hvs q qN).one) ?_
    refine ar rfl qI ?_
    refine aO (X:=Nat) (fun i=>([(7,lv),(8,v'),(9,.bool (!odd)),(10,.int .i64 (s:Nat)),(12,.int .i64 (i:Nat)),(39,.int .i64 (N:Nat)),(40,.int .i64 (s:Nat))],[famP vs' N N (pT z y i 0),gJ v' N vs'],[(lv,vd last)]))
     (fun i=>s+1≤i∧i≤N) (fun i=>N - i) rfl ?_ ?_
    ·exact aU (s+1) ⟨Nat.le_refl _,by omega⟩ trivial qF (aA (Seals.own_cong (os:=[_,_]) 1 (fun i=>.one (vs' i)) rfl rfl fun i _=>by rw [pouter_ex hqs,hv's]) (aA (Seals.pxcong (os:=[_,_]) 0 rfl (xc s q) hpx fun _ _ _ _ e=>xc_inj e) (aB qS)))
    ·rintro i ⟨hi1,hi2⟩
     refine cS 1 rfl hv' fun _=>?_
     refine aD _ rfl (fun hi=>?_) (fun hi=>?_)
     ·have hiR:i<N:=by omega
      refine ar rfl qI ?_
      refine aO (X:=Nat) (fun k'=>([(7,lv),(8,v'),(9,.bool (!odd)),(10,.int .i64 (s:Nat)),(12,.int .i64 (i:Nat)),(13,.int .i64 (k':Nat)),(39,.int .i64 (N:Nat)),(40,.int .i64 (s:Nat))],[famP vs' N N (pT z y i k'),gJ v' N vs'],[(lv,vd last)]))
       (fun k'=>s+1≤k'∧k'≤N) (fun k'=>N - k') rfl ?_ ?_
      ·refine aU (s+1) ⟨Nat.le_refl _,by omega⟩ trivial qF (aA (Seals.pxcong (os:=[_,_]) (x':=pT z y i (s+1)) 0 rfl (fun i=>i) (fun a ha=>⟨ha,rfl,fun b hb=>?_⟩) fun _ _ _ _ e=>e) (aB qS))
       unfold pT
       by_cases e:a<i∨(a=i∧b<0)
       ·rw [if_pos e,if_pos qN]
       ·rw [if_neg e]
        split
        ·exact hzy _ _ qN
        ·rfl
      ·rintro k' ⟨hk1,hk2⟩
       refine cS 1 rfl hv' fun _=>?_
       refine aD _ rfl (fun hc2=>?_) (fun hc2=>?_)
       ·have hkC:k'<N:=by omega
        have y1:=hys s s hsN hsN (Nat.le_refl _) (Nat.le_refl _)
        have y2:=hys i k' hiR hkC qN qN
        have y3:=hys i s hiR hsN qN (Nat.le_refl _)
        have y4:=hys s k' hsN hkC (Nat.le_refl _) qN
        have m1:=y1.1.pmul y2.1 qN
        have m2:=y3.1.pmul y4.1 qN
        have l1:=qB (y s s) (y i k')
        have l2:=qB (y i s) (y s k')
        have l3:=psub_len (pmul (y s s) (y i k')) (pmul (y i s) (y s k'))
        refine aY [0,1,2,3,4,5,6,7,8,9,10,11,12,13,15,16,17,18,19,20,21,22,23,24,25,26,27,28,14,29,30,31] [0,1,2,3,4,5,6,7,8,9,10,11,12,13,14,15,16,17,18,19,20,21,22,23,24,25,26,27,28,29,30,31] qK qK ?_
        refine aE 1 rfl hv' s rfl qN ?_
        refine aG 1 rfl s qN (u:=vs' s) rfl ?_
        refine e8 0 s rfl qN (hvs' s qN) s rfl qN ?_
        refine gR 0 s s rfl qN qN (y s s) ?_ fun u1=>?_
        ·unfold pT; rw [if_pos qN,hzy _ _ qN]
        refine aE 1 rfl hv' i rfl qN ?_
        refine aG 1 rfl i qN (u:=vs' i) rfl ?_
        refine e8 0 i rfl qN (hvs' i qN) k' rfl qN ?_
        refine gR 0 i k' rfl qN qN (y i k') ?_ fun u2=>?_
        ·unfold pT; rw [if_neg qN]
        refine aE 1 rfl hv' i rfl qN ?_
        refine aG 1 rfl i qN (u:=vs' i) rfl ?_
        refine e8 0 i rfl qN (hvs' i qN) s rfl qN ?_
        refine gR 0 i s rfl qN qN (y i s) ?_ fun u3=>?_
        ·unfold pT; rw [if_pos qN,hzy _ _ qN]
        refine aE 1 rfl hv' s rfl qN ?_
        refine aG 1 rfl s qN (u:=vs' s) rfl ?_
        refine e8 0 s rfl qN (hvs' s qN) k' rfl qN ?_
        refine gR 0 s k' rfl qN qN (y s k') ?_ fun u4=>?_
        ·unfold pT; rw [if_pos qN,hzy _ _ qN]
        refine cG (pMulT u1 u2 _ _ _ _ y1.1 y2.1 qN qN qN) fun w1=>?_
        refine cG (pMulT u3 u4 _ _ _ _ y3.1 y4.1 qN qN qN) fun w2=>?_
        refine cG (pSubT w1 w2 _ _ _ m1 m2 qN qN qN) fun w3=>?_
        refine aY [0,1,2,3,4,5,6,7,8,9,10,11,12] [0,1,2,3,4,5,6,7,8,9,11,12,10] qK qK ?_
        refine aE 1 rfl hv' i rfl qN ?_
        refine aG 1 rfl i qN (u:=vs' i) rfl ?_
        refine cF (pDivideT w3 lv _ _ _ _ (m1.psub m2) hlast.1 (hdiv _ qN) qN qN) ?_
        rintro _ _ _ ⟨rfl,w4,t,e,rfl,hds,_,rfl⟩
        obtain rfl:=hquo i k' hi1 hiR hk1 hkC hds
        refine e8 0 i rfl qN (hvs' i qN) k' rfl qN ?_
        refine store_px 0 i k' rfl qN qN _ (pT z y i (k'+1)) (aC qM) (fun a b ha hb=>?_) ?_
        ·unfold pT
         by_cases e:a=i∧b=k'
         ·rw [if_pos e,e.1,e.2,if_pos qN]
         ·rw [if_neg e]
          by_cases e1:a<i∨a=i∧b<k'
          ·rw [if_pos e1,if_pos qN]
          ·rw [if_neg e1,if_neg qN]
        refine ar rfl qI ?_
        exact aU (k'+1) ⟨by omega,by omega⟩ (by simp only; omega) qF (aB qS)
       ·have hkC:k'=N:=by omega
        subst hkC
        refine ar rfl qI ?_
        refine aU (i+1) ⟨by omega,by omega⟩ (by simp only; omega) qF (aA (Seals.pxcong (os:=[_,_]) (x':=pT z y (i+1) 0) 0 rfl (fun i=>i) (fun a ha=>⟨ha,rfl,fun b hb=>?_⟩) fun _ _ _ _ e=>e) (aB qS))
        unfold pT
        by_cases e:a<i∨a=i∧b<k'
        ·rw [if_pos e,if_pos qN]
        ·rw [if_neg e,if_neg qN]
     ·have hiR:i=N:=by omega
      subst hiR
      refine aE 1 rfl hv' s rfl qN ?_
      refine aG 1 rfl s qN (u:=vs' s) rfl ?_
      refine e8 0 s rfl qN (hvs' s qN) s rfl qN ?_
      refine gR 0 s s rfl qN qN (y s s) ?_ fun u1=>?_
      ·unfold pT; rw [if_pos qN,hzy _ _ qN]
      refine ar rfl qI ?_
      refine aU ⟨s+1,(!odd),y s s,u1,z,vs'⟩ hnext (by simp only; omega) qF (aA (Seals.pxcong (os:=[_,_]) (x':=z) 0 rfl (fun i=>i) (fun a ha=>⟨ha,rfl,fun b hb=>?_⟩) fun _ _ _ _ e=>e) (aB qS))
      unfold pT; rw [if_pos qN]
   ·have hqs:q=s:=by omega
    have hnext:=hnext odd (if_pos hqs)
    refine ar rfl qI ?_
    refine aO (X:=Nat) (fun i=>([(7,lv),(8,v'),(9,.bool (odd)),(10,.int .i64 (s:Nat)),(12,.int .i64 (i:Nat)),(39,.int .i64 (N:Nat)),(40,.int .i64 (s:Nat))],[famP vs' N N (pT z y i 0),gJ v' N vs'],[(lv,vd last)]))
     (fun i=>s+1≤i∧i≤N) (fun i=>N - i) rfl ?_ ?_
    ·exact aU (s+1) ⟨Nat.le_refl _,by omega⟩ trivial qF (aA (Seals.own_cong (os:=[_,_]) 1 (fun i=>.one (vs' i)) rfl rfl fun i _=>by rw [hv's,hqs,xc_same]) (aA (Seals.pxcong (os:=[_,_]) 0 rfl (xc s q) hpx fun _ _ _ _ e=>xc_inj e) (aB qS)))
    ·rintro i ⟨hi1,hi2⟩
     refine cS 1 rfl hv' fun _=>?_
     refine aD _ rfl (fun hi=>?_) (fun hi=>?_)
     ·have hiR:i<N:=by omega
      refine ar rfl qI ?_
      refine aO (X:=Nat) (fun k'=>([(7,lv),(8,v'),(9,.bool (odd)),(10,.int .i64 (s:Nat)),(12,.int .i64 (i:Nat)),(13,.int .i64 (k':Nat)),(39,.int .i64 (N:Nat)),(40,.int .i64 (s:Nat))],[famP vs' N N (pT z y i k'),gJ v' N vs'],[(lv,vd last)]))
       (fun k'=>s+1≤k'∧k'≤N) (fun k'=>N - k') rfl ?_ ?_
      ·refine aU (s+1) ⟨Nat.le_refl _,by omega⟩ trivial qF (aA (Seals.pxcong (os:=[_,_]) (x':=pT z y i (s+1)) 0 rfl (fun i=>i) (fun a ha=>⟨ha,rfl,fun b hb=>?_⟩) fun _ _ _ _ e=>e) (aB qS))
       unfold pT
       by_cases e:a<i∨(a=i∧b<0)
       ·rw [if_pos e,if_pos qN]
       ·rw [if_neg e]
        split
        ·exact hzy _ _ qN
        ·rfl
      ·rintro k' ⟨hk1,hk2⟩
       refine cS 1 rfl hv' fun _=>?_
       refine aD _ rfl (fun hc2=>?_) (fun hc2=>?_)
       ·have hkC:k'<N:=by omega
        have y1:=hys s s hsN hsN (Nat.le_refl _) (Nat.le_refl _)
        have y2:=hys i k' hiR hkC qN qN
        have y3:=hys i s hiR hsN qN (Nat.le_refl _)
        have y4:=hys s k' hsN hkC (Nat.le_refl _) qN
        have m1:=y1.1.pmul y2.1 qN
        have m2:=y3.1.pmul y4.1 qN
        have l1:=qB (y s s) (y i k')
        have l2:=qB (y i s) (y s k')
        have l3:=psub_len (pmul (y s s) (y i k')) (pmul (y i s) (y s k'))
        refine aY [0,1,2,3,4,5,6,7,8,9,10,11,12,13,15,16,17,18,19,20,21,22,23,24,25,26,27,28,14,29,30,31] [0,1,2,3,4,5,6,7,8,9,10,11,12,13,14,15,16,17,18,19,20,21,22,23,24,25,26,27,28,29,30,31] qK qK ?_
        refine aE 1 rfl hv' s rfl qN ?_
        refine aG 1 rfl s qN (u:=vs' s) rfl ?_
        refine e8 0 s rfl qN (hvs' s qN) s rfl qN ?_
        refine gR 0 s s rfl qN qN (y s s) ?_ fun u1=>?_
        ·unfold pT; rw [if_pos qN,hzy _ _ qN]
        refine aE 1 rfl hv' i rfl qN ?_
        refine aG 1 rfl i qN (u:=vs' i) rfl ?_
        refine e8 0 i rfl qN (hvs' i qN) k' rfl qN ?_
        refine gR 0 i k' rfl qN qN (y i k') ?_ fun u2=>?_
        ·unfold pT; rw [if_neg qN]
        refine aE 1 rfl hv' i rfl qN ?_
        refine aG 1 rfl i qN (u:=vs' i) rfl ?_
        refine e8 0 i rfl qN (hvs' i qN) s rfl qN ?_
        refine gR 0 i s rfl qN qN (y i s) ?_ fun u3=>?_
        ·unfold pT; rw [if_pos qN,hzy _ _ qN]
        refine aE 1 rfl hv' s rfl qN ?_
        refine aG 1 rfl s qN (u:=vs' s) rfl ?_
        refine e8 0 s rfl qN (hvs' s qN) k' rfl qN ?_
        refine gR 0 s k' rfl qN qN (y s k') ?_ fun u4=>?_
        ·unfold pT; rw [if_pos qN,hzy _ _ qN]
        refine cG (pMulT u1 u2 _ _ _ _ y1.1 y2.1 qN qN qN) fun w1=>?_
        refine cG (pMulT u3 u4 _ _ _ _ y3.1 y4.1 qN qN qN) fun w2=>?_
        refine cG (pSubT w1 w2 _ _ _ m1 m2 qN qN qN) fun w3=>?_
        refine aY [0,1,2,3,4,5,6,7,8,9,10,11,12] [0,1,2,3,4,5,6,7,8,9,11,12,10] qK qK ?_
        refine aE 1 rfl hv' i rfl qN ?_
        refine aG 1 rfl i qN (u:=vs' i) rfl ?_
        refine cF (pDivideT w3 lv _ _ _ _ (m1.psub m2) hlast.1 (hdiv _ qN) qN qN) ?_
        rintro _ _ _ ⟨rfl,w4,t,e,rfl,hds,_,rfl⟩
        obtain rfl:=hquo i k' hi1 hiR hk1 hkC hds
        refine e8 0 i rfl qN (hvs' i qN) k' rfl qN ?_
        refine store_px 0 i k' rfl qN qN _ (pT z y i (k'+1)) (aC qM) (fun a b ha hb=>?_) ?_
        ·unfold pT
         by_cases e:a=i∧b=k'
         ·rw [if_pos e,e.1,e.2,if_pos qN]
         ·rw [if_neg e]
          by_cases e1:a<i∨a=i∧b<k'
          ·rw [if_pos e1,if_pos qN]
          ·rw [if_neg e1,if_neg qN]
        refine ar rfl qI ?_
        exact aU (k'+1) ⟨by omega,by omega⟩ (by simp only; omega) qF (aB qS)
       ·have hkC:k'=N:=by omega
        subst hkC
        refine ar rfl qI ?_
        refine aU (i+1) ⟨by omega,by omega⟩ (by simp only; omega) qF (aA (Seals.pxcong (os:=[_,_]) (x':=pT z y (i+1) 0) 0 rfl (fun i=>i) (fun a ha=>⟨ha,rfl,fun b hb=>?_⟩) fun _ _ _ _ e=>e) (aB qS))
        unfold pT
        by_cases e:a<i∨a=i∧b<k'
        ·rw [if_pos e,if_pos qN]
        ·rw [if_neg e,if_neg qN]
     ·have hiR:i=N:=by omega
      subst hiR
      refine aE 1 rfl hv' s rfl qN ?_
      refine aG 1 rfl s qN (u:=vs' s) rfl ?_
      refine e8 0 s rfl qN (hvs' s qN) s rfl qN ?_
      refine gR 0 s s rfl qN qN (y s s) ?_ fun u1=>?_
      ·unfold pT; rw [if_pos qN,hzy _ _ qN]
      refine ar rfl qI ?_
      refine aU ⟨s+1,(odd),y s s,u1,z,vs'⟩ hnext (by simp only; omega) qF (aA (Seals.pxcong (os:=[_,_]) (x':=z) 0 rfl (fun i=>i) (fun a ha=>⟨ha,rfl,fun b hb=>?_⟩) fun _ _ _ _ e=>e) (aB qS))
      unfold pT; rw [if_pos qN]
abbrev toW (G:List (List Int)):List Row:=G.map (·.map cn)
theorem uI (G:List (List Int)):ww (toW G)=G:=by
 unfold ww
 rw [List.map_map]
 conv=>rhs; rw [← List.map_id G]
 exact List.map_congr_left fun r _=>fR r
theorem gmuE_gn (g h:List Row):Gn (gmuE g h):=by
 unfold gmuE; split
 ·exact ⟨rfl,fun r hr=>by simp at hr⟩
 ·exact gof_gn _ _ _
def gmu (G H:List (List Int)):List (List Int):=gmuE (toW G) (toW H)
theorem gmu_gn (G H:List (List Int)):Gn (gmu G H):=gmuE_gn _ _
theorem gev_gmu (G H:List (List Int)) (x y:Int):gev (gmu G H) x y=gev G x y*gev H x y:=by
 rw [gmu,gev_gmuE,uI,uI]
theorem gmuE_eq (g h:List Row):gmuE g h=gmu (ww g) (ww h):=(gmuE_gn _ _).ev_ext (gmu_gn _ _) fun x y=>by rw [gev_gmuE,gev_gmu]
theorem gev_gn (G:List (List Int)) (x y:Int):gev (gn G) x y=gev G x y:=gev_co (gn_gv G) x y
structure Lg (A:List Row) (G:List (List Int)) (k n:Nat):Prop where
 val:ww A=G
 len:A.length≤n
 row:∀ r,r∈A→r.length≤n∧Fit k r
theorem Lg.told {G:List (List Int)} {k n:Nat} (h:G.length≤n) (hr:∀ r,r∈G→r.length≤n∧szR k r):Lg (toW G) G k n :=
 ⟨uI G,by rw [List.length_map]; exact h,fun r hr'=>by
  obtain ⟨l,hl,rfl⟩:=List.mem_map.1 hr'
  exact ⟨by rw [List.length_map]; exact (hr l hl).1,(hr l hl).2.fit⟩⟩
section
variable {A B:List Row} {G H:List (List Int)} {k j n n':Nat}
theorem Lg.mono (h:Lg A G k n) (hk:k≤j) (hn:n≤n'):Lg A G j n':=⟨h.val,Nat.le_trans h.len hn,fun r hr=>⟨Nat.le_trans (h.row r hr).1 hn,(h.row r hr).2.mono hk⟩⟩
theorem Lg.gf (h:Lg A G k n) (hk:k≤j) (hn:n≤1048576):Gf j A:=⟨Nat.le_trans h.len hn,fun r hr=>⟨Nat.le_trans (h.row r hr).1 hn,(h.row r hr).2.mono hk⟩⟩
theorem Lg.gs (h:Lg A G k n) (hn:n≤1024):Gs k A:=⟨Nat.le_trans h.len hn,fun r hr=>⟨Nat.le_trans (h.row r hr).1 hn,(h.row r hr).2⟩⟩
theorem Lg.ll (h:Lg A G k n):G.length≤n:=by rw [← h.val,ww_len]; exact h.len
theorem Lg.g (h:Lg A G k n) (i:Nat):szR k (G.getD i [])∧(G.getD i []).length≤n:=by
 rw [← h.val,nI]
 by_cases hi:i<A.length
 ·have:=h.row _ (dT [] hi)
  exact ⟨this.2.szR,by rw [cV]; exact this.1⟩
 ·rw [cW (l:=A) qN]
  exact ⟨fun x hx=>by simp [vv] at hx,Nat.zero_le _⟩
theorem Lg.gv (h:Lg A G k n) (i j:Nat):sz (Go.Proofs.YtjebljkoiaojaaaGreat.gv G i j) k:=(h.g i).1.get j
theorem Lg.dx (h:Lg A G k n):gdx G≤n:=Nat.le_trans (wE _ _) h.ll
theorem Lg.dy (h:Lg A G k n):gdy G≤n:=gdyN_le (fun i=>Nat.le_trans (dY _) (h.g i).2) _
theorem Lg.of_gtr {E:List (List Int)} (h:E.length≤n) (hr:∀ r,r∈E→r.length≤n∧szR k r):Lg (toW (gtr E)) (gtr E) k n :=
 Lg.told (Nat.le_trans (gtr_len _) h) fun r hr'=>hr r (gtr_mem hr')
theorem Lg.gof {F:Nat→Nat→Int} {a c:Nat} (hF:∀ i j,sz (F i j) k) (ha:a≤n) (hc:c≤n):Lg (toW (gof F a c)) (Go.Proofs.YtjebljkoiaojaaaGreat.gof F a c) k n :=
 Lg.of_gtr (by simpa using ha) fun r hr=>by
  obtain ⟨i,_,rfl⟩:=List.mem_map.1 hr
  exact ⟨Nat.le_trans (cA _) (by rw [eC]; exact hc),szR.nrm (szR.lst fun j _=>hF i j)⟩
theorem Lg.tu (h:Lg A G k n):Lg (toW (gtu G)) (gtu G) k n:=Lg.gof (fun i j=>h.gv j i) h.dy h.dx
theorem Lg.toW (h:Lg A G k n):Lg (Go.Proofs.YtjebljkoiaojaaaGreat.toW G) G k n:=Lg.told h.ll fun r hr=>by
 obtain ⟨i,hi,rfl⟩:=mem_getD [] hr
 exact ⟨(h.g i).2,(h.g i).1⟩
theorem Lg.mul (h:Lg A G k n) (h':Lg B H j n') (hn:n≤1024) (hn':n'≤1024):Lg (Go.Proofs.YtjebljkoiaojaaaGreat.toW (gmu G H)) (gmu G H) (k+j+1) (n+n'):=by
 have g1:=h.toW.gs hn
 have g2:=h'.toW.gs hn'
 unfold gmu gmuE
 rw [uI,uI]
 split
 ·exact Lg.told (Nat.zero_le _) fun r hr=>by simp at hr
 ·refine Lg.gof (fun i j'=>?_) (by have:=h.dx; have:=h'.dx; omega) (by have:=h.dy; have:=h'.dy; omega)
  have e:nB (tg (Go.Proofs.YtjebljkoiaojaaaGreat.toW G) (Go.Proofs.YtjebljkoiaojaaaGreat.toW G).length) (tg (Go.Proofs.YtjebljkoiaojaaaGreat.toW H) (Go.Proofs.YtjebljkoiaojaaaGreat.toW H).length) i j'+uP (0,0,z0) [] i j'=nB (tg (Go.Proofs.YtjebljkoiaojaaaGreat.toW G) (Go.Proofs.YtjebljkoiaojaaaGreat.toW G).length) (tg (Go.Proofs.YtjebljkoiaojaaaGreat.toW H) (Go.Proofs.YtjebljkoiaojaaaGreat.toW H).length) i j':=by simp [uP,iR]
  rw [← e]
  exact sum_sz (fun t ht=>gY (g1.tin t ht).2.2.1 (g1.tin t ht).2.2.2) (by rw [jv_z0]; exact jZ _) (fun t ht=>gY (g2.tin t ht).2.2.1 (g2.tin t ht).2.2.2) (fun t ht=>by simp at ht) g1.tlen g2.tlen (Nat.zero_le _) i j'
theorem xgNorm (v:Value) (h:Lg A G k n) (hk:k≤137438953472:=by decide) (hn:n≤1024:=by decide) :
  Meets Tryz.prog 145 [v] [(v,W A)] (fun r os fs=>os=[]∧fs=[(r,wd (Go.Proofs.YtjebljkoiaojaaaGreat.gn G))]):=by
 have:=gNorm_meets v A (h.gf hk qN)
 rw [h.val] at this; exact this
theorem xgMul (v w:Value) (h:Lg A G k n) (h':Lg B H j n') (hk:k+j+1≤1073741824:=by decide) (hn:n≤1024:=by decide) (hn':n'≤1024:=by decide) :
  Meets Tryz.prog 58 [v,w] [(v,W A),(w,W B)] (fun r os fs=>os=[]∧fs=[(r,wd (gmu G H))]):=by
 have:=gMul_meets v w A B k j (h.gs hn) (h'.gs hn') hk
 rw [gmuE_eq,h.val,h'.val] at this; exact this
theorem Lg.pb (h:Lg A G k n) (h':Lg B H k n) (hn:2*n*n+1≤268435456) (hb:pdB k n (2*n)≤137438953472) :
  PB k n (2*n) (syX (gtu (ww A)) (gtu (ww B)) (Go.Proofs.YtjebljkoiaojaaaGreat.dy (ww A)) (Go.Proofs.YtjebljkoiaojaaaGreat.dy (ww B))):=by
 have key:=fun i j=>syX_b (F:=gtu (ww A)) (E:=gtu (ww B)) (k:=k) (l:=n) (fun i=>by rw [h.val]; exact h.tu.g i) (fun i=>by rw [h'.val]; exact h'.tu.g i) (Go.Proofs.YtjebljkoiaojaaaGreat.dy (ww A)) (Go.Proofs.YtjebljkoiaojaaaGreat.dy (ww B)) i j
 exact ⟨fun i j=>(key i j).1,fun i j=>(key i j).2,hn,hb⟩
theorem Lg.dy' (h:Lg A G k n):Go.Proofs.YtjebljkoiaojaaaGreat.dy G≤n:=by
 unfold Go.Proofs.YtjebljkoiaojaaaGreat.dy; rw [gtu_len]; have:=h.dy; omega
theorem xgElim (v w:Value) (h:Lg A G k n) (h':Lg B H k n) (hk:k≤137438953472:=by decide) (hn0:0<n:=by decide) (hn:n≤1024:=by decide) (hn2:2*n*n+1≤268435456:=by decide) (hb:pdB k n (2*n)≤137438953472:=by decide) :
  Meets Tryz.prog 32 [v,w] [(v,W A),(w,W B)] (fun r os fs=>os=[]∧fs=[(r,vd (gel G H))]):=by
 have d1:Go.Proofs.YtjebljkoiaojaaaGreat.dy (ww A)≤n:=by rw [h.val]; exact h.dy'
 have d2:Go.Proofs.YtjebljkoiaojaaaGreat.dy (ww B)≤n:=by rw [h'.val]; exact h'.dy'
 have:=wH v w A B k n (2*n) (h.gf (Nat.le_refl _) qN) (h'.gf (Nat.le_refl _) qN) hk (h.pb h' hn2 hb) qN qN
 rw [h.val,h'.val] at this; exact this
theorem Lg.el (h:Lg A G k n) (h':Lg B H k n) (hn:n<18446744073709551616):Lk ((gel G H).map cn) (gel G H) (pdk k (2*n)) (2*n*n+1):=by
 have d1:=h.dy'
 have d2:=h'.dy'
 unfold gel
 split
 ·exact Lk.told (fun x hx=>by simp at hx) (Nat.zero_le _)
 ·have key:=fun i j=>syX_b (k:=k) (l:=n) h.tu.g h'.tu.g (Go.Proofs.YtjebljkoiaojaaaGreat.dy G) (Go.Proofs.YtjebljkoiaojaaaGreat.dy H) i j
  exact Lk.told ((pdet_sz (fun i j=>(key i j).1) (fun i j=>(key i j).2) hn).mono (pdk_mono k qN)) (Nat.le_trans (pdet_len fun i j=>(key i j).2) (Nat.succ_le_succ (Nat.mul_le_mul_right _ qN)))
end
def pco (G H:List (List Int)) (i:Nat):Nat→List Int
 | 0=>[]
 | k+1=>padd (pco G H i k) (pmul (nrm (G.getD k [])) (nrm (H.getD (i - k) [])))
theorem pco_ev (G H:List (List Int)) (i k:Nat) (y:Int):pev (pco G H i k) y=cM (fun t=>pev (G.getD t []) y*pev (H.getD (i - t) []) y) k:=by
 induction k with
 | zero=>rfl
 | succ k ih=>rw [pco,gS,bN,dL,dL,ih]; rfl
theorem conv_all:∀ (a:List Int) (b:List Int) (x:Int),pev (lst (a.length+b.length) fun i=>cM (fun k=>a.getD k 0*b.getD (i - k) 0) (i+1)) x=pev a x*pev b x
 | [],b,x=>by
  rw [nX (g:=fun _=>0) fun i _=>eT fun k _=>by simp,pN]
  simp [pev]
 | c::a,b,x=>by
  have ih:=conv_all a b x
  rw [List.length_cons,Nat.add_right_comm,nX (g:=fun i=>c*b.getD i 0+if i=0 then 0 else cM (fun k=>a.getD k 0*b.getD (i - 1 - k) 0) (i - 1+1)) fun i _=>by
   rw [jJ]
   congr 1
   cases i with
   | zero=>rfl
   | succ i =>
    rw [if_neg qN]
    exact bI fun k _=>by rw [List.getD_cons_succ,show i+1 - (k+1)=i+1 - 1 - k by omega],
   mG,ev_lst_mul,iJ (a.length+b.length) (fun i=>if i=0 then 0 else cM (fun k=>a.getD k 0*b.getD (i - 1 - k) 0) (i - 1+1)),
   nX (f:=fun i=>if i+1=0 then 0 else cM (fun k=>a.getD k 0*b.getD (i+1 - 1 - k) 0) (i+1 - 1+1)) (g:=fun i=>cM (fun k=>a.getD k 0*b.getD (i - k) 0) (i+1)) fun i _=>by rw [if_neg qN]; rfl,
   ih,wL qN]
  simp only [pev]
  rw [if_pos trivial]
  grind
def gcl (G H:List (List Int)):List (List Int):=(List.range (G.length+H.length)).map fun i=>pco G H i (i+1)
theorem gcl_mu (G H:List (List Int)):gn (gcl G H)=gmu G H:=(gn_gn _).ev_ext (gmu_gn _ _) fun x y=>by
 rw [gev_gn,gev_gmu]
 have e:∀ G:List (List Int),gev G x y=pev (G.map fun r=>pev r y) x:=fun G=>dL _ _
 rw [e,e,e,← conv_all]
 unfold gcl
 rw [List.map_map,List.length_map,List.length_map]
 congr 1
 refine List.map_congr_left fun i _=>?_
 show pev (pco G H i (i+1)) y=_
 rw [pco_ev]
 have g:∀ (G:List (List Int)) k,(G.map fun r=>pev r y).getD k 0=pev (G.getD k []) y:=fun G k=>by
  by_cases h:k<G.length
  ·simp [gE,h]
  ·rw [cW (l:=G.map fun r=>pev r y) (by rw [List.length_map]; omega),cW (l:=G) qN]; rfl
 exact bI fun k _=>by rw [g,g]
def shp (d n:Nat):List (Nat×Nat):=(List.range (n+1)).flatMap fun j=>(List.range (d*(n - j)+1)).map fun i=>(i,j)
theorem uT {d n u v:Nat}:(u,v)∈shp d n↔v≤n∧u≤d*(n - v):=by
 unfold shp
 simp only [List.mem_flatMap,List.mem_range,List.mem_map,Prod.mk.injEq]
 constructor
 ·rintro ⟨j,hj,i,hi,rfl,rfl⟩; exact ⟨by omega,by omega⟩
 ·rintro ⟨h1,h2⟩; exact ⟨v,by omega,u,by omega,rfl,rfl⟩
theorem shp_nodup (d n:Nat):(shp d n).Nodup:=by
 unfold shp
 generalize n+1=m
 induction m with
 | zero=>simp
 | succ m ih =>
  rw [List.range_succ,List.flatMap_append]
  refine List.nodup_append.2 ⟨ih,?_,fun a ha b hb=>?_⟩
  ·simp only [List.flatMap_cons,List.flatMap_nil,List.append_nil]
   refine List.Pairwise.map _ (fun a b h=>?_) List.nodup_range
   intro e
   exact h (Prod.mk.inj e).1
  ·simp only [List.mem_flatMap,List.mem_range,List.mem_map] at ha
   simp only [List.flatMap_cons,List.flatMap_nil,List.append_nil,List.mem_map] at hb
   obtain ⟨j,hj,i,_,rfl⟩:=ha
   obtain ⟨i',_,rfl⟩:=hb
   intro e
   have:=(Prod.mk.inj e).2
   omega
def supp (d w:Nat) (G:List (List Int)):Prop:=∀ u v,gv G u v≠0→u+d*v≤w
theorem supp_dg {d w:Nat} {G:List (List Int)} (h:supp d w G) {u:Nat} (h0:0<dg (G.getD u [])):u+d*(dg (G.getD u []) - 1)≤w :=
 h u _ (nY h0)
theorem co_lt {l:List Int} {j:Nat} (h:l.getD j 0≠0):j<dg l:=Nat.not_le.1 fun g=>h (jK.1 g j (Nat.le_refl _))
theorem supp_mul {d w w':Nat} {G H:List (List Int)} (hG:supp d w G) (hH:supp d w' H):supp d (w+w') (gmu G H):=by
 have key:∀ i k j,k≤i+1→(pco G H i k).getD j 0≠0→i+d*j≤w+w':=fun i k=>by
  induction k with
  | zero=>intro j _ h; simp [pco] at h
  | succ k ih =>
   intro j hk h
   rw [pco,mT] at h
   by_cases h1:(pco G H i k).getD j 0=0
   ·rw [h1,Int.zero_add] at h
    have hj:=co_lt h
    have ea:dg (nrm (G.getD k []))=dg (G.getD k []):=dg_ext fun x=>dL _ x
    have eb:dg (nrm (H.getD (i - k) []))=dg (H.getD (i - k) []):=dg_ext fun x=>dL _ x
    have hab:0<dg (nrm (G.getD k []))∧0<dg (nrm (H.getD (i - k) [])):=by
     refine Classical.byContradiction fun hn=>?_
     have hz:=(cT (l:=pmul (nrm (G.getD k [])) (nrm (H.getD (i - k) [])))).2 fun x=>by
      rw [bN]
      by_cases g:dg (nrm (G.getD k []))=0
      ·rw [cT.1 g]; simp
      ·rw [cT.1 (show dg (nrm (H.getD (i - k) []))=0 by omega)]; simp
     omega
    have hd:=(vB hab.1 hab.2).1
    have s1:=supp_dg hG (u:=k) qN
    have s2:=supp_dg hH (u:=i - k) qN
    rw [ea,eb] at hd
    have e1:d*j≤d*(dg (G.getD k []) - 1)+d*(dg (H.getD (i - k) []) - 1):=by
     rw [← Nat.mul_add]
     exact Nat.mul_le_mul_left _ qN
    omega
   ·exact ih j qN h1
 intro u v h
 rw [← gcl_mu,gn_gv] at h
 unfold gv gcl at h
 by_cases hu:u<G.length+H.length
 ·have e:((List.range (G.length+H.length)).map fun i=>pco G H i (i+1)).getD u []=pco G H u (u+1):=by simp [gE,hu]
  rw [e] at h
  exact key u (u+1) v qN h
 ·rw [cW (l:=(List.range (G.length+H.length)).map fun i=>pco G H i (i+1)) (by simp; omega)] at h
  simp at h
def j9 (p:List Int):List (List Int):=match p with
 | []=>[]
 | c::l=>[c, -1]::l.map fun c=>[c]
def tH (c:Int) (i:Nat):List (List Int):=List.replicate i []++[[c]]
def gpw (L G:List (List Int)):Nat→List (List Int)
 | 0=>G
 | j+1=>gmu (gpw L G j) L
theorem gone_supp (d:Nat) (c:Int) (i:Nat):supp d i (tH c i):=fun u v h=>by
 unfold gv tH at h
 by_cases hu:u<i
 ·have:(List.replicate i ([]:List Int)++[[c]]).getD u []=[]:=by
   rw [gE,List.getElem?_append_left (by simpa using hu)]; simp [hu]
  rw [this] at h; simp at h
 ·have e:(List.replicate i ([]:List Int)++[[c]]).getD u []=[[c]].getD (u - i) []:=by
   rw [gE,List.getElem?_append_right (by simp; omega),List.length_replicate,← gE]
  rw [e] at h
  by_cases hu2:u - i=0
  ·rw [hu2] at h
   have hv:v=0:=by
    cases v with
    | zero=>rfl
    | succ v=>simp at h
   subst hv
   omega
  ·rw [cW (l:=[[c]]) (by simp; omega)] at h
   simp at h
theorem gless_supp {d:Nat} {p:List Int} (hp:p.length≤d+1):supp d d (j9 p):=fun u v h=>by
 cases p with
 | nil=>simp [gv,j9] at h
 | cons c l =>
  simp only [List.length_cons] at hp
  cases u with
  | zero =>
   have:v≤1:=by
    refine Nat.not_lt.1 fun g=>?_
    obtain ⟨t,rfl⟩:∃ t,v=t+2:=⟨v - 2,by omega⟩
    simp [gv,j9] at h
   have:=Nat.mul_le_mul_left d this
   omega
  | succ u =>
   by_cases hu:u<l.length
   ·have e:(j9 (c::l)).getD (u+1) []=[l.getD u 0]:=by simp [j9,gE,hu]
    unfold gv at h
    rw [e] at h
    have hv:v=0:=by
     cases v with
     | zero=>rfl
     | succ v=>simp at h
    subst hv
    omega
   ·have e:(j9 (c::l)).getD (u+1) []=[]:=by simp [j9,gE,hu]
    unfold gv at h
    rw [e] at h
    simp at h
theorem gpw_supp {d w:Nat} {L G:List (List Int)} (hL:supp d d L) (hG:supp d w G):∀ j,supp d (w+d*j) (gpw L G j)
 | 0=>by rw [gpw,Nat.mul_zero,Nat.add_zero]; exact hG
 | j+1=>by
  have:=supp_mul (gpw_supp hL hG j) hL
  rw [show w+d*(j+1)=w+d*j+d by rw [Nat.mul_add]; omega]
  exact this
theorem gpw_shape {d n i j u v:Nat} {p:List Int} {c:Int} (hp:p.length≤d+1) (hi:i≤d*(n - j)) (hj:j≤n) (hd:1≤d) (h:gv (gpw (j9 p) (tH c i) j) u v≠0):(u,v)∈shp d n:=by
 have h1:=gpw_supp (gless_supp hp) (gone_supp d c i) j u v h
 have h2:d*(n - j)+d*j=d*n:=by rw [← Nat.mul_add]; congr 1; omega
 have h3:d*v≤d*n:=by omega
 have h4:v≤n:=Nat.le_of_mul_le_mul_left h3 hd
 refine uT.2 ⟨h4,?_⟩
 have h5:d*(n - v)+d*v=d*n:=by rw [← Nat.mul_add]; congr 1; omega
 omega
theorem gpw_ev (L G:List (List Int)) (x y:Int):∀ j,gev (gpw L G j) x y=gev G x y*gev L x y^j
 | 0=>by simp [gpw]
 | j+1=>by rw [gpw,gev_gmu,gpw_ev L G x y j,Int.pow_succ]; grind
theorem info_arr:(Tryz.prog.info? 70).map (fun i=>(i.zero,i.size,i.bytes))=some (some (.agg #[.int .i64 0,.int .i64 0]),2,16):=by kernel_rfl
instance iCYb1:TArr2 Tryz.prog 70:=⟨⟨_,Tryz.underlying70,Tryz.underlying3,by kernel_rfl,by kernel_rfl,by kernel_rfl⟩,by
 obtain ⟨i,h1,_,_,h4⟩:=l6 info_arr
 exact ⟨i,h1,h4⟩,by kernel_rfl,⟨Tryz.prog.types.size - 1,by kernel_rfl⟩⟩
instance iCYb2:TEl Tryz.prog 70 2 16:=tel info_arr rfl qE
instance tzArr:m4 Tryz.prog 70 (jD 0 0):=uL info_arr fun _ _=>⟨[_],[_],rfl,⟨rfl,rfl⟩,⟨rfl,rfl⟩⟩
instance iCYb3:TSl Tryz.prog 36 70 2:=⟨Tryz.underlying36,by kernel_rfl⟩
instance iCYb4:mJ Tryz.prog 36:=⟨⟨_,Tryz.underlying36,trivial⟩,by kernel_rfl⟩
instance tmZ:TMap Tryz.prog 79 70 3 :=
 ⟨Tryz.underlying79,Maps.Keyed.of_law (deep_law_laid (m:=3) qK qE (Nat.le_of_ble_eq_true qK) qK qK)⟩
instance iCYb5:mJ Tryz.prog 79:=⟨⟨_,Tryz.underlying79,trivial⟩,by kernel_rfl⟩
theorem info_intz:(Tryz.prog.info? 3).map (fun i=>(i.zero,i.size,i.bytes))=some (some (.int .i64 0),1,8):=by kernel_rfl
instance tvZ:TZeroV Tryz.prog 3 (kD 0):=⟨by
 obtain ⟨i,h1,_,_,h4⟩:=l6 info_intz
 exact ⟨i,_,h1,h4,fun S w=>⟨_,⟨rfl,rfl⟩,rfl⟩⟩⟩
theorem info_plan:(Tryz.prog.info? 81).map (fun i=>(i.zero,i.size,i.bytes))=some (some (.agg #[.slice none 0 0,.map none,.slice none 0 0,.bool false,.slice none 0 0]),5,88):=by kernel_rfl
instance iCYb6:TPlan Tryz.prog 81:=⟨⟨_,_,_,_,_,Tryz.underlying81,rfl,rfl,rfl,rfl,rfl,by kernel_rfl,by kernel_rfl,by kernel_rfl,by kernel_rfl⟩,by
 obtain ⟨i,h1,_,_,h4⟩:=l6 info_plan
 exact ⟨i,h1,h4⟩⟩
instance iCYb7:TAgg Tryz.prog 81 5:=⟨⟨_,Tryz.underlying81,rfl⟩,by kernel_rfl⟩
instance iCYb8:tQ Tryz.prog 81 0 0:=⟨_,_,Tryz.underlying81,rfl,rfl,0,by kernel_rfl⟩
instance iCYb9:tQ Tryz.prog 81 1 1:=⟨_,_,Tryz.underlying81,rfl,rfl,0,by kernel_rfl⟩
instance iCYb10:tQ Tryz.prog 81 2 2:=⟨_,_,Tryz.underlying81,rfl,rfl,0,by kernel_rfl⟩
instance iCYb11:tQ Tryz.prog 81 3 3:=⟨_,_,Tryz.underlying81,rfl,rfl,1,by kernel_rfl⟩
def fC:Dat:=tU (.slice none 0 0) (.map none) (.slice none 0 0) (I false [])
theorem planZ_rd (S:Nat→Prop) (w:World):RdC S w fC [.slice none 0 0,.map none,.slice none 0 0,.bool false,.slice none 0 0] :=
 ⟨[_],[_,_,.bool false,.slice none 0 0],rfl,⟨rfl,rfl⟩,[_],[_,.bool false,.slice none 0 0],rfl,⟨rfl,rfl⟩,[_],[.bool false,.slice none 0 0],rfl,⟨rfl,rfl⟩,[.bool false],[.slice none 0 0],rfl,eJ S w,gM S w 1 _⟩
instance tzPlan:m4 Tryz.prog 81 fC:=uL info_plan fun S w=>planZ_rd S w
theorem Reads.planZ {os:List Own} {fs:List bD}:Reads os fs planZ fC:=fun G w _=>⟨_,planZ_rd _ w,rfl⟩
def spE (p:Nat×Nat):Dat:=jD (p.1:Nat) (p.2:Nat)
def ShD (s:List (Nat×Nat)):Dat:=LD 2 spE (0,0) s
theorem load_Sh (s:List (Nat×Nat)):jC Tryz.prog 36 (ShD s):=(inferInstance:mJ Tryz.prog 36)
theorem load_sp (p:Nat×Nat):jC Tryz.prog 70 (spE p):=(inferInstance:TAgg Tryz.prog 70 2)
def shN (d n m:Nat):List (Nat×Nat):=(List.range m).flatMap fun j=>(List.range (d*(n - j)+1)).map fun i=>(i,j)
theorem shN_succ (d n m:Nat):shN d n (m+1)=shN d n m++(List.range (d*(n - m)+1)).map fun i=>(i,m):=by
 unfold shN; rw [List.range_succ,List.flatMap_append]; simp
theorem shN_len {d n:Nat} (hd:d≤24) (hn:n≤24):∀ m,(shN d n m).length≤m*577
 | 0=>by simp [shN]
 | m+1=>by
  rw [shN_succ,List.length_append,List.length_map,List.length_range,Nat.succ_mul]
  have h1:=shN_len hd hn m
  have h2:d*(n - m)≤24*24:=Nat.mul_le_mul hd qN
  omega
def shpR (d n:Int):List (Nat×Nat)×Int:=if d<1∨n<1∨24≤d∨24≤n∨24<(shp d.toNat n.toNat).length then ([],1) else (shp d.toNat n.toNat,0)
theorem lY (d n:Int) (hd:inK .i64 d) (hn:inK .i64 n) :
  Meets Tryz.prog 15 [.int .i64 d,.int .i64 n] [] (fun r os fs=>os=[]∧∃ q,r=.tuple #[q,.int .i64 (shpR d n).2]∧fs=[(q,ShD (shpR d n).1)]):=by
 have bad:(d<1∨n<1∨24≤d∨24≤n∨24<(shp d.toNat n.toNat).length)→shpR d n=([],1):=fun h=>if_pos h
 have knil:∀ os fs,Knw os fs (.slice none 0 0) (ShD []):=fun os fs=>dM 2 _
 refine mV Tryz.func15 ?_
 refine aD _ rfl (fun h1=>?_) (fun h1=>?_)
 ·rw [bad (.inl h1)]
  exact fin ⟨rfl,_,rfl,rfl⟩ (a7 (knil _ _) (aH _ _))
 refine aD _ rfl (fun h2=>?_) (fun h2=>?_)
 ·rw [bad (.inr (.inl h2))]
  exact fin ⟨rfl,_,rfl,rfl⟩ (a7 (knil _ _) (aH _ _))
 refine aD _ rfl (fun h3=>?_) (fun h3=>?_)
 ·rw [bad (.inr (.inr (.inl h3)))]
  exact fin ⟨rfl,_,rfl,rfl⟩ (a7 (knil _ _) (aH _ _))
 refine aD _ rfl (fun h4=>?_) (fun h4=>?_)
 ·rw [bad (.inr (.inr (.inr (.inl h4))))]
  exact fin ⟨rfl,_,rfl,rfl⟩ (a7 (knil _ _) (aH _ _))
 obtain ⟨d,rfl⟩:∃ k:Nat,d=(k:Int):=⟨d.toNat,by omega⟩
 obtain ⟨n,rfl⟩:∃ k:Nat,n=(k:Int):=⟨n.toNat,by omega⟩
 have hd1:1≤d∧d<24:=by omega
 have hn1:1≤n∧n<24:=by omega
 clear h1 h2 h3 h4 hd hn
 refine ar rfl qI ?_
 refine aO (X:=Nat×Value) (fun x=>([(0,.int .i64 (d:Int)),(1,.int .i64 (n:Int)),(6,x.2),(24,.int .i64 ((n:Int)+1)),(25,.int .i64 (x.1:Nat))],[jY 2 spE (0,0) x.2 (shN d n x.1)],[]))
  (fun x=>x.1≤n+1∧isSl x.2) (fun x=>n+1 - x.1) rfl ?_ ?_
 ·exact aU (0,.slice none 0 0) ⟨Nat.zero_le _,fZ⟩ trivial qF (aA (cB _ _ 2 fun i=>spE (([]:List (Nat×Nat)).getD i (0,0))) (aB qS))
 rintro ⟨j,vo⟩ ⟨hj,hvo⟩
 simp only at hj hvo ⊢
 have hlen:=shN_len (d:=d) (n:=n) qN qN j
 refine aD _ rfl (fun hlt=>?_) (fun hlt=>?_)
 ·have hjn:j≤n:=by omega
  obtain ⟨e,rfl⟩:∃ e,n=j+e:=⟨n - j,by omega⟩
  have hde:d*e≤24*24:=Nat.mul_le_mul qN qN
  have hdi:((d:Int)*((j+e:Nat) - (j:Nat):Int))=((d*e:Nat):Int):=by
   rw [show ((j+e:Nat) - (j:Nat):Int)=(e:Nat) by omega]; exact (Int.natCast_mul d e).symm
  have hsucc:=shN_succ d (j+e) j
  rw [show j+e - j=e by omega] at hsucc
  refine ar rfl qI ?_
  refine ar rfl (by rw [hdi]; exact qI) ?_
  rw [hdi]
  refine ar rfl qI ?_
  generalize shN d (j+e) j=T at *
  refine aO (X:=Nat×Value) (fun x=>([(0,.int .i64 (d:Int)),(1,.int .i64 ((j+e:Nat):Int)),(6,x.2),(7,.int .i64 (j:Nat)),(24,.int .i64 (((j+e:Nat):Int)+1)),(25,.int .i64 (j:Nat)),(33,.int .i64 (((d*e:Nat):Int)+1)),(34,.int .i64 (x.1:Nat))],[jY 2 spE (0,0) x.2 (T++(List.range x.1).map fun i=>(i,j))],[]))
   (fun x=>x.1≤d*e+1∧isSl x.2) (fun x=>d*e+1 - x.1) rfl ?_ ?_
  ·refine aU (0,vo) ⟨Nat.zero_le _,hvo⟩ trivial qF ?_
   simp only [List.range_zero,List.map_nil,List.append_nil]
   exact aB qS
  rintro ⟨i,vi⟩ ⟨hi,hvi⟩
  simp only at hi hvi ⊢
  refine aD _ rfl (fun hlt2=>?_) (fun hlt2=>?_)
  ·refine mI ?_
   refine mE (size:=2) spE (0,0) (i,j) qE (Reads.spot _ _) rfl fun l1=>?_
   refine gX 0 rfl hvi (bC qM) (by simp; omega) (by simp; omega) fun u2 hu2=>?_
   refine ar rfl qI ?_
   refine aU (i+1,u2) ⟨by simp only; omega,hu2⟩ (by simp only; omega) qF ?_
   simp only [List.range_succ,List.map_append,List.map_cons,List.map_nil,← List.append_assoc]
   exact aB qS
  ·have hie:i=d*e+1:=by omega
   subst hie
   refine ar rfl qI ?_
   refine aU (j+1,vi) ⟨by simp only; omega,hvi⟩ (by simp only; omega) qF ?_
   simp only [hsucc]
   exact aB qS
 ·have hjn:j=n+1:=by omega
  subst hjn
  have hs:shN d n (n+1)=shp d n:=rfl
  rw [hs] at hlen ⊢
  refine cS 0 rfl hvo fun _=>?_
  refine aD _ rfl (fun hbig=>?_) (fun hbig=>?_)
  ·rw [bad (.inr (.inr (.inr (.inr (by rw [Int.toNat_natCast,Int.toNat_natCast]; omega)))))]
   exact fin ⟨rfl,_,rfl,rfl⟩ (dS (a7 (knil _ _) (aH _ _)))
  ·have e:shpR (d:Nat) (n:Nat)=(shp d n,0):=by
    unfold shpR
    rw [if_neg (by rw [Int.toNat_natCast,Int.toNat_natCast]; omega),Int.toNat_natCast,Int.toNat_natCast]
   rw [e]
   exact fin ⟨rfl,vo,rfl,rfl⟩ (aA (Seals.L 0 rfl hvo) (aB qS))
def oR (x:Bool×List Nat):Bool×List Nat:=if jv x=0 then cn 1 else x
theorem jv_lstJ (x:Bool×List Nat):jv (oR x)=fP (jv x):=by
 unfold oR fP; split
 ·exact eR 1
 ·rfl
theorem t8 {x:Bool×List Nat} {a:Nat} (h:Lim x.2) (ha:x.2.length≤a):Lim (oR x).2∧(oR x).2.length≤a+1:=by
 unfold oR; split
 ·exact ⟨a0 _,Nat.le_trans (jS 1 qE).len qN⟩
 ·exact ⟨h,by omega⟩
def jE (T Y:Int) (p:Nat×Nat):Int:=T^p.1*Y^p.2
def cmap (s:List (Nat×Nat)) (m:Nat):List (Nat×Nat×Nat):=(List.range m).map fun k=>((s.getD k (0,0)).1,(s.getD k (0,0)).2,k)
theorem cmap_len (s:List (Nat×Nat)) (m:Nat):(cmap s m).length=m:=by simp [cmap]
theorem cmap_succ (s:List (Nat×Nat)) (m:Nat):cmap s (m+1)=cmap s m++[((s.getD m (0,0)).1,(s.getD m (0,0)).2,m)]:=by simp [cmap,List.range_succ]
theorem cmap_get (s:List (Nat×Nat)) {m k:Nat} (h:k<m):(cmap s m).getD k (0,0,0)=((s.getD k (0,0)).1,(s.getD k (0,0)).2,k):=by simp [cmap,gE,h]
theorem nd_get {s:List (Nat×Nat)} (h:s.Nodup) {i j:Nat} (hi:i<s.length) (hj:j<s.length) (e:s.getD i (0,0)=s.getD j (0,0)):i=j:=by
 simp only [gE,List.getElem?_eq_getElem hi,List.getElem?_eq_getElem hj,Option.getD_some] at e
 exact (List.getElem_inj h).1 e
theorem cmap_nd {s:List (Nat×Nat)} (h:s.Nodup) {m:Nat} (hm:m≤s.length):Nd (cmap s m):=by
 induction m with
 | zero=>exact List.Pairwise.nil
 | succ m ih =>
  rw [cmap_succ]
  refine List.pairwise_append.2 ⟨ih qN,List.pairwise_singleton _ _,fun a ha b hb e=>?_⟩
  simp only [List.mem_singleton] at hb
  subst hb
  obtain ⟨k,hk,rfl⟩:=List.mem_map.1 ha
  have hk':=List.mem_range.1 hk
  have:=nd_get h (i:=k) (j:=m) qN qN (Prod.ext e.1 e.2)
  omega
theorem cmap_in {s:List (Nat×Nat)} (h:∀ p,p∈s→p.1≤1000∧p.2≤1000) {m:Nat} (hm:m≤s.length):In64 (cmap s m):=fun t ht=>by
 obtain ⟨k,hk,rfl⟩:=List.mem_map.1 ht
 have hk':=List.mem_range.1 hk
 have:=h _ (dT (0,0) (show k<s.length by omega))
 simp only; omega
def jH (s:List (Nat×Nat)) (T Y M:Int):Dat:=.cat (ShD s) (.cat (MD kD 0 (cmap s s.length)) (.cat (vd (s.map (jE T Y))) (zd M)))
theorem qW (s:List (Nat×Nat)) (T Y M:Int):jC Tryz.prog 81 (jH s T Y M):=(inferInstance:TAgg Tryz.prog 81 5)
def sT (P:List Int) (m t y n:Int):Prop:=(shpR ((dg P:Nat) - 1:Int) n).2=0∧1≤m∧0≤t∧0≤y
instance (P:List Int) (m t y n:Int):Decidable (sT P m t y n):=inferInstanceAs (Decidable (_∧_))
def planR (P:List Int) (m t y n:Int):Dat×Int :=
 if sT P m t y n then (jH (shp (dg P - 1) n.toNat) (fP t) (fP y) (m^n.toNat),0) else (fC,1)
theorem shpR_ok {d n:Int} (h:(shpR d n).2=0):1≤d∧d<24∧1≤n∧n<24∧(shp d.toNat n.toNat).length≤24∧(shpR d n).1=shp d.toNat n.toNat:=by
 unfold shpR at h ⊢
 split at h
 ·simp at h
 ·rename_i hb
  rw [if_neg hb]
  exact ⟨by omega,by omega,by omega,by omega,by omega,rfl⟩
theorem shp_small {d n:Nat} (hd:d<24) (hn:n<24):∀ p,p∈shp d n→p.1≤1000∧p.2≤1000:=fun p hp=>by
 obtain ⟨u,v⟩:=p
 have:=uT.1 hp
 have h1:d*(n - v)≤23*23:=Nat.mul_le_mul qN qN
 simp only; omega
theorem Seals.boxAt {os:List Own} {fs:List bD} {p:Value} {size:Nat} {e:Nat→Dat} {d:Dat} (pos:Nat) (hn:a8 os pos=some (bE p size 1 e)) (h:e 0=d):Seals os fs (setOwn os pos (bE p size 1 fun _=>d)) fs :=
 Seals.own_cong pos (fun _=>d) hn rfl (fun i hi=>by
                             obtain rfl:i=0:=by omega
                             exact h) (.inr Nat.zero_lt_one)
theorem m8 (v w u z:Value) (p:Row) (m t y:Bool×List Nat) (n:Int) (k a:Nat) (hp:Fit k p) (lp:p.length≤1000) (hk:k≤137438953472) (hm:Lim m.2) (hma:m.2.length≤a) (ht:Lim t.2) (hta:t.2.length≤a) (hy:Lim y.2) (hya:y.2.length≤a) (ha:a≤10000) (hn:inK .i64 n) :
  Meets Tryz.prog 54 [v,w,u,z,.int .i64 n] [(v,V p),(w,J m),(u,J t),(z,J y)] (fun r os fs=>os=[]∧∃ q,r=.tuple #[q,.int .i64 (planR (vv p) (jv m) (jv t) (jv y) n).2]∧fs=[(q,(planR (vv p) (jv m) (jv t) (jv y) n).1)]):=by
 have hsm:∀ z,Meets Tryz.prog 51 [z] [(z,J m)] (fun r os fs=>os=[]∧fs=[]∧r=.int .i64 (jv m).sign):=fun z=>cY z m.1 m.2 hm qN
 have hst:∀ z,Meets Tryz.prog 51 [z] [(z,J t)] (fun r os fs=>os=[]∧fs=[]∧r=.int .i64 (jv t).sign):=fun z=>cY z t.1 t.2 ht qN
 have hsy:∀ z,Meets Tryz.prog 51 [z] [(z,J y)] (fun r os fs=>os=[]∧fs=[]∧r=.int .i64 (jv y).sign):=fun z=>cY z y.1 y.2 hy qN
 have hdl:dg (vv p)≤1000:=by have:=dY (vv p); rw [cV] at this; omega
 have hdd:=tY v p (hp.mono hk)
 have hmm:(jv m).sign<1↔jv m<1:=by
  rcases Int.lt_trichotomy (jv m) 0 with g | g | g
  ·rw [eO g]; omega
  ·rw [g]; simp
  ·rw [eN g]; omega
 have hshp:=lY ((dg (vv p):Nat) - 1:Int) n (by simp only [inK]; omega) hn
 have zt:=t8 ht hta
 have zy:=t8 hy hya
 by_cases hok:sT (vv p) (jv m) (jv t) (jv y) n
 case neg =>
  refine mV Tryz.func54 ?_
  refine bA (aC (d:=J m) qM) fun b1 h1=>?_
  refine bA (aC (d:=J t) qM) fun b2 h2=>?_
  refine bA (aC (d:=J y) qM) fun b3 h3=>?_
  refine aM (d:=fC) fun o ho=>?_
  refine cH hdd ?_
  refine cF hshp ?_
  rintro _ _ _ ⟨rfl,q,rfl,rfl⟩
  refine aD _ rfl (fun g1=>?_) (fun g1=>?_)
  ·
   rw [show planR (vv p) (jv m) (jv t) (jv y) n=(fC,1) from if_neg hok]
   refine mW ?_
   refine aI (d:=fC) 0 rfl ho rfl qK Reads.planZ ?_
   refine aF (d:=fC) 0 rfl ho rfl (show TAgg Tryz.prog 81 5 from inferInstance) fun r=>?_
   exact fin ⟨rfl,_,rfl,rfl⟩ (dS (dS (dS (dS (aB (fs':=[(r,fC)]) qS)))))
  refine aF (d:=J m) 3 rfl h1 rfl (bM _) fun y1=>?_
  refine cH (hsm y1) ?_
  refine aD _ rfl (fun g2=>?_) (fun g2=>?_)
  ·
   rw [show planR (vv p) (jv m) (jv t) (jv y) n=(fC,1) from if_neg hok]
   refine mW ?_
   refine aI (d:=fC) 0 rfl ho rfl qK Reads.planZ ?_
   refine aF (d:=fC) 0 rfl ho rfl (show TAgg Tryz.prog 81 5 from inferInstance) fun r=>?_
   exact fin ⟨rfl,_,rfl,rfl⟩ (dS (dS (dS (dS (aB (fs':=[(r,fC)]) qS)))))
  refine aF (d:=J t) 2 rfl h2 rfl (bM _) fun y1=>?_
  refine cH (hst y1) ?_
  refine aD _ rfl (fun g3=>?_) (fun g3=>?_)
  ·
   rw [show planR (vv p) (jv m) (jv t) (jv y) n=(fC,1) from if_neg hok]
   refine mW ?_
   refine aI (d:=fC) 0 rfl ho rfl qK Reads.planZ ?_
   refine aF (d:=fC) 0 rfl ho rfl (show TAgg Tryz.prog 81 5 from inferInstance) fun r=>?_
   exact fin ⟨rfl,_,rfl,rfl⟩ (dS (dS (dS (dS (aB (fs':=[(r,fC)]) qS)))))
  refine aF (d:=J y) 1 rfl h3 rfl (bM _) fun y1=>?_
  refine cH (hsy y1) ?_
  refine aD _ rfl (fun g4=>?_) (fun g4=>?_)
  ·
   rw [show planR (vv p) (jv m) (jv t) (jv y) n=(fC,1) from if_neg hok]
   refine mW ?_
   refine aI (d:=fC) 0 rfl ho rfl qK Reads.planZ ?_
   refine aF (d:=fC) 0 rfl ho rfl (show TAgg Tryz.prog 81 5 from inferInstance) fun r=>?_
   exact fin ⟨rfl,_,rfl,rfl⟩ (dS (dS (dS (dS (aB (fs':=[(r,fC)]) qS)))))
  exact absurd ⟨by omega,Int.not_lt.1 fun h=>g2 (hmm.2 h),Int.not_lt.1 fun h=>g3 (kG.2 h),Int.not_lt.1 fun h=>g4 (kG.2 h)⟩ hok
 rw [show planR (vv p) (jv m) (jv t) (jv y) n=(jH (shp (dg (vv p) - 1) n.toNat) (fP (jv t)) (fP (jv y)) (jv m^n.toNat),0) from if_pos hok]
 obtain ⟨k1,k2,k3,k4⟩:=hok
 obtain ⟨j1,j2,j3,j4,j5,j6⟩:=shpR_ok k1
 obtain ⟨n,rfl⟩:∃ k:Nat,n=(k:Int):=⟨n.toNat,by omega⟩
 rw [Int.toNat_natCast] at *
 rw [show (((dg (vv p):Nat) - 1:Int)).toNat=dg (vv p) - 1 by omega] at j5 j6
 rw [k1,j6] at hshp
 have hsn:=shp_nodup (dg (vv p) - 1) n
 have hsb:=shp_small (d:=dg (vv p) - 1) (n:=n) qN qN
 generalize shp (dg (vv p) - 1) n=s at *
 have hpm:=fun y1=>jN y1 m n a hm hma qN qN
 rw [← jv_lstJ,← jv_lstJ]
 refine meets_cut (Y:=Value×Value×Value×Value×Value×Value) 7
  (fun x=>([(7,x.1),(8,x.2.1),(10,x.2.2.1),(12,x.2.2.2.1),(14,x.2.2.2.2.1)],[bE x.2.2.2.2.1 5 1 (fun _=>tU x.2.2.2.1 x.2.2.2.2.2 (.slice none 0 0) (zd (jv m^n))),mC kD 0 x.2.2.2.2.2 [],bE x.2.2.1 5 1 (fun _=>fC),bE x.2.1 2 1 (fun _=>J (oR y)),bE x.1 2 1 (fun _=>J (oR t))],[(x.2.2.2.1,ShD s)]))
  (fun x=>l5 x.1∧l5 x.2.1∧l5 x.2.2.1∧l5 x.2.2.2.2.1∧∃ r,x.2.2.2.2.2=.map (some r))
  Tryz.func54 qK rfl qK (Nat.le_of_ble_eq_true rfl) ?_ ?_
 ·dsimp only [takeC]
  refine bA (aC (d:=J m) qM) fun b1 h1=>?_
  refine bA (aC (d:=J t) qM) fun b2 h2=>?_
  refine bA (aC (d:=J y) qM) fun b3 h3=>?_
  refine aM (d:=fC) fun o ho=>?_
  refine cH hdd ?_
  refine cF hshp ?_
  rintro _ _ _ ⟨rfl,q,rfl,rfl⟩
  refine cX rfl qE ?_
  refine aF (d:=J m) 3 rfl h1 rfl (bM _) fun y1=>?_
  refine cH (hsm y1) ?_
  refine cX rfl (fun h=>by have:=hmm.1 h; omega) ?_
  refine aF (d:=J t) 2 rfl h2 rfl (bM _) fun y1=>?_
  refine cH (hst y1) ?_
  refine cX rfl (fun h=>by have:=kG.1 h; omega) ?_
  refine aF (d:=J y) 1 rfl h3 rfl (bM _) fun y1=>?_
  refine cH (hsy y1) ?_
  refine cX rfl (fun h=>by have:=kG.1 h; omega) ?_
  refine make_L kD 0 fun mv hmv=>?_
  refine aF (d:=J m) 4 rfl h1 rfl (bM _) fun y2=>?_
  refine cG (hpm y2) fun y3=>?_
  refine build_plan (x:=q) (i:=y3) (d1:=.one (.bool (cn (jv m^n)).1)) (d2:=U (cn (jv m^n)).2) qM hmv qM rfl fun vp=>?_
  refine aM (d:=fC) fun bp hbp=>?_
  refine aI (d:=tU q mv (.slice none 0 0) (zd (jv m^n))) 0 rfl hbp rfl qK (aC qM) ?_
  refine cG (dN 1 qE qE) fun y4=>?_
  refine aM (d:=I false []) fun c hc=>?_
  refine aI (d:=zd 1) 0 rfl hc rfl qK (aC (v:=y4) qM) ?_
  refine aF (d:=J t) 5 rfl h2 rfl (bM _) fun y6=>?_
  refine cH (hst y6) ?_
  by_cases e1:jv t=0
  ·refine dI rfl (by rw [e1]; rfl) ?_
   refine aF (d:=zd 1) 0 rfl hc rfl (aN _ _) fun y5=>?_
   refine aI (d:=zd 1) 5 rfl h2 rfl qK (aC (d:=zd 1) qM) ?_
   refine aF (d:=J y) 4 rfl h3 rfl (bM _) fun y4=>?_
   refine cH (hsy y4) ?_
   by_cases e2:jv y=0
   ·refine dI rfl (by rw [e2]; rfl) ?_
    refine aF (d:=zd 1) 0 rfl hc rfl (aN _ _) fun y5=>?_
    refine aI (d:=zd 1) 4 rfl h3 rfl qK (aC (d:=zd 1) qM) ?_
    refine aU (b2,b3,o,q,bp,mv) ⟨h2,h3,ho,hbp,hmv⟩ trivial qF ?_
    refine dS (aA (aW 5 _ _) (aA (aB (fs':=[(q,ShD s)]) qS) ?_))
    rw [show oR t=cn 1 from if_pos e1,show oR y=cn 1 from if_pos e2]
    exact aA (Seals.boxAt 0 rfl rfl) (aA (Seals.boxAt 3 rfl rfl) (Seals.boxAt 4 rfl rfl))
   ·refine cX rfl (fun h=>e2 (Int.sign_eq_zero_iff_zero.1 h)) ?_
    refine aU (b2,b3,o,q,bp,mv) ⟨h2,h3,ho,hbp,hmv⟩ trivial qF ?_
    refine dS (aA (aW 5 _ _) (aA (aB (fs':=[(q,ShD s)]) qS) ?_))
    rw [show oR t=cn 1 from if_pos e1,show oR y=y from if_neg e2]
    exact aA (Seals.boxAt 0 rfl rfl) (aA (Seals.boxAt 3 rfl rfl) (Seals.boxAt 4 rfl rfl))
  ·refine cX rfl (fun h=>e1 (Int.sign_eq_zero_iff_zero.1 h)) ?_
   refine aF (d:=J y) 4 rfl h3 rfl (bM _) fun y4=>?_
   refine cH (hsy y4) ?_
   by_cases e2:jv y=0
   ·refine dI rfl (by rw [e2]; rfl) ?_
    refine aF (d:=zd 1) 0 rfl hc rfl (aN _ _) fun y5=>?_
    refine aI (d:=zd 1) 4 rfl h3 rfl qK (aC (d:=zd 1) qM) ?_
    refine aU (b2,b3,o,q,bp,mv) ⟨h2,h3,ho,hbp,hmv⟩ trivial qF ?_
    refine dS (aA (aW 5 _ _) (aA (aB (fs':=[(q,ShD s)]) qS) ?_))
    rw [show oR t=t from if_neg e1,show oR y=cn 1 from if_pos e2]
    exact aA (Seals.boxAt 0 rfl rfl) (aA (Seals.boxAt 3 rfl rfl) (Seals.boxAt 4 rfl rfl))
   ·refine cX rfl (fun h=>e2 (Int.sign_eq_zero_iff_zero.1 h)) ?_
    refine aU (b2,b3,o,q,bp,mv) ⟨h2,h3,ho,hbp,hmv⟩ trivial qF ?_
    refine dS (aA (aW 5 _ _) (aA (aB (fs':=[(q,ShD s)]) qS) ?_))
    rw [show oR t=t from if_neg e1,show oR y=y from if_neg e2]
    exact aA (Seals.boxAt 0 rfl rfl) (aA (Seals.boxAt 3 rfl rfl) (Seals.boxAt 4 rfl rfl))
 rintro ⟨b2,b3,o,q,bp,mv⟩ ⟨h2,h3,ho,hbp,hmv⟩
 simp only at h2 h3 ho hbp hmv ⊢
 have hpt:=fun (i:Nat) (hi:i≤1000) y1=>jN y1 (oR t) i (a+1) zt.1 zt.2 hi qN
 have hpy:=fun (i:Nat) (hi:i≤1000) y1=>jN y1 (oR y) i (a+1) zy.1 zy.2 hi qN
 have st:∀ i,i≤1000→sz (jv (oR t)^i) (1000*(a+1)+1):=fun i hi=>(lP (gY zt.1 zt.2) i).mono (Nat.succ_le_succ (Nat.mul_le_mul_right _ hi))
 have sy:∀ i,i≤1000→sz (jv (oR y)^i) (1000*(a+1)+1):=fun i hi=>(lP (gY zy.1 zy.2) i).mono (Nat.succ_le_succ (Nat.mul_le_mul_right _ hi))
 have hmu:=fun (i j:Nat) (hi:i≤1000) (hj:j≤1000) y1 y2=>fQ y1 y2 _ _ _ _ (st i hi) (sy j hj) qN qN
 clear hpm st sy hshp hdd hsm hst hsy zt zy
 generalize oR t=T at *
 generalize oR y=Y at *
 generalize jv m^n=M at *
 refine aT qM fun _=>?_
 refine aO (X:=Nat×Value) (fun x=>([(7,b2),(8,b3),(10,o),(14,bp),(58,q),(59,.int .i64 (s.length:Nat)),(60,.int .i64 (x.1:Nat))],
   [jY 2 J z0 x.2 (((s.take x.1).map (jE (jv T) (jv Y))).map cn),bE bp 5 1 (fun _=>tU q mv x.2 (zd M)),mC kD 0 mv (cmap s x.1),bE o 5 1 (fun _=>fC),bE b3 2 1 (fun _=>J Y),bE b2 2 1 (fun _=>J T)],[(q,ShD s)]))
  (fun x=>x.1≤s.length∧isSl x.2) (fun x=>s.length - x.1) rfl ?_ ?_
 ·exact aU (0,.slice none 0 0) ⟨Nat.zero_le _,fZ⟩ trivial qF (aA (cB _ _ 2 fun i=>J (([]:Row).getD i z0)) (aB qS))
 rintro ⟨i,sv⟩ ⟨hi,hsv⟩
 simp only at hi hsv ⊢
 refine aD _ rfl (fun hlt=>?_) (fun hlt=>?_)
 ·have his:i<s.length:=by omega
  have hpi:=hsb _ (dT (0,0) his)
  have htk:(s.take (i+1)).map (jE (jv T) (jv Y))=(s.take i).map (jE (jv T) (jv Y))++[jE (jv T) (jv Y) (s.getD i (0,0))]:=by
   rw [List.take_add_one,List.getElem?_eq_getElem his,List.map_append,gE,List.getElem?_eq_getElem his]; rfl
  have hcm:=cmap_succ s i
  have hcl:=cmap_len s i
  have hnd:=cmap_nd hsn hi
  have hin:=cmap_in hsb hi
  have htl:(((s.take i).map (jE (jv T) (jv Y))).map cn).length=i:=by rw [List.length_map,List.length_map,List.length_take]; omega
  have hnew:=mput_newG (L:=cmap s i) (i:=(s.getD i (0,0)).1) (j:=(s.getD i (0,0)).2) (fun x hx e=>by
   obtain ⟨k,hk,rfl⟩:=List.mem_map.1 hx
   have hk':=List.mem_range.1 hk
   have:=nd_get hsn (i:=k) (j:=i) qN his (Prod.ext e.1 e.2)
   omega) i
  refine aQ (v:=q) qM i rfl his fun a1=>?_
  refine aX (d:=spE (s.getD i (0,0))) qM (load_sp _) fun a2=>?_
  have hsc:jE (jv T) (jv Y) (s.getD i (0,0))=jv T^(s.getD i (0,0)).1*jv Y^(s.getD i (0,0)).2:=rfl
  generalize s.getD i (0,0)=pp at *
  obtain ⟨p1,p2⟩:=pp
  simp only at hpi hnew hcm hsc
  refine aM (d:=jD 0 0) fun bq hbq=>?_
  refine aI (d:=jD (p1:Nat) (p2:Nat)) 0 rfl hbq rfl qK (aC (d:=spE (p1,p2)) qM) ?_
  refine aS 2 rfl hbp ?_
  refine aJ 2 rfl (aR (aZ (aK _))) ?_
  refine vO 0 rfl hbq rfl ?_
  refine put_L i 3 rfl hmv hin hnd qN qN (by unfold maxLen; omega) (Knw.one rfl) ?_
  rw [hnew]
  refine aY [0,1,2,3,4,6,7,8,5,9,10,11,12,13,14] [0,1,2,3,4,5,6,7,8,9,10,11,12,13,14] qK qK ?_
  refine aS 2 rfl hbp ?_
  refine aJ 2 rfl (aR (aR (aZ (aK _)))) ?_
  refine aF (d:=J T) 6 rfl h2 rfl (bM _) fun y1=>?_
  refine fA hbq 0 rfl qE ?_
  refine aJ 0 rfl (aZ (aK _)) ?_
  refine aF (d:=J Y) 5 rfl h3 rfl (bM _) fun y2=>?_
  refine fA hbq 1 rfl qE ?_
  refine aJ 0 rfl (aR (aK _)) ?_
  refine cG (hpt p1 hpi.1 y1) fun y3=>?_
  refine cG (hpy p2 hpi.2 y2) fun y4=>?_
  refine cG (hmu p1 p2 hpi.1 hpi.2 y3 y4) fun y5=>?_
  refine mE (size:=2) J z0 (cn (jv T^p1*jv Y^p2)) qE (aC (d:=zd (jv T^p1*jv Y^p2)) qM) rfl fun l1=>?_
  refine gX 1 rfl hsv (bC qM) (by simp only [List.length_cons,List.length_nil]; omega) (by simp only [List.length_cons,List.length_nil]; omega) fun u2 hu2=>?_
  refine aS 2 rfl hbp ?_
  refine rS (d:=.one u2) (d':=tU q mv u2 (zd M)) 2 rfl hbp (Nat.le_of_ble_eq_true rfl) Nat.zero_lt_one qK (bW (by obtain ⟨_,_,_,rfl⟩:=hu2; rfl)) (fun S w cs cs'=>planB_put S w cs cs') ?_
  refine ar rfl qI ?_
  refine aU (i+1,u2) ⟨by simp only; omega,hu2⟩ (by simp only; omega) qF (aA (aW 0 _ _) ?_)
  simp only [htk,hcm,hsc,List.map_append,List.map_cons,List.map_nil]
  exact aB qS
 ·have hil:i=s.length:=by omega
  subst hil
  rw [List.take_length]
  refine aF (d:=tU q mv sv (zd M)) 1 rfl hbp rfl (show TAgg Tryz.prog 81 5 from inferInstance) fun vp=>?_
  refine aI (d:=tU q mv sv (zd M)) 3 rfl ho rfl qK (aC qM) ?_
  refine aF (d:=tU q mv sv (zd M)) 3 rfl ho rfl (show TAgg Tryz.prog 81 5 from inferInstance) fun r=>?_
  refine fin ⟨rfl,r,rfl,rfl⟩ (aA (Seals.L 0 rfl hsv) (aA (Seals.mapL 1 rfl hmv) (dS (dS (dS (aA (aW 0 _ _) ?_))))))
  exact a7 (Knw.plan (x:=q) (m:=mv) (s:=sv) qM qM qM qM rfl rfl rfl) (aH _ _)
theorem cmap_lk {s:List (Nat×Nat)} (h:s.Nodup) {k:Nat} (hk:k<s.length) {u v:Nat} (e:s.getD k (0,0)=(u,v)):lk 0 (cmap s s.length) u v=k:=by
 have hl:=cmap_len s s.length
 rcases lk_some (z:=0) (L:=cmap s s.length) (i:=u) (j:=v) with ⟨n,h1,h2,h3⟩ | ⟨h1,_⟩
 ·rw [hl] at h1
  obtain ⟨e1,e2⟩:=mapK_eq h2
  rw [cmap_get s h1] at e1 e2 h3
  rw [h3]
  exact nd_get h h1 hk (by rw [e]; exact Prod.ext e1 e2)
 ·refine absurd ?_ (h1 k (by rw [hl]; exact hk))
  unfold s9 spk
  rw [cmap_get s hk,e]
theorem mem_idx {s:List (Nat×Nat)} {p:Nat×Nat} (h:p∈s):∃ k,k<s.length∧s.getD k (0,0)=p:=by
 obtain ⟨k,hk,e⟩:=List.mem_iff_getElem.1 h
 exact ⟨k,hk,by rw [gE,List.getElem?_eq_getElem hk]; exact e⟩
def rowV (s:List (Nat×Nat)) (T Y:Int) (G:List (List Int)):List Int:=s.map fun p=>gv G p.1 p.2*jE T Y p
def rE (G:List (List Int)) (T Y:Int) (s:List (Nat×Nat)) (u v k:Nat):Dat :=
 zd (if (s.getD k (0,0)).1<u∨((s.getD k (0,0)).1=u∧(s.getD k (0,0)).2<v) then gv G (s.getD k (0,0)).1 (s.getD k (0,0)).2*jE T Y (s.getD k (0,0)) else 0)
theorem rE_skip {G:List (List Int)} {T Y:Int} {s:List (Nat×Nat)} {u v k:Nat} (h:gv G u v=0):rE G T Y s u (v+1) k=rE G T Y s u v k:=by
 unfold rE
 generalize s.getD k (0,0)=p
 by_cases e:p.1=u∧p.2=v
 ·rw [if_pos qN,if_neg qN,e.1,e.2,h,Int.zero_mul]
 ·by_cases g:p.1<u∨(p.1=u∧p.2<v)
  ·rw [if_pos qN,if_pos g]
  ·rw [if_neg qN,if_neg g]
theorem rE_row {G:List (List Int)} {T Y:Int} {s:List (Nat×Nat)} {u v k:Nat} (h:∀ w,v≤w→gv G u w=0):rE G T Y s u v k=rE G T Y s (u+1) 0 k:=by
 unfold rE
 generalize s.getD k (0,0)=p
 by_cases g:p.1<u∨(p.1=u∧p.2<v)
 ·rw [if_pos g,if_pos qN]
 ·rw [if_neg g]
  by_cases g2:p.1<u+1∨(p.1=u+1∧p.2<0)
  ·have e:p.1=u:=by omega
   rw [if_pos g2,e,h p.2 qN,Int.zero_mul]
  ·rw [if_neg g2]
theorem rE_set {G:List (List Int)} {T Y:Int} {s:List (Nat×Nat)} {u v k:Nat} (hn:s.Nodup) (hk:k<s.length) (e:s.getD k (0,0)=(u,v)) {k':Nat} (hk':k'<s.length) :
  upd (rE G T Y s u v) k (zd (gv G u v*jE T Y (u,v))) k'=rE G T Y s u (v+1) k':=by
 unfold upd
 by_cases hkk:k'=k
 ·rw [if_pos hkk,hkk]
  unfold rE
  rw [e]
  simp only
  simp
 ·rw [if_neg hkk]
  have hne:s.getD k' (0,0)≠(u,v):=fun h=>hkk (nd_get hn hk' hk (h.trans e.symm))
  unfold rE
  generalize s.getD k' (0,0)=p at *
  obtain ⟨p1,p2⟩:=p
  have:¬ (p1=u∧p2=v):=fun h=>hne (Prod.ext h.1 h.2)
  simp only
  by_cases g:p1<u∨(p1=u∧p2<v)
  ·rw [if_pos g,if_pos qN]
  ·rw [if_neg g,if_neg qN]
theorem slzrow_meets (v w:Value) (s:List (Nat×Nat)) (T Y M:Int) (g:List Row) (k b:Nat) (hn:s.Nodup) (hb:∀ p,p∈s→p.1≤1000∧p.2≤1000) (ls:s.length≤100) (hg:∀ r,r∈g→r.length≤1048576∧Fit k r) (lg:g.length≤1048576)
  (hs:∀ u v,gv (ww g) u v≠0→(u,v)∈s) (hk:k≤1000000) (hz:∀ p,p∈s→sz (jE T Y p) b) (hbb:b≤100000000) :
  Meets Tryz.prog 59 [v,w] [(v,jH s T Y M),(w,W g)] (fun r os fs=>os=[]∧fs=[(r,vd (rowV s T Y (ww g)))]):=by
 have hin:=cmap_in hb (Nat.le_refl s.length)
 have hnd:=cmap_nd hn (Nat.le_refl s.length)
 have hsl:∀ i,i<s.length→((s.map (jE T Y)).map cn).getD i z0=cn (jE T Y (s.getD i (0,0))):=fun i hi=>by
  simp [gE,hi]
 have hlk:=fun i (hi:i<s.length) u v e=>cmap_lk hn hi (u:=u) (v:=v) e
 have hml:((s.map (jE T Y)).map cn).length=s.length:=by simp
 refine mV Tryz.func59 ?_
 refine bA (aC (d:=jH s T Y M) qM) fun bp hbp=>?_
 refine aS 0 rfl hbp ?_
 refine aP (d:=ShD s) 0 rfl (aZ (aK _)) (load_Sh _) fun y1=>?_
 refine aT (v:=y1) (n:=s.length) qM fun _=>?_
 refine eF (t:=22) (d:=I false []) s.length qN qN qN qN fun ov hov=>?_
 refine aT (v:=w) qM fun _=>?_
 refine aO (X:=Nat) (fun i=>([(1,w),(2,bp),(5,ov),(15,.int .i64 (g.length:Nat)),(16,.int .i64 (i:Nat))],[bE ov 2 s.length (rE (ww g) T Y s i 0),bE bp 5 1 (fun _=>jH s T Y M)],[(w,W g)])) (fun i=>i≤g.length) (fun i=>g.length - i) rfl ?_ ?_
 ·exact aU 0 (Nat.zero_le _) trivial qF (aA (Seals.own_cong (os:=[_,_]) 0 (rE (ww g) T Y s 0 0) rfl rfl fun y _=>by
   unfold rE; rw [if_neg qN]; exact uF) (aB qS))
 rintro i hi
 refine aD _ rfl (fun hlt=>?_) (fun hlt=>?_)
 ·have hig:i<g.length:=by omega
  have hr:=hg _ (dT [] hig)
  have hgr:∀ j,gv (ww g) i j=jv ((g.getD i []).getD j z0):=fun j=>gv_ww g i j
  refine aQ (v:=w) qM i rfl hig fun a1=>?_
  refine aX (d:=V (g.getD i [])) qM (iZ _) fun a2=>?_
  generalize g.getD i []=r at *
  generalize hG:ww g=G at *
  refine aT (v:=a2) qM fun _=>?_
  refine aO (X:=Nat) (fun j=>([(1,w),(2,bp),(5,ov),(6,.int .i64 (i:Nat)),(15,.int .i64 (g.length:Nat)),(16,.int .i64 (i:Nat)),(22,a2),(23,.int .i64 (r.length:Nat)),(24,.int .i64 (j:Nat))],[bE ov 2 s.length (rE G T Y s i j),bE bp 5 1 (fun _=>jH s T Y M)],[(a2,V r),(w,W g)])) (fun j=>j≤r.length) (fun j=>r.length - j) rfl ?_ ?_
  ·exact aU 0 (Nat.zero_le _) trivial qF (aB qS)
  rintro j hj
  refine aD _ rfl (fun hlt2=>?_) (fun hlt2=>?_)
  ·have hjr:j<r.length:=by omega
   have hx:=hr.2.get j
   have hsg:=fun u=>cY u (r.getD j z0).1 (r.getD j z0).2 hx.1 qN
   have hc:=hgr j
   have hsij:=hs i j
   have hsk:=fun k=>rE_skip (G:=G) (T:=T) (Y:=Y) (s:=s) (u:=i) (v:=j) (k:=k)
   refine aQ (v:=a2) qM j rfl hjr fun a3=>?_
   refine aX (d:=J (r.getD j z0)) qM (bM _) fun a4=>?_
   generalize r.getD j z0=x at *
   refine aM (d:=I false []) fun q hq=>?_
   refine aI (d:=J x) 0 rfl hq rfl qK (aC qM) ?_
   refine aS 2 rfl hbp ?_
   refine aP (d:=MD kD 0 (cmap s s.length)) 2 rfl (aR (aZ (aK _))) (show mJ Tryz.prog 79 from inferInstance) fun y2=>?_
   refine mI ?_
   refine get_num (v:=y2) qM hin hnd qN qN ?_
   refine aF (d:=J x) 0 rfl hq rfl (bM _) fun y3=>?_
   refine cH (hsg y3) ?_
   by_cases h0:jv x=0
   ·refine cX rfl (fun hne=>hne (by show (jv x).sign=0; rw [h0]; rfl)) ?_
    refine ar rfl qI ?_
    refine aU (j+1) qN (by simp only; omega) qF (dS (aA (Seals.own_cong (os:=[_,_]) 0 (rE G T Y s i (j+1)) rfl rfl fun y _=>?_) (aB qS)))
    exact (hsk y (by rw [hc]; exact h0)).symm
   ·refine dI rfl (fun e=>h0 (Int.sign_eq_zero_iff_zero.1 e)) ?_
    obtain ⟨kk,hkk,hke⟩:=mem_idx (hsij (by rw [hc]; exact h0))
    rw [hlk kk hkk i j hke]
    have hzz:=hz _ (dT (0,0) hkk)
    have hmu:=fun y1 y2=>zMulJZ y1 y2 x _ b hx.1 qN hzz qN
    have hset:=fun k' (hk':k'<s.length)=>rE_set (G:=G) (T:=T) (Y:=Y) hn hkk hke hk'
    have hsk2:=hsl kk hkk
    rw [hke] at hmu hsk2
    rw [hc] at hset
    refine aY [0,1,2,3,4,5,6,7,8,9,10] [0,1,2,3,4,5,6,7,8,9,10] qK qK ?_
    refine aF (d:=J x) 0 rfl hq rfl (bM _) fun y4=>?_
    refine aS 2 rfl hbp ?_
    refine aP (d:=vd (s.map (jE T Y))) 2 rfl (aR (aR (aZ (aK _)))) (iZ _) fun y5=>?_
    refine aQ (v:=y5) qM kk rfl (by rw [hml]; exact hkk) fun y6=>?_
    refine aX (d:=J (((s.map (jE T Y)).map cn).getD kk z0)) qM (bM _) fun y7=>?_
    rw [hsk2]
    refine cG (hmu y4 y7) fun y8=>?_
    refine aE 1 rfl hov kk rfl hkk ?_
    refine bL (d:=zd (jv x*jE T Y (i,j))) 1 rfl kk hkk rfl qK (aC qM) ?_
    refine ar rfl qI ?_
    refine aU (j+1) qN (by simp only; omega) qF (dS (aA (Seals.own_cong (os:=[_,_]) 0 (rE G T Y s i (j+1)) rfl rfl fun y hy=>?_) (aB qS)))
    exact hset y hy
  ·have hjr:j=r.length:=by omega
   subst hjr
   refine ar rfl qI ?_
   refine aU (i+1) qN (by simp only; omega) qF (aA (Seals.own_cong (os:=[_,_]) 0 (rE G T Y s (i+1) 0) rfl rfl fun y _=>?_) (aB qS))
   exact rE_row fun z hz=>by rw [hgr,cW (l:=r) qN]; rfl
 ·have hig:i=g.length:=by omega
  subst hig
  refine fin ⟨rfl,rfl⟩ (aA (Seals.told (g:=fun k=>gv (ww g) (s.getD k (0,0)).1 (s.getD k (0,0)).2*jE T Y (s.getD k (0,0))) hov fun y hy=>?_) (dS (a7 (Knw.cast (bC qM) ?_) (aH _ _))))
  ·unfold rE
   by_cases h:(s.getD y (0,0)).1<g.length
   ·rw [if_pos (.inl h)]
   ·rw [if_neg qN,gv_ww,cW (l:=g) qN]
    show zd 0=zd (0*_)
    rw [Int.zero_mul]
  ·congr 1
   unfold rowV
   refine List.ext_getElem qP fun n h1 h2=>?_
   have hn':n<s.length:=by simpa using h1
   simp [gE,hn']
def ip (m:Nat) (u v:Nat→Int):Int:=cM (fun c=>u c*v c) m
def gr (m:Nat) (b:Mx):Mx:=fun i j=>ip m (b i) (b j)
def dn:Nat→List Nat
 | 0=>[]
 | k+1=>k::dn k
def mi (G:Mx) (k i j:Nat):Int:=det (k+1) (kF G (i::dn k) (j::dn k))
def dG (G:Mx) (k:Nat):Int:=det k (kF G (dn k) (dn k))
theorem q9 {k j:Nat} (h:j<k):(dn k).getD j 0=k - 1 - j:=by
 induction k generalizing j with
 | zero=>omega
 | succ k ih =>
  cases j with
  | zero=>rw [dn,List.getD_cons_zero]; omega
  | succ j=>rw [dn,List.getD_cons_succ,ih qN]; omega
theorem oB (m:Nat) (u v:Nat→Int):ip m u v=ip m v u:=bI fun c _=>Int.mul_comm _ _
theorem j8 (m:Nat) (b:Mx) (i j:Nat):gr m b i j=gr m b j i:=oB _ _ _
theorem sF (G:Mx):dG G 0=1:=rfl
theorem eW (G:Mx) (k:Nat):dG G (k+1)=mi G k k k:=rfl
theorem mi_none (G:Mx) (i j:Nat):mi G 0 i j=G i j:=by simp [mi,dn,det,cM,sg,kF]
theorem kU {G:Mx} (h:∀ i j,G i j=G j i) (k i j:Nat):mi G k i j=mi G k j i:=by
 unfold mi
 rw [← pB]
 exact bP fun x y _ _=>h _ _
theorem iY {G:Mx} {k:Nat} (h:dG G k≠0) (i j:Nat):dG G k*mi G (k+1) i j=dG G (k+1)*mi G k i j - mi G k i k*mi G k k j :=
 sylv G k k i k j (dn k) (dn k) h
theorem mi_low {G:Mx} {k i j:Nat} (hj:j<k):mi G k i j=0 :=
 w6 G (dn k) (dn k) (j:=k - 1 - j) qN (by rw [q9 qN]; omega)
theorem mi_low' {G:Mx} (h:∀ i j,G i j=G j i) {k i j:Nat} (hi:i<k):mi G k i j=0:=by rw [kU h,mi_low hi]
theorem dG_congr {G H:Mx} {k:Nat} (h:∀ i j,i<k→j<k→G i j=H i j):dG G k=dG H k :=
 bP fun x y hx hy=>by
  show G ((dn k).getD x 0) ((dn k).getD y 0)=H _ _
  rw [q9 hx,q9 hy]; exact h _ _ qN qN
def cf (G:Mx) (k r:Nat):Int:=sg r*det k (cut (kF G (dn (k+1)) (0::dn k)) r 0)
theorem cf_zero (G:Mx) (k:Nat):cf G k 0=dG G k:=by
 unfold cf dG
 rw [sg_zero,Int.one_mul]
 exact bP fun x y _ _=>by simp [cut,kF,iG,dn]
theorem mi_cf (G:Mx) (k j:Nat):mi G k k j=cM (fun r=>G (k - r) j*cf G k r) (k+1):=by
 unfold mi
 rw [det]
 refine bI fun r hr=>?_
 have e1:det k (cut (kF G (k::dn k) (j::dn k)) r 0)=det k (cut (kF G (dn (k+1)) (0::dn k)) r 0):=bP fun x y _ _=>by simp [cut,kF,iG,dn]
 have e2:kF G (k::dn k) (j::dn k) r 0=G (k - r) j:=by
  show G ((dn (k+1)).getD r 0) j=_
  rw [q9 hr]; congr 1
 rw [e1,e2]; unfold cf; grind
def wv (m:Nat) (b:Mx) (k:Nat):Nat→Int:=fun c=>cM (fun r=>b (k - r) c*cf (gr m b) k r) (k+1)
theorem ip_wv (m:Nat) (b:Mx) (k:Nat) (v:Nat→Int):ip m (wv m b k) v=cM (fun r=>ip m (b (k - r)) v*cf (gr m b) k r) (k+1):=by
 unfold ip wv
 have h1:cM (fun c=>cM (fun r=>b (k - r) c*cf (gr m b) k r) (k+1)*v c) m=cM (fun c=>cM (fun r=>b (k - r) c*v c*cf (gr m b) k r) (k+1)) m :=
  bI fun c _=>by
   rw [← fK]
   exact bI fun r _=>by grind
 rw [h1,kY]
 exact bI fun r _=>fK _ _ _
theorem wv_row (m:Nat) (b:Mx) (k j:Nat):ip m (wv m b k) (b j)=mi (gr m b) k k j:=by
 rw [ip_wv,mi_cf]; rfl
theorem wv_wv (m:Nat) (b:Mx) (k:Nat):ip m (wv m b k) (wv m b k)=dG (gr m b) k*dG (gr m b) (k+1):=by
 have h1:ip m (wv m b k) (wv m b k)=cM (fun r=>ip m (b (k - r)) (wv m b k)*cf (gr m b) k r) (k+1):=ip_wv _ _ _ _
 rw [h1,gW (r:=0) qN fun r hr h0=>by
  rw [oB,wv_row,mi_low qN,Int.zero_mul],oB,Nat.sub_zero,wv_row,cf_zero,eW]
 exact Int.mul_comm _ _
theorem isum_nn {f:Nat→Int} {n:Nat} (h:∀ i,i<n→0≤f i):0≤cM f n:=by
 induction n with
 | zero=>exact Int.le_refl _
 | succ n ih=>exact Int.add_nonneg (ih fun i hi=>h i qN) (h n qN)
theorem sq_nn (x:Int):0≤x*x:=by
 rcases Int.le_total 0 x with h | h
 ·exact Int.mul_nonneg h h
 ·have:=Int.mul_nonneg (Int.neg_nonneg_of_nonpos h) (Int.neg_nonneg_of_nonpos h)
  rwa [Int.neg_mul_neg] at this
theorem ip_nn (m:Nat) (u:Nat→Int):0≤ip m u u:=isum_nn fun _ _=>sq_nn _
theorem dG_pos {m:Nat} {b:Mx} {n:Nat} (h:∀ k,k≤n→dG (gr m b) k≠0):∀ k,k≤n→0<dG (gr m b) k
 | 0,_=>by rw [sF]; decide
 | k+1,hk=>by
  have h1:=dG_pos h k qN
  have h2:0≤dG (gr m b) k*dG (gr m b) (k+1):=by rw [← wv_wv]; exact ip_nn _ _
  have h3:=h (k+1) hk
  rcases Int.lt_trichotomy (dG (gr m b) (k+1)) 0 with h4 | h4 | h4
  ·have:=Int.mul_neg_of_pos_of_neg h1 h4; omega
  ·exact absurd h4 h3
  ·exact h4
theorem cauchy (m:Nat) (u v:Nat→Int):ip m u v*ip m u v≤ip m u u*ip m v v:=by
 by_cases h0:ip m u u=0
 ·have hz:∀ c,c<m→u c=0:=by
   intro c hc
   have key:∀ n,cM (fun c=>u c*u c) n=0→∀ c,c<n→u c*u c=0:=fun n=>by
    induction n with
    | zero=>intro _ c hc; omega
    | succ n ih =>
     intro hs c hc
     have h1:0≤cM (fun c=>u c*u c) n:=isum_nn fun _ _=>sq_nn _
     have h2:=sq_nn (u n)
     have h3:cM (fun c=>u c*u c) n+u n*u n=0:=hs
     by_cases e:c=n
     ·rw [e]; omega
     ·exact ih qN c qN
   rcases Int.mul_eq_zero.1 (key m h0 c hc) with h | h <;> exact h
  have:ip m u v=0:=eT fun c hc=>by rw [hz c hc,Int.zero_mul]
  rw [this,h0]; simp
 ·have hp:0<ip m u u:=by have:=ip_nn m u; omega
  have h1:0≤ip m (fun c=>ip m u u*v c - ip m u v*u c) (fun c=>ip m u u*v c - ip m u v*u c):=ip_nn _ _
  have h2:ip m (fun c=>ip m u u*v c - ip m u v*u c) (fun c=>ip m u u*v c - ip m u v*u c)=ip m u u*(ip m u u*ip m v v - ip m u v*ip m u v):=by
   generalize hA:ip m u u=A
   generalize hB:ip m u v=B
   have e:ip m (fun c=>A*v c - B*u c) (fun c=>A*v c - B*u c)=A*A*ip m v v - 2*A*B*ip m u v+B*B*ip m u u:=by
    unfold ip
    have e1:cM (fun c=>(A*v c - B*u c)*(A*v c - B*u c)) m=cM (fun c=>A*A*(v c*v c)+(-(2*A*B)*(u c*v c)+B*B*(u c*u c))) m:=bI fun c _=>by grind
    rw [e1,qY,qY,fY,fY,fY]; grind
   rw [e,hA,hB]; grind
  rw [h2] at h1
  have:=Int.nonneg_of_mul_nonneg_right (a:=ip m u u) (b:=ip m u u*ip m v v - ip m u v*ip m u v) (by exact h1) hp
  omega
def redq (b:Mx) (k j:Nat) (q:Int):Mx:=fun i c=>if i=k then b k c - q*b j c else b i c
def sx (p:Nat) (i:Nat):Nat:=if i=p then p+1 else if i=p+1 then p else i
def swb (b:Mx) (p:Nat):Mx:=fun i c=>b (sx p i) c
theorem sx_sx (p i:Nat):sx p (sx p i)=i:=by unfold sx; split <;> (try split) <;> (try split) <;> omega
theorem sx_at (p:Nat):sx p p=p+1:=if_pos rfl
theorem sx_at' (p:Nat):sx p (p+1)=p:=by unfold sx; rw [if_neg qN,if_pos rfl]
theorem sx_low {p i:Nat} (h:i<p):sx p i=i:=by unfold sx; rw [if_neg qN,if_neg qN]
theorem uN {p i:Nat} (h:p+1<i):sx p i=i:=by unfold sx; rw [if_neg qN,if_neg qN]
theorem sx_lt {p i n:Nat} (hp:p+1<n) (h:i<n):sx p i<n:=by unfold sx; split <;> (try split) <;> omega
theorem ip_sub (m:Nat) (u v w:Nat→Int) (q:Int):ip m (fun c=>u c - q*v c) w=ip m u w - q*ip m v w:=by
 unfold ip
 rw [bI (g':=fun c=>1*(u c*w c)+(-q)*(v c*w c)) fun c _=>by grind,kI]; grind
def fq (T:Mx) (k j:Nat) (q:Int) (i i':Nat):Int :=
 T i i' - (if i=k then q*T j i' else 0) - (if i'=k then q*T i j else 0)+(if i=k∧i'=k then q*q*T j j else 0)
theorem gr_redq (m:Nat) (b:Mx) (k j:Nat) (q:Int) (hj:j≠k) (i i':Nat):gr m (redq b k j q) i i'=fq (gr m b) k j q i i':=by
 have e:∀ i,redq b k j q i=fun c=>b i c - (if i=k then q else 0)*b j c:=fun i=>by
  funext c; unfold redq; split
  ·rename_i h; rw [h]
  ·omega
 unfold gr
 rw [e i,e i',ip_sub,oB m (b i) (fun c=>b i' c - _*b j c),oB m (b j) (fun c=>b i' c - _*b j c),ip_sub,ip_sub]
 unfold fq
 simp only []
 rw [oB m (b i') (b i),oB m (b i') (b j),oB m (b j) (b i)]
 by_cases h1:i=k <;> by_cases h2:i'=k <;> simp [h1,h2] <;> grind
theorem mi_redq {m:Nat} {b:Mx} {k j:Nat} {q:Int} (hj:j<k):∀ (s:Nat),(∀ t,t<s→dG (gr m b) t≠0) →
  (∀ i i',mi (gr m (redq b k j q)) s i i'=fq (mi (gr m b) s) k j q i i')∧dG (gr m (redq b k j q)) s=dG (gr m b) s
 | 0,_=>⟨fun i i'=>by
   rw [mi_none,gr_redq m b k j q qN]
   unfold fq
   simp only [mi_none],by rw [sF,sF]⟩
 | s+1,h=>by
  obtain ⟨ih,ig⟩:=mi_redq hj s fun t ht=>h t qN
  have sy:=j8 m b
  have hs0:=h s qN
  have hs1:dG (gr m (redq b k j q)) (s+1)=dG (gr m b) (s+1):=by
   rw [eW,eW,ih]
   unfold fq
   by_cases e:s=k
   ·subst e
    rw [mi_low hj,mi_low' sy hj,mi_low hj]; simp
   ·simp [e]
  refine ⟨fun i i'=>?_,hs1⟩
  refine Int.eq_of_mul_eq_mul_left hs0 ?_
  have h1:=iY (G:=gr m (redq b k j q)) (k:=s) (by rw [ig]; exact hs0) i i'
  rw [ig,hs1,ih,ih,ih] at h1
  rw [h1]
  have st:=iY (G:=gr m b) (k:=s) hs0
  have e1:=st i i'
  have e2:=st j i'
  have e3:=st i j
  have e4:=st j j
  have z1:s=k→∀ i,mi (gr m b) s i j=0:=fun e i=>mi_low qN
  have z2:s=k→∀ i,mi (gr m b) s j i=0:=fun e i=>mi_low' sy qN
  unfold fq
  by_cases e:s=k
  ·have a1:=z1 e i
   have a2:=z1 e s
   have a3:=z1 e j
   have a4:=z2 e i'
   have a5:=z2 e s
   simp only [a1,a2,a3,a4,a5] at e2 e3 e4 ⊢
   by_cases h1:i=k <;> by_cases h2:i'=k <;> simp [h1,h2,e] at e1 e2 e3 e4 ⊢ <;> grind
  ·by_cases h1:i=k <;> by_cases h2:i'=k <;> simp [h1,h2,e] at e1 e2 e3 e4 ⊢ <;> grind
theorem gr_swb (m:Nat) (b:Mx) (p i j:Nat):gr m (swb b p) i j=gr m b (sx p i) (sx p j):=rfl
theorem kM {m:Nat} {b:Mx} {p s:Nat} (hs:s≤p) (i j:Nat):mi (gr m (swb b p)) s i j=mi (gr m b) s (sx p i) (sx p j):=by
 have e:∀ (i x:Nat),x<s+1→sx p ((i::dn s).getD x 0)=(sx p i::dn s).getD x 0:=fun i x hx=>by
  cases x with
  | zero=>rfl
  | succ x=>rw [List.getD_cons_succ,List.getD_cons_succ,q9 qN,sx_low qN]
 exact bP fun x y hx hy=>by
  show gr m b (sx p _) (sx p _)=gr m b _ _
  rw [e i x hx,e j y hy]
theorem oW {m:Nat} {b:Mx} {p s:Nat} (hs:s≤p):dG (gr m (swb b p)) s=dG (gr m b) s :=
 dG_congr fun i j hi hj=>by rw [gr_swb,sx_low qN,sx_low qN]
theorem rB (m:Nat) (b:Mx) (p:Nat):dG (gr m (swb b p)) (p+1)=mi (gr m b) p (p+1) (p+1):=by
 rw [eW,kM (Nat.le_refl _),sx_at]
theorem two_steps {D a b c d1 xi xj yi yj z Tij Ti Tj X:Int} (ha:a≠0) (e1:D*Tij=a*z - xi*xj) (e2:D*Ti=a*yi - xi*c) (e3:D*Tj=a*yj - c*xj) (e4:D*d1=a*b - c*c) (e5:a*X=d1*Tij - Ti*Tj) :
  D*D*X=(a*b - c*c)*z - b*(xi*xj) - a*(yi*yj)+c*(yi*xj+xi*yj):=by
 refine Int.eq_of_mul_eq_mul_left ha ?_
 have h:a*(D*D*X)=(D*d1)*(D*Tij) - (D*Ti)*(D*Tj):=by
  have:a*(D*D*X)=D*D*(a*X):=by grind
  rw [this,e5]; grind
 rw [h,e1,e2,e3,e4]; grind
theorem mi_swb_two {m:Nat} {b:Mx} {p:Nat} (h0:dG (gr m b) p≠0) (h1:dG (gr m b) (p+1)≠0) (h2:mi (gr m b) p (p+1) (p+1)≠0) (i j:Nat) :
  mi (gr m (swb b p)) (p+2) i j=mi (gr m b) (p+2) (sx p i) (sx p j):=by
 have key:∀ (b:Mx) (h0:dG (gr m b) p≠0) (h1:dG (gr m b) (p+1)≠0) (i j:Nat),dG (gr m b) p*dG (gr m b) p*mi (gr m b) (p+2) i j =
   (mi (gr m b) p p p*mi (gr m b) p (p+1) (p+1) - mi (gr m b) p (p+1) p*mi (gr m b) p (p+1) p)*mi (gr m b) p i j - mi (gr m b) p (p+1) (p+1)*(mi (gr m b) p i p*mi (gr m b) p p j) - mi (gr m b) p p p*(mi (gr m b) p i (p+1)*mi (gr m b) p (p+1) j)+mi (gr m b) p (p+1) p*(mi (gr m b) p i (p+1)*mi (gr m b) p p j+mi (gr m b) p i p*mi (gr m b) p (p+1) j):=fun b h0 h1 i j=>by
  have st:=iY h0
  have sy:mi (gr m b) p p (p+1)=mi (gr m b) p (p+1) p:=kU (j8 m b) _ _ _
  exact two_steps (Tij:=mi (gr m b) (p+1) i j) (Ti:=mi (gr m b) (p+1) i (p+1)) (Tj:=mi (gr m b) (p+1) (p+1) j) (d1:=dG (gr m b) (p+2)) h1
   (by rw [st,eW]) (by rw [st,eW,sy]) (by rw [st,eW]) (by rw [eW,st,eW,sy]) (iY h1 i j)
 have ga:=oW (m:=m) (b:=b) (p:=p) (Nat.le_refl p)
 have gb:=rB m b p
 refine Int.eq_of_mul_eq_mul_left (Int.mul_ne_zero h0 h0) ?_
 have k1:=key (swb b p) (by rw [ga]; exact h0) (by rw [gb]; exact h2) i j
 have k2:=key b h0 h1 (sx p i) (sx p j)
 rw [ga] at k1
 rw [k1,k2]
 simp only [kM (Nat.le_refl p),sx_at,sx_at']
 have sy:mi (gr m b) p p (p+1)=mi (gr m b) p (p+1) p:=kU (j8 m b) _ _ _
 rw [sy]; grind
theorem dG_swb_two {m:Nat} {b:Mx} {p:Nat} (h0:dG (gr m b) p≠0):dG (gr m (swb b p)) (p+2)=dG (gr m b) (p+2):=by
 have st:=iY h0
 have sy:mi (gr m b) p p (p+1)=mi (gr m b) p (p+1) p:=kU (j8 m b) _ _ _
 have ga:=oW (m:=m) (b:=b) (p:=p) (Nat.le_refl p)
 have gb:=rB m b p
 have st':=iY (G:=gr m (swb b p)) (k:=p) (by rw [ga]; exact h0) (p+1) (p+1)
 refine Int.eq_of_mul_eq_mul_left h0 ?_
 rw [eW,eW,st,← ga,st',gb,eW]
 simp only [kM (Nat.le_refl p),sx_at,sx_at']
 rw [sy]; grind
theorem pI {m:Nat} {b:Mx} {p:Nat} (h0:dG (gr m b) p≠0) (h1:dG (gr m b) (p+1)≠0) (h2:mi (gr m b) p (p+1) (p+1)≠0):∀ (e:Nat),(∀ t,p+2≤t→t<p+2+e→dG (gr m b) t≠0) →
  (∀ i j,mi (gr m (swb b p)) (p+2+e) i j=mi (gr m b) (p+2+e) (sx p i) (sx p j))∧dG (gr m (swb b p)) (p+2+e)=dG (gr m b) (p+2+e)
 | 0,_=>⟨mi_swb_two h0 h1 h2,dG_swb_two h0⟩
 | e+1,h=>by
  obtain ⟨ih,ig⟩:=pI h0 h1 h2 e fun t h3 h4=>h t h3 qN
  have hs0:=h (p+2+e) qN qN
  have hx:sx p (p+2+e)=p+2+e:=uN qN
  have hs1:dG (gr m (swb b p)) (p+2+e+1)=dG (gr m b) (p+2+e+1):=by rw [eW,eW,ih,hx]
  refine ⟨fun i j=>?_,hs1⟩
  refine Int.eq_of_mul_eq_mul_left hs0 ?_
  have st':=iY (G:=gr m (swb b p)) (k:=p+2+e) (by rw [ig]; exact hs0) i j
  have st:=iY (G:=gr m b) (k:=p+2+e) hs0 (sx p i) (sx p j)
  show dG (gr m b) (p+2+e)*mi (gr m (swb b p)) (p+2+e+1) i j=dG (gr m b) (p+2+e)*mi (gr m b) (p+2+e+1) (sx p i) (sx p j)
  rw [st,← ig,st',hs1,ih,ih,ih,hx]
def rnd (x y:Int):Int:=(2*x+y)/(2*y)
theorem rnd_near {x y:Int} (h:0<y) : - y≤2*(x - rnd x y*y)∧2*(x - rnd x y*y)<y:=by
 have h1:=Int.emod_add_mul_ediv (2*x+y) (2*y)
 have h2:=Int.emod_nonneg (2*x+y) (show 2*y≠0 by omega)
 have h3:=Int.emod_lt_of_pos (2*x+y) (show 0<2*y by omega)
 have e:2*y*((2*x+y)/(2*y))=2*(rnd x y*y):=by unfold rnd; grind
 rw [e] at h1
 omega
def lm (m:Nat) (b:Mx) (k j:Nat):Int:=mi (gr m b) j k j
def dm (m:Nat) (b:Mx) (k:Nat):Int:=dG (gr m b) k
def m9 (m k:Nat):Nat→Mx→Mx→Mx×Mx
 | 0,b,u=>(b,u)
 | j+1,b,u=>m9 m k j (redq b k j (rnd (lm m b k j) (dm m b (j+1)))) (redq u k j (rnd (lm m b k j) (dm m b (j+1))))
def farL (m:Nat) (b:Mx) (k:Nat):Prop:=3*(dm m b k*dm m b k)≤4*(dm m b (k+1)*dm m b (k - 1)+lm m b k (k - 1)*lm m b k (k - 1))
instance (m:Nat) (b:Mx) (k:Nat):Decidable (farL m b k):=inferInstanceAs (Decidable (_≤_))
def oS (m n:Nat):Nat→Mx→Mx→Nat→Option (Mx×Mx)
 | 0,_,_,_=>none
 | f+1,b,u,k=>if n≤k then some (b,u)
  else if farL m (m9 m k k b u).1 k then oS m n f (m9 m k k b u).1 (m9 m k k b u).2 (k+1)
  else oS m n f (swb (m9 m k k b u).1 (k - 1)) (swb (m9 m k k b u).2 (k - 1)) (max 1 (k - 1))
theorem nP (m k j:Nat) (b u:Mx):m9 m k (j+1) b u=m9 m k j (redq b k j (rnd (lm m b k j) (dm m b (j+1)))) (redq u k j (rnd (lm m b k j) (dm m b (j+1)))):=rfl
def Ind (m n:Nat) (b:Mx):Prop:=∀ t,t≤n→0<dm m b t
theorem Ind.ne {m n:Nat} {b:Mx} (h:Ind m n b) {t:Nat} (ht:t≤n):dG (gr m b) t≠0:=by have:=h t ht; unfold dm at this; omega
section
variable {m n:Nat} {b u:Mx} {k j:Nat} {q:Int}
theorem wQ (h:Ind m n b) (hj:j<k) {t:Nat} (ht:t≤n):dm m (redq b k j q) t=dm m b t :=
 (mi_redq hj t fun s hs=>h.ne qN).2
theorem Ind.redq (h:Ind m n b) (hj:j<k):Ind m n (redq b k j q):=fun t ht=>by rw [wQ h hj ht]; exact h t ht
theorem lm_redq (h:Ind m n b) (hj:j<k) {i t:Nat} (ht:t<i) (hi:i<n) :
  lm m (redq b k j q) i t=if i=k then (if t<j then lm m b k t - q*lm m b j t else if t=j then lm m b k j - q*dm m b (j+1) else lm m b k t) else lm m b i t:=by
 have sy:=j8 m b
 unfold lm
 rw [(mi_redq hj t fun s hs=>h.ne qN).1]
 unfold fq
 by_cases e:i=k
 ·have htk:t≠k:=by omega
  simp only [e,if_true,htk,if_false,and_false]
  by_cases h1:t<j
  ·simp [h1]
  ·by_cases h2:t=j
   ·subst h2; simp [dm,eW]
   ·rw [if_neg h1,if_neg h2,mi_low' sy (show j<t by omega)]; simp
 ·simp only [e,if_false,false_and]
  by_cases h1:t=k
  ·subst h1
   rw [if_pos rfl,mi_low hj]; simp
  ·rw [if_neg h1]; simp
def Size (m:Nat) (b:Mx) (k j:Nat):Prop:=∀ t,j≤t→t<k → - dm m b (t+1)≤2*lm m b k t∧2*lm m b k t<dm m b (t+1)
theorem Size.next (h:Ind m n b) (hs:Size m b k (j+1)) (hj:j<k) (hk:k<n):Size m (redq b k j (rnd (lm m b k j) (dm m b (j+1)))) k j:=fun t h1 h2=>by
 rw [wQ h hj qN,lm_redq h hj h2 hk,if_pos rfl,if_neg qN]
 split
 ·rename_i e
  subst e
  exact rnd_near (h (t+1) qN)
 ·exact hs t qN h2
structure Way (m n k:Nat) (b b':Mx):Prop where
 ind:Ind m n b'
 d:∀ t,t≤n→dm m b' t=dm m b t
 l:∀ i t,t<i→i<n→i≠k→lm m b' i t=lm m b i t
theorem redr_way (hk:k<n):∀ (j:Nat) (b u:Mx),j≤k→Ind m n b→Size m b k j→Way m n k b (m9 m k j b u).1∧Size m (m9 m k j b u).1 k 0
 | 0,b,u,_,h,hs=>⟨⟨h,fun _ _=>rfl,fun _ _ _ _ _=>rfl⟩,hs⟩
 | j+1,b,u,hj,h,hs=>by
  obtain ⟨w,ws⟩:=redr_way hk j (redq b k j (rnd (lm m b k j) (dm m b (j+1)))) (redq u k j (rnd (lm m b k j) (dm m b (j+1)))) qN (h.redq qN) (hs.next h qN hk)
  exact ⟨⟨w.ind,fun t ht=>by rw [nP,w.d t ht,wQ h qN ht],fun i t h1 h2 h3=>by rw [nP,w.l i t h1 h2 h3,lm_redq h qN h1 h2,if_neg h3]⟩,ws⟩
theorem p7 (hk:k<n) (h:Ind m n b):Way m n k b (m9 m k k b u).1∧Size m (m9 m k k b u).1 k 0 :=
 redr_way hk k b u (Nat.le_refl _) h fun t h1 h2=>by omega
theorem dd {p:Nat} (h:Ind m n b) (hp:p+1<n):dm m b (p+1)*mi (gr m b) p (p+1) (p+1)=dm m b p*dm m b (p+2)+lm m b (p+1) p*lm m b (p+1) p:=by
 have st:=iY (G:=gr m b) (k:=p) (h.ne qN) (p+1) (p+1)
 rw [kU (j8 m b) p p (p+1)] at st
 unfold dm lm
 rw [eW (gr m b) (p+1)]
 omega
theorem dd_pos {p:Nat} (h:Ind m n b) (hp:p+1<n):0<mi (gr m b) p (p+1) (p+1):=by
 have e:=dd h hp
 have h1:=Int.mul_pos (h p qN) (h (p+2) qN)
 have h2:=sq_nn (lm m b (p+1) p)
 have h3:0<dm m b (p+1)*mi (gr m b) p (p+1) (p+1):=by omega
 exact Int.pos_of_mul_pos_right_of_pos h3 (h (p+1) qN)
where
 Int.pos_of_mul_pos_right_of_pos {a b:Int} (h:0<a*b) (ha:0<a):0<b:=by
  rcases Int.lt_trichotomy b 0 with h1 | h1 | h1
  ·have:=Int.mul_neg_of_pos_of_neg ha h1; omega
  ·rw [h1,Int.mul_zero] at h; omega
  ·exact h1
theorem wP {p:Nat} (h:Ind m n b) (hp:p+1<n) {t:Nat} (ht:t≤n):dm m (swb b p) t=if t=p+1 then mi (gr m b) p (p+1) (p+1) else dm m b t:=by
 unfold dm
 by_cases h1:t≤p
 ·rw [if_neg qN]; exact oW h1
 ·by_cases h2:t=p+1
  ·rw [if_pos h2,h2]; exact rB _ _ _
  ·rw [if_neg h2]
   obtain ⟨e,rfl⟩:∃ e,t=p+2+e:=⟨t - (p+2),by omega⟩
   exact (pI (h.ne qN) (h.ne qN) (by have:=dd_pos h hp; omega) e fun s h3 h4=>h.ne qN).2
theorem Ind.swb {p:Nat} (h:Ind m n b) (hp:p+1<n):Ind m n (swb b p):=fun t ht=>by
 rw [wP h hp ht]; split
 ·exact dd_pos h hp
 ·exact h t ht
theorem tB {p:Nat} (h:Ind m n b) (hp:p+1<n) {i t:Nat} (ht:t<i) (hi:i<n) :
  lm m (swb b p) i t=if i=p+1∧t=p then lm m b (p+1) p else if t=p then mi (gr m b) p i (p+1) else if t=p+1 then mi (gr m (swb b p)) (p+1) i (p+1) else lm m b (sx p i) t:=by
 unfold lm
 by_cases h1:t<p
 ·rw [if_neg qN,if_neg qN,if_neg qN,kM qN,sx_low (i:=t) h1]
 ·by_cases h2:t=p
  ·subst h2
   rw [kM (Nat.le_refl _),sx_at]
   by_cases h3:i=t+1
   ·subst h3
    rw [if_pos ⟨rfl,rfl⟩,sx_at',kU (j8 m b)]
   ·rw [if_neg qN,if_pos rfl,uN qN]
  ·by_cases h4:t=p+1
   ·rw [if_neg qN,if_neg h2,if_pos h4,h4]
   ·rw [if_neg qN,if_neg h2,if_neg h4]
    obtain ⟨e,rfl⟩:∃ e,t=p+2+e:=⟨t - (p+2),by omega⟩
    rw [(pI (h.ne qN) (h.ne qN) (by have:=dd_pos h hp; omega) e fun s h3 h4=>h.ne qN).1,uN (i:=p+2+e) qN]
theorem lm_swb_one {p:Nat} (h:Ind m n b) (hp:p+1<n) {i:Nat} (hi:p+1<i) (hn:i<n) :
  dm m b (p+1)*lm m (swb b p) i (p+1)=dm m b (p+2)*lm m b i p - lm m b (p+1) p*lm m b i (p+1):=by
 rw [tB h hp qN hn,if_neg qN,if_neg qN,if_pos rfl]
 have h0:=h.ne (t:=p) qN
 have st:=iY (G:=gr m b) (k:=p) h0
 have gs:=oW (m:=m) (b:=b) (p:=p) (Nat.le_refl p)
 have st':=iY (G:=gr m (swb b p)) (k:=p) (by rw [gs]; exact h0) i (p+1)
 rw [gs,rB] at st'
 simp only [kM (Nat.le_refl p),sx_at,sx_at',uN hi] at st'
 have e1:=st i (p+1)
 have e2:=st (p+1) (p+1)
 have sy:=kU (j8 m b) p p (p+1)
 unfold lm dm at *
 rw [eW] at e1 e2 ⊢
 rw [eW (gr m b) (p+1)]
 refine Int.eq_of_mul_eq_mul_left h0 ?_
 try rw [sy] at e1
 try rw [sy] at e2
 try rw [sy] at st'
 grind
theorem lm_swb_two {p:Nat} (h:Ind m n b) (hp:p+1<n) {i:Nat} (hi:p+1<i) (hn:i<n) :
  dm m b (p+2)*lm m (swb b p) i p=mi (gr m b) p (p+1) (p+1)*lm m b i (p+1)+lm m b (p+1) p*lm m (swb b p) i (p+1):=by
 have h1:=lm_swb_one h hp hi hn
 have e0:lm m (swb b p) i p=mi (gr m b) p i (p+1):=by rw [tB h hp qN hn,if_neg qN,if_pos rfl]
 rw [e0]
 have h0:=h.ne (t:=p) qN
 have ha:=h.ne (t:=p+1) qN
 have st:=iY (G:=gr m b) (k:=p) h0
 have e1:=st i (p+1)
 have e2:=st (p+1) (p+1)
 have sy:=kU (j8 m b) p p (p+1)
 generalize lm m (swb b p) i (p+1)=X at *
 unfold lm dm at *
 rw [eW (gr m b) (p+1)] at *
 try rw [sy] at e1
 try rw [sy] at e2
 refine Int.eq_of_mul_eq_mul_left h0 (Int.eq_of_mul_eq_mul_left ha ?_)
 generalize dG (gr m b) p=D at *
 generalize dG (gr m b) (p+1)=a at *
 grind
end
theorem zShlJ (v:Value) (x:Bool×List Nat) (n:Int) (hx:Lim x.2) (lx:x.2.length≤1099511627776) :
  Meets Tryz.prog 117 [v,.int .i64 n] [(v,J x)] (fun r os fs=>os=[]∧fs=[(r,zd (jv x*2^far n))]):=by
 have e:(if x.1 then -((nv x.2*2^far n:Nat):Int) else ((nv x.2*2^far n:Nat):Int))=jv x*2^far n:=by
  unfold jv iv
  cases x.1 <;> simp [Int.neg_mul]
 have hm:=fun u=>nV u x.1 (nv x.2*2^far n)
 rw [e] at hm
 refine mV Tryz.func117 ?_
 refine bA (aC (d:=I x.1 x.2) qM) fun p hp=>?_
 refine aM (d:=I false []) fun o ho=>?_
 refine aY [0,1,2,3,4,5,6,7] [0,1,2,3,4,5,6,7] qK qK ?_
 refine aS 1 rfl hp ?_
 refine aJ 1 rfl (aZ (aK _)) ?_
 refine aS 1 rfl hp ?_
 refine aP 1 rfl (aR (aK _)) (dH _) fun u1=>?_
 refine cG (p5 u1 x.2 n hx lx) fun u2=>?_
 refine cG (hm u2) fun u3=>?_
 refine aI (d:=zd (jv x*2^far n)) 0 rfl ho rfl qK ?_ ?_; exact aC qM
 refine aF (d:=zd (jv x*2^far n)) 0 rfl ho rfl (aN _ _) fun r=>?_
 exact fin ⟨rfl,rfl⟩ (dS (dS (aB (fs':=[(r,zd (jv x*2^far n))]) qS)))
theorem zShlZ (v:Value) (x:Int) (n:Int) (a:Nat) (hx:sz x a) (ha:a≤1099511627776) :
  Meets Tryz.prog 117 [v,.int .i64 n] [(v,zd x)] (fun r os fs=>os=[]∧fs=[(r,zd (x*2^far n))]):=by
 have h:=zShlJ v (cn x) n (a0 _) (Nat.le_trans hx.len ha)
 rw [eR] at h
 exact h
theorem zd_pos {y:Int} (h:0<y):zd y=I false (bT y.natAbs):=by
 rw [zd_I,decide_eq_false qN]
theorem zDown_meets (v w:Value) (x y:Int) (a b:Nat) (hx:sz x a) (hy:sz y b) (ha:a≤137438953472) (hb:b≤137438953472) (h0:0<y) :
  Meets Tryz.prog 151 [v,w] [(v,zd x),(w,zd y)] (fun r os fs=>os=[]∧∃ q,r=.tuple #[q,.bool true]∧fs=[(q,zd (x/y))]):=by
 have hc:=fun u1 u2=>gK u1 u2 x y a b hx hy ha hb qN
 have e:=zd_pos h0
 refine mV Tryz.func151 ?_
 refine bA (aC (d:=zd x) qM) fun p hp=>?_
 refine bA (aC (d:=zd y) qM) fun q hq=>?_
 refine aM (d:=I false []) fun o ho=>?_
 refine aS 1 rfl hq ?_
 refine aJ (u:=.bool false) 1 rfl (show Part 0 (zd y) (.one (.bool false)) by rw [e]; exact aZ (aK _)) ?_
 refine aF (d:=zd x) 2 rfl hp rfl (aN _ _) fun u1=>?_
 refine aF (d:=zd y) 1 rfl hq rfl (aN _ _) fun u2=>?_
 refine cF (hc u1 u2) ?_
 rintro _ _ _ ⟨rfl,z,m,rfl,rfl⟩
 refine aM (d:=I false []) fun c1 h1=>?_
 refine aM (d:=I false []) fun c2 h2=>?_
 refine aI (d:=zd (x/y)) 1 rfl h1 rfl qK ?_ ?_; exact aC qM
 refine aI (d:=zd (x%y)) 0 rfl h2 rfl qK ?_ ?_; exact aC qM
 refine aF (d:=zd (x/y)) 1 rfl h1 rfl (aN _ _) fun u3=>?_
 refine aI (d:=zd (x/y)) 2 rfl ho rfl qK ?_ ?_; exact aC qM
 refine aF (d:=zd (x/y)) 2 rfl ho rfl (aN _ _) fun r=>?_
 exact fin ⟨rfl,r,rfl,rfl⟩ (dS (dS (dS (dS (dS (aB (fs':=[(r,zd (x/y))]) qS))))))
theorem zRound_meets (v w:Value) (x y:Int) (a:Nat) (hx:sz x a) (hy:sz y a) (ha:a+2≤137438953472) (h0:0<y) :
  Meets Tryz.prog 115 [v,w] [(v,zd x),(w,zd y)] (fun r os fs=>os=[]∧∃ q,r=.tuple #[q,.bool true]∧fs=[(q,zd (rnd x y))]):=by
 have s1:sz (x*2) (a+1):=hx.mul (sz_one' 2 qE)
 have s2:sz (y*2) (a+1):=hy.mul (sz_one' 2 qE)
 have s3:sz (x*2+y) (a+2):=by
  have:=iL s1 ((hy.neg).mono (show a≤a+1 by omega))
  rw [show x*2 - -y=x*2+y by omega] at this
  exact this
 have f1:(2:Int)^far 1=2:=by decide
 have c1:=fun u=>zShlZ u x 1 a hx qN
 have c2:=fun u=>zShlZ u y 1 a hy qN
 rw [f1] at c1 c2
 have c3:=fun u1 u2=>nH u1 u2 (x*2) y (a+1) a s1 hy qN qN
 have c4:=fun u1 u2=>zDown_meets u1 u2 (x*2+y) (y*2) (a+2) (a+1) s3 s2 ha qN qN
 rw [show (x*2+y)/(y*2)=rnd x y by unfold rnd; rw [Int.mul_comm x,Int.mul_comm y]] at c4
 refine mV Tryz.func115 ?_
 refine bA (aC (d:=zd x) qM) fun p hp=>?_
 refine bA (aC (d:=zd y) qM) fun q hq=>?_
 refine aM (d:=I false []) fun o ho=>?_
 refine aY [0,2,4,1,3,5,6,7,8,9,10] [0,1,2,3,4,5,6,7,8,9,10] qK qK ?_
 refine aF (d:=zd x) 2 rfl hp rfl (aN _ _) fun u1=>?_
 refine aF (d:=zd y) 1 rfl hq rfl (aN _ _) fun u2=>?_
 refine aF (d:=zd y) 1 rfl hq rfl (aN _ _) fun u3=>?_
 refine cG (c1 u1) fun u4=>?_
 refine cG (c3 u4 u2) fun u5=>?_
 refine cG (c2 u3) fun u6=>?_
 refine cF (c4 u5 u6) ?_
 rintro _ _ _ ⟨rfl,z,rfl,rfl⟩
 refine aI (d:=zd (rnd x y)) 0 rfl ho rfl qK ?_ ?_; exact aC qM
 refine aF (d:=zd (rnd x y)) 0 rfl ho rfl (aN _ _) fun r=>?_
 exact fin ⟨rfl,r,rfl,rfl⟩ (dS (dS (dS (aB (fs':=[(r,zd (rnd x y))]) qS))))
where
 sz_one' (x:Int) (h:x.natAbs<18446744073709551616):sz x 1:=by unfold sz; simpa using h
theorem cmp_sign (x y:Int):(if x.sign<y.sign then -1 else if y.sign<x.sign then 1 else x.sign*wW x.natAbs y.natAbs)=(x - y).sign:=by
 have sg:∀ z:Int,z<0→z.sign = -1:=fun z h=>Int.sign_eq_neg_one_of_neg h
 have sp:∀ z:Int,0<z→z.sign=1:=fun z h=>Int.sign_eq_one_of_pos h
 have fin:∀ c:Int,(c = -1∧x - y<0)∨(c=1∧0<x - y)∨(c=0∧x - y=0)→c=(x - y).sign:=fun c h=>by
  rcases h with ⟨h1,h2⟩ | ⟨h1,h2⟩ | ⟨h1,h2⟩
  ·rw [h1,sg _ h2]
  ·rw [h1,sp _ h2]
  ·rw [h1,h2]; rfl
 refine fin _ ?_
 unfold wW
 rcases Int.lt_trichotomy x 0 with hx | hx | hx <;> rcases Int.lt_trichotomy y 0 with hy | hy | hy
 ·rw [sg _ hx,sg _ hy]; simp only [Int.lt_irrefl,if_false]; split
  ·right; left; omega
  ·split
   ·left; omega
   ·right; right; omega
 ·rw [sg _ hx,hy]; left; simp; omega
 ·rw [sg _ hx,sp _ hy]; left; simp; omega
 ·rw [hx,sg _ hy]; right; left; simp; omega
 ·rw [hx,hy]; right; right; simp
 ·rw [hx,sp _ hy]; left; simp; omega
 ·rw [sp _ hx,sg _ hy]; right; left; simp; omega
 ·rw [sp _ hx,hy]; right; left; simp; omega
 ·rw [sp _ hx,sp _ hy]; simp only [Int.lt_irrefl,if_false]; split
  ·left; omega
  ·split
   ·right; left; omega
   ·right; right; omega
theorem zCmpSW (v w:Value) (s t:Bool) (a b:List Nat) (ha:Lim a) (hb:Lim b) (la:a.length≤137438953472) (lb:b.length≤137438953472) :
  Meets Tryz.prog 95 [v,w] [(v,I s a),(w,I t b)] (fun r os fs=>os=[]∧fs=[]∧r=.int .i64 (iv s a - iv t b).sign):=by
 have hc:=cmp_sign (iv s a) (iv t b)
 rw [vT,vT] at hc
 have hr:=sI (nv a) (nv b)
 have hsg:∀ x:Int, -1≤x.sign∧x.sign≤1:=fun x=>by
  rcases Int.lt_trichotomy x 0 with h | h | h
  ·rw [Int.sign_eq_neg_one_of_neg h]; omega
  ·rw [h]; simp
  ·rw [Int.sign_eq_one_of_pos h]; omega
 have h1:=hsg (iv s a)
 have h2:=hsg (iv t b)
 have hp : -1≤(iv s a).sign*wW (nv a) (nv b)∧(iv s a).sign*wW (nv a) (nv b)≤1:=by
  have:(iv s a).sign = -1∨(iv s a).sign=0∨(iv s a).sign=1:=by omega
  rcases this with h | h | h <;> rw [h] <;> omega
 refine mV Tryz.func95 ?_
 refine bA (aC (d:=I s a) qM) fun p hp'=>?_
 refine bA (aC (d:=I t b) qM) fun q hq'=>?_
 refine aY [0,2,1,3,4,5] [0,1,2,3,4,5] qK qK ?_
 refine aF (d:=I s a) 1 rfl hp' rfl (aN _ _) fun y1=>?_
 refine aF (d:=I t b) 0 rfl hq' rfl (aN _ _) fun y2=>?_
 refine cH (cY y1 s a ha la) ?_
 refine cH (cY y2 t b hb lb) ?_
 refine aD _ rfl (fun hlt=>?_) (fun hlt=>?_)
 ·rw [if_pos hlt] at hc
  exact fin ⟨rfl,rfl,congrArg (Value.int .i64) hc⟩ (dS (dS (aH _ _)))
 ·rw [if_neg hlt] at hc
  refine aD _ rfl (fun hgt=>?_) (fun hgt=>?_)
  ·rw [if_pos qN] at hc
   exact fin ⟨rfl,rfl,congrArg (Value.int .i64) hc⟩ (dS (dS (aH _ _)))
  ·rw [if_neg qN] at hc
   refine aS 1 rfl hp' ?_
   refine aP 1 rfl (aR (aK _)) (dH _) fun u1=>?_
   refine aS 0 rfl hq' ?_
   refine aP 0 rfl (aR (aK _)) (dH _) fun u2=>?_
   refine cH (oG u1 u2 a b ha hb) ?_
   refine ar rfl qI ?_
   exact fin ⟨rfl,rfl,congrArg (Value.int .i64) hc⟩ (dS (dS (aH _ _)))
theorem zCmpSJ (v w:Value) (x y:Bool×List Nat) (hx:Lim x.2) (hy:Lim y.2) (lx:x.2.length≤137438953472) (ly:y.2.length≤137438953472) :
  Meets Tryz.prog 95 [v,w] [(v,J x),(w,J y)] (fun r os fs=>os=[]∧fs=[]∧r=.int .i64 (jv x - jv y).sign):=zCmpSW v w x.1 y.1 x.2 y.2 hx hy lx ly
theorem zCmpSZ (v w:Value) (x y:Int) (a b:Nat) (hx:sz x a) (hy:sz y b) (ha:a≤137438953472) (hb:b≤137438953472) :
  Meets Tryz.prog 95 [v,w] [(v,zd x),(w,zd y)] (fun r os fs=>os=[]∧fs=[]∧r=.int .i64 (x - y).sign):=by
 have h:=zCmpSJ v w (cn x) (cn y) (a0 _) (a0 _) (Nat.le_trans hx.len ha) (Nat.le_trans hy.len hb)
 rw [eR,eR] at h
 exact h
def eD (r o:Nat):Value:=.pointer (some ⟨r,o,none⟩)
theorem aV {P:Program} {t:TypeId} {k off r o:Nat} {os:List Own} {fs:List bD} {K:bZ} [ht:tQ P t k off] (k':K (eD r (o+off)) os fs):FieldAddrK P t (eD r o) k os fs K :=
 ⟨fun _ _ hw=>⟨_,fs,fun w' _=>c9 (pL ht r o w'),k',hw⟩⟩
def rD (a b c d:Value):Dat:=.cat (.one a) (.cat (.one b) (.cat (.one c) (.one d)))
def jG (p:Value) (a b c d:Value):Own:=bE p 4 1 fun _=>rD a b c d
def nth4 (a b c d:Value):Nat→Value
 | 0=>a
 | 1=>b
 | 2=>c
 | _=>d
theorem RdC.four {S:Nat→Prop} {w:World} {a b c d:Value} {cs:List Value}:RdC S w (rD a b c d) cs↔cs=[a,b,c,d]∧a.oneCell'=true∧b.oneCell'=true∧c.oneCell'=true∧d.oneCell'=true:=by
 constructor
 ·rintro ⟨c1,c2,rfl,⟨rfl,h1⟩,c3,c4,rfl,⟨rfl,h2⟩,c5,c6,rfl,⟨rfl,h3⟩,rfl,h4⟩
  exact ⟨rfl,h1,h2,h3,h4⟩
 ·rintro ⟨rfl,h1,h2,h3,h4⟩
  exact ⟨[a],[b,c,d],rfl,⟨rfl,h1⟩,[b],[c,d],rfl,⟨rfl,h2⟩,[c],[d],rfl,⟨rfl,h3⟩,rfl,h4⟩
theorem ptr_e (r o:Nat):eD r o=k6 (eD r 0) o:=by simp [eD,k6,eX]
theorem load4 {P:Program} {t:TypeId} {r o:Nat} {a b c d:Value} {os:List Own} {fs:List bD} {K:bZ} [ht:mJ P t] (pos k:Nat) (h:a8 os pos=some (jG (eD r 0) a b c d)) (ho:o=k) (hk:k<4)
  (k':K (nth4 a b c d k) os fs):kE P t (eD r o) os fs K:=by
 subst ho
 rw [ptr_e]
 have hc:o=0∨o=1∨o=2∨o=3:=by omega
 rcases hc with rfl | rfl | rfl | rfl
 ·exact aJ (e:=fun _=>rD a b c d) pos h (aZ (aK _)) k'
 ·exact aJ (e:=fun _=>rD a b c d) pos h (aR (a:=.one a) (aZ (aK _))) k'
 ·exact aJ (e:=fun _=>rD a b c d) pos h (aR (a:=.one a) (aR (a:=.one b) (aZ (aK _)))) k'
 ·exact aJ (e:=fun _=>rD a b c d) pos h (aR (a:=.one a) (aR (a:=.one b) (aR (a:=.one c) (aK _)))) k'
theorem store_cell {P:Program} {ty:TypeId} {x:Value} {r k size:Nat} {e:Nat→Dat} {d':Dat} {os:List Own} {fs:List bD} {K:bZ} (pos:Nat) (h:a8 os pos=some (bE (eD r 0) size 1 e)) (hk:k<size) (hx:x.oneCell'=true) (ht:(P.info? ty).map (·.size)=some 1)
  (hd:∀ S w cs,RdC S w (e 0) cs→RdC S w d' (cs.set k x)) (k':K undef (setOwn os pos (bE (eD r 0) size 1 fun _=>d')) fs):StoreK P ty (eD r k) x os fs K:=by
 refine ⟨fun G w hw=>?_⟩
 have hov:=hw.own _ (bF h) 0 Nat.zero_lt_one
 obtain ⟨r',cap,hr⟩:=hov.row Nat.zero_lt_one
 have hrr:r'=r:=by have:=hr.blk; simp [bE,eD,l8] at this; exact this.symm
 subst hrr
 obtain ⟨b1,b2,b3,cur,t,b4,b5,b6⟩:=hr.row
 obtain ⟨cs,c1,c2,c3⟩:=b6 0 Nat.zero_lt_one
 have hcap:1≤cap:=b2
 have hfit:k+[x].length≤cur.size:=by
  have:1*size≤cap*size:=Nat.mul_le_mul_right _ hcap
  rw [b5]; simp only [List.length_cons,List.length_nil]
  have hs:(bE (eD r' 0) size 1 e).size=size:=rfl
  rw [hs]; omega
 rw [show eD r' k=.pointer (some ⟨r',k,none⟩) from rfl,uK (nM (cs:=[x]) (oH hx) (fun u hu=>by rw [List.mem_singleton.1 hu]; exact hx) (by simpa using ht) b4 hfit)]
 refine ⟨_,_,k',?_⟩
 have hhas:(bE (eD r' 0) size 1 e).has r':=⟨0,Nat.zero_lt_one,hr.blk⟩
 refine hw.step h rfl rfl rfl qP (fun q hq hno=>setRow_other w r' q _ fun e'=>hno (e' ▸ hhas)) (fun b hb=>.inl hb) (fun a b c ha hb _ _=>by
  have ha':a<1:=ha
  have hb':b<1:=hb
  omega) fun mono y hy=>?_
 have hy0:y=0:=by have:y<1:=hy; omega
 subst hy0
 have hs:(bE (eD r' 0) size 1 e).size=size:=rfl
 have hc1:cap=1:=by
  rcases hov with ⟨h1,h2⟩ | ⟨q,cap',h1,h2⟩ | ⟨q,h1,h2,h3⟩ | ⟨h1,_⟩
  ·simp [bE,eD] at h1
  ·simp [bE,eD] at h1
  ·have:q=r':=by simp [bE,eD] at h1; exact h1.symm
   subst this
   obtain ⟨_,_,_,cur',t',q4,q5,_⟩:=h3
   rw [b4] at q4
   simp only [Option.some.injEq,Obj.cells.injEq] at q4
   obtain ⟨rfl,_⟩:=q4
   rw [q5] at b5
   exact (Nat.eq_of_mul_eq_mul_right (show 0<(bE (eD q 0) size 1 e).size by rw [hs]; omega) b5).symm
  ·simp [bE] at h1
 subst hc1
 refine .inr (.inr (.inl ⟨r',rfl,rfl,b1,Nat.le_refl _,b3,_,t,setRow_heap w r' cur _ t _ b4,?_,fun i hi=>?_⟩))
 ·simp only [List.size_toArray,List.length_append,List.length_take,List.length_drop,Array.length_toList,List.length_cons,List.length_nil] at hfit ⊢
  rw [b5] at hfit ⊢
  show _=1*size
  simp only [hs] at hfit ⊢
  omega
 ·have hi0:i=0:=by omega
  subst hi0
  have hm:=mono _ cs c1
  refine ⟨cs.set k x,hd _ _ _ hm,by rw [List.length_set,c2]; rfl,fun j hj=>?_⟩
  rw [List.getElem?_toArray,uV _ _ _ _ (by simpa using hfit)]
  have hj':j<size:=hj
  have c3':=c3 j hj'
  rw [hs] at *
  simp only [Nat.zero_mul,Nat.zero_add,List.length_cons,List.length_nil] at *
  by_cases hjk:j=k
  ·subst hjk
   rw [if_pos ⟨Nat.le_refl _,by omega⟩,Nat.sub_self]
   simp [List.getElem?_set,c2]
   exact hj'
  ·rw [if_neg qN,Array.getElem?_toList,c3',List.getElem?_set_ne qN]
theorem store4 {P:Program} {ty:TypeId} {x:Value} {r o:Nat} {a b c d:Value} {os:List Own} {fs:List bD} {K:bZ} (pos k:Nat) (h:a8 os pos=some (jG (eD r 0) a b c d)) (ho:o=k) (hk:k<4) (hx:x.oneCell'=true) (ht:(P.info? ty).map (·.size)=some 1)
  (k':K undef (setOwn os pos (jG (eD r 0) (if k=0 then x else a) (if k=1 then x else b) (if k=2 then x else c) (if k=3 then x else d))) fs):StoreK P ty (eD r o) x os fs K:=by
 subst ho
 refine store_cell (e:=fun _=>rD a b c d) (d':=rD (if o=0 then x else a) (if o=1 then x else b) (if o=2 then x else c) (if o=3 then x else d)) pos h hk hx ht (fun S w cs hcs=>?_) k'
 obtain ⟨rfl,h1,h2,h3,h4⟩:=RdC.four.1 hcs
 have hc:o=0∨o=1∨o=2∨o=3:=by omega
 rcases hc with rfl | rfl | rfl | rfl
 ·exact RdC.four.2 ⟨rfl,hx,h2,h3,h4⟩
 ·exact RdC.four.2 ⟨rfl,h1,hx,h3,h4⟩
 ·exact RdC.four.2 ⟨rfl,h1,h2,hx,h4⟩
 ·exact RdC.four.2 ⟨rfl,h1,h2,h3,hx⟩
class TPtr (P:Program) (t:TypeId):Prop where
 und:∃ e,P.underlying t=some (.pointer e)
theorem rW {P:Program} {t:TypeId} (ht:TPtr P t) (a:Option Addr) (w:World):(Op.equal t (.pointer a) (.pointer none)).run P w=.ok a.isNone w:=by
 obtain ⟨e,hu⟩:=ht.und
 have h:∀ d,(Op.equalIn (d+1) t (.pointer a) (.pointer none)).run P w=.ok a.isNone w:=fun d=>by
  rw [Op.equalIn,Sem.run_bind,run_underlying hu]
  cases a <;> rfl
 exact h 9999
theorem eq_ptr {P:Program} {t:TypeId} [ht:TPtr P t] {x y:Operand} {a:Option Addr} {os:List Own} {fs:List bD} {K:bZ} (k:K (.bool a.isNone) os fs):BinK P .eql t x y (.pointer a) (.pointer none) os fs K:=by
 have hrun:∀ w',(do eqGuard .eql t x y (.pointer a) (.pointer none); binOp .eql t (.pointer a) (.pointer none):Sem Value).run P w'=.ok (.bool a.isNone) w':=fun w'=>by
  have h:(binOp .eql t (.pointer a) (.pointer none))=(do pure (.bool (← Op.equal t (.pointer a) (.pointer none)))):=rfl
  have hg:(eqGuard .eql t x y (.pointer a) (.pointer none)).run P w'=.ok () w':=rfl
  rw [Sem.run_bind,hg,Result.andThen_ok,h,Sem.run_bind,rW ht,Result.andThen_ok,Sem.run_pure]
 exact .mk <| eL (.bool a.isNone) hrun k
def pot (m:Nat) (b:Mx):Nat→Nat
 | 0=>1
 | n+1=>pot m b n*(dm m b (n+1)).toNat
theorem pot_pos {m n:Nat} {b:Mx} (h:Ind m n b):∀ t,t≤n→0<pot m b t
 | 0,_=>Nat.one_pos
 | t+1,ht=>Nat.mul_pos (pot_pos h t qN) (by have:=h (t+1) ht; omega)
theorem vA {m:Nat} {b b':Mx}:∀ {t:Nat},(∀ s,s≤t→dm m b' s=dm m b s)→pot m b' t=pot m b t
 | 0,_=>rfl
 | t+1,h=>by rw [pot,pot,vA fun s hs=>h s qN,h (t+1) (Nat.le_refl _)]
theorem pot_less {m n:Nat} {b b':Mx} {k:Nat} (h:Ind m n b) (hk:1≤k) (hs:∀ s,s≠k→s≤n→dm m b' s=dm m b s) (hlt:(dm m b' k).toNat<(dm m b k).toNat):∀ t,k≤t→t≤n→pot m b' t<pot m b t
 | 0,h1,_=>by omega
 | t+1,h1,h2=>by
  rw [pot,pot]
  by_cases e:k=t+1
  ·rw [← e,vA fun s hs'=>hs s qN qN]
   exact Nat.mul_lt_mul_of_pos_left hlt (pot_pos h t qN)
  ·rw [hs (t+1) qN h2]
   exact Nat.mul_lt_mul_of_pos_right (pot_less h hk hs hlt t qN qN) (by have:=h (t+1) h2; omega)
section
variable {m n:Nat} {b u:Mx} {k:Nat}
theorem far_less (h:Ind m n b) (hk:1≤k) (hn:k<n) (hf:¬ farL m b k):(dm m (swb b (k - 1)) k).toNat<(dm m b k).toNat:=by
 obtain ⟨p,rfl⟩:∃ p,k=p+1:=⟨k - 1,by omega⟩
 rw [Nat.add_sub_cancel,wP h hn qN,if_pos rfl]
 have e:=dd h hn
 have h1:=h (p+1) qN
 have h2:=dd_pos h hn
 unfold farL at hf
 rw [Nat.add_sub_cancel] at hf
 generalize mi (gr m b) p (p+1) (p+1)=x at *
 generalize hA:dm m b (p+1)=a at *
 have h3:4*(a*x)<3*(a*a):=by
  rw [e]
  have:dm m b (p+1+1)*dm m b p=dm m b p*dm m b (p+2):=Int.mul_comm _ _
  omega
 have h4:a*x<a*a:=by
  have:=Int.mul_pos h1 h2
  have:=Int.mul_pos h1 h1
  omega
 have h5:x<a:=Int.lt_of_mul_lt_mul_left h4 qN
 omega
theorem rY:∀ (μ:Nat) (b u:Mx) (k:Nat),1≤k→Ind m n b→pot m b (n - 1)*(n+1)+(n - k)≤μ→∃ f R,oS m n f b u k=some R
 | μ,b,u,k,hk,h,hμ=>by
  by_cases hn:n≤k
  ·exact ⟨1,(b,u),by rw [oS,if_pos hn]⟩
  ·obtain ⟨w,ws⟩:=p7 (u:=u) (show k<n by omega) h
   have hp:pot m (m9 m k k b u).1 (n - 1)=pot m b (n - 1):=vA fun s hs=>w.d s qN
   have hpp:=pot_pos h (n - 1) qN
   have h0:0<μ:=by
    have:1*(n+1)≤pot m b (n - 1)*(n+1):=Nat.mul_le_mul_right _ hpp
    omega
   obtain ⟨ν,rfl⟩:∃ ν,μ=ν+1:=⟨μ - 1,by omega⟩
   by_cases hf:farL m (m9 m k k b u).1 k
   ·obtain ⟨f,R,e⟩:=rY ν (m9 m k k b u).1 (m9 m k k b u).2 (k+1) qN w.ind (by rw [hp]; omega)
    exact ⟨f+1,R,by rw [oS,if_neg hn,if_pos hf]; exact e⟩
   ·have hl:=far_less w.ind hk qN hf
    have hq:pot m (swb (m9 m k k b u).1 (k - 1)) (n - 1)<pot m b (n - 1):=by
     rw [← hp]
     refine pot_less w.ind hk (fun s hs h1=>?_) hl (n - 1) qN qN
     rw [wP w.ind qN h1,if_neg qN]
    obtain ⟨f,R,e⟩:=rY ν (swb (m9 m k k b u).1 (k - 1)) (swb (m9 m k k b u).2 (k - 1)) (max 1 (k - 1)) qN (w.ind.swb qN) (by
     have h1:(pot m (swb (m9 m k k b u).1 (k - 1)) (n - 1)+1)*(n+1)≤pot m b (n - 1)*(n+1):=Nat.mul_le_mul_right _ hq
     rw [Nat.succ_mul] at h1
     omega)
    exact ⟨f+1,R,by rw [oS,if_neg hn,if_neg hf]; exact e⟩
 termination_by μ=>μ
def Rdc (m:Nat) (b:Mx) (k:Nat):Prop:=∀ i,1≤i→i<k→Size m b i 0∧farL m b i
theorem Rdc.way {b':Mx} (h:Rdc m b k) (w:Way m n k b b') (hk:k<n):Rdc m b' k:=fun i h1 h2=>by
 obtain ⟨s,f⟩:=h i h1 h2
 refine ⟨fun t h3 h4=>?_,?_⟩
 ·rw [w.d _ qN,w.l i t h4 qN qN]; exact s t h3 h4
 ·unfold farL at *
  rw [w.d _ qN,w.d _ qN,w.d _ qN,w.l i (i - 1) qN qN qN]; exact f
theorem Rdc.next (h:Rdc m b k) (hs:Size m b k 0) (hf:farL m b k):Rdc m b (k+1):=fun i h1 h2=>by
 by_cases e:i=k
 ·rw [e]; exact ⟨hs,hf⟩
 ·exact h i h1 qN
theorem Rdc.swb (h:Rdc m b k) (hi:Ind m n b) (hk:1≤k) (hn:k<n):Rdc m (swb b (k - 1)) (max 1 (k - 1)):=fun i h1 h2=>by
 obtain ⟨s,f⟩:=h i h1 qN
 have hd:∀ t,t<k→dm m (Go.Proofs.YtjebljkoiaojaaaGreat.swb b (k - 1)) t=dm m b t:=fun t ht=>by rw [wP hi qN qN,if_neg qN]
 have hl:∀ t,t<i→lm m (Go.Proofs.YtjebljkoiaojaaaGreat.swb b (k - 1)) i t=lm m b i t:=fun t ht=>by
  rw [tB hi qN ht qN,if_neg qN,if_neg qN,if_neg qN,sx_low qN]
 refine ⟨fun t h3 h4=>?_,?_⟩
 ·rw [hd _ qN,hl t h4]; exact s t h3 h4
 ·unfold farL at *
  rw [hd _ qN,hd _ qN,hd _ qN,hl _ qN]; exact f
theorem lrun_red:∀ {f:Nat} {b u:Mx} {k:Nat} {R:Mx×Mx},oS m n f b u k=some R→1≤k→k≤n∨n=0→Ind m n b→Rdc m b k→Rdc m R.1 n∧Ind m n R.1∧dm m R.1 n=dm m b n
 | 0,b,u,k,R,h,_,_,_,_=>by simp [oS] at h
 | f+1,b,u,k,R,h,hk,hkn,hi,hr=>by
  rw [oS] at h
  split at h
  ·rename_i hn
   obtain rfl:(b,u)=R:=by simpa using h
   exact ⟨fun i h1 h2=>hr i h1 qN,hi,rfl⟩
  ·rename_i hn
   obtain ⟨w,ws⟩:=p7 (u:=u) (show k<n by omega) hi
   have hr':=hr.way w qN
   split at h
   ·rename_i hf
    obtain ⟨a1,a2,a3⟩:=lrun_red h qN qN w.ind (hr'.next ws hf)
    exact ⟨a1,a2,by rw [a3,w.d n (Nat.le_refl _)]⟩
   ·obtain ⟨a1,a2,a3⟩:=lrun_red h qN qN (w.ind.swb qN) (hr'.swb w.ind hk qN)
    exact ⟨a1,a2,by rw [a3,wP w.ind qN (Nat.le_refl _),if_neg qN,w.d n (Nat.le_refl _)]⟩
theorem qU:∀ {f:Nat} {b u:Mx} {k:Nat} {R:Mx×Mx},oS m n f b u k=some R→∀ e,oS m n (f+e) b u k=some R
 | 0,b,u,k,R,h,e=>by simp [oS] at h
 | f+1,b,u,k,R,h,e=>by
  rw [Nat.add_right_comm,oS]
  rw [oS] at h
  split at h
  ·rename_i hn; rw [if_pos hn]; exact h
  ·rename_i hn
   rw [if_neg hn]
   split at h
   ·rename_i hf; rw [if_pos hf]; exact qU h e
   ·rename_i hf; rw [if_neg hf]; exact qU h e
theorem lrun_one {f g:Nat} {R S:Mx×Mx} (h:oS m n f b u k=some R) (h':oS m n g b u k=some S):R=S:=by
 have h1:=qU h g
 have h2:=qU h' f
 rw [Nat.add_comm,h2] at h1
 simpa using h1.symm
end
theorem sz_of_sq {x:Int} {e:Nat} (h:sz (x*x) (e+e)):sz x e:=by
 unfold sz at *
 rw [Int.natAbs_mul,Nat.pow_add] at h
 exact Nat.lt_of_not_le fun hle=>absurd h (Nat.not_lt.2 (Nat.mul_le_mul hle hle))
theorem sz_le {x y:Int} {e:Nat} (h0:0≤x) (h:x≤y) (hy:sz y e):sz x e:=by
 unfold sz at *; omega
theorem ip_sz {m k l:Nat} {u v:Nat→Int} (hu:∀ c,c<m→sz (u c) k) (hv:∀ c,c<m→sz (v c) l) (hm:m<18446744073709551616):sz (ip m u v) (k+l+1) :=
 vU (fun c hc=>(hu c hc).mul (hv c hc)) hm
structure LB (a:Mx) (m n D K:Nat) (b u:Mx):Prop where
 ind:Ind m n b
 dz:∀ t,t≤n→sz (dm m b t) D
 bz:∀ i c,i<n→c<m→sz (b i c) K
 ua:∀ i c,i<n→c<m→mm n u a i c=b i c
 un:det n u=1∨det n u = -1
section
variable {a b u:Mx} {m n D K k j:Nat}
theorem LB.gz (h:LB a m n D K b u) (hm:m<18446744073709551616) {i i':Nat} (hi:i<n) (hi':i'<n):sz (gr m b i i') (K+K+1) :=
 ip_sz (fun c hc=>h.bz i c hi hc) (fun c hc=>h.bz i' c hi' hc) hm
theorem LB.lz (h:LB a m n D K b u) (hm:m<18446744073709551616) {i:Nat} (hi:i<n) (hj:j<i):sz (lm m b i j) (D+K+1):=by
 refine sz_of_sq ?_
 have h1:=cauchy m (wv m b j) (b i)
 rw [wv_wv,wv_row] at h1
 rw [kU (j8 m b)] at h1
 have h2:=((h.dz j qN).mul (h.dz (j+1) qN)).mul (h.gz hm hi hi)
 exact sz_le (sq_nn _) h1 (h2.mono qN)
theorem rnd_sz {x y:Int} {e:Nat} (hx:sz x e) (hy:0<y):sz (rnd x y) (e+1):=by
 have h1:=rnd_near (x:=x) hy
 have h2:(rnd x y).natAbs≤x.natAbs+1:=by
  have h3:rnd x y*y≤x+y:=by omega
  have h4:x - y≤rnd x y*y:=by omega
  have h5:rnd x y≤x.natAbs+1:=by
   refine Int.le_of_not_gt fun hgt=>?_
   have:(x.natAbs+2:Int)*y≤rnd x y*y:=Int.mul_le_mul_of_nonneg_right qN qN
   have h6:(x.natAbs:Int)*1≤x.natAbs*y:=Int.mul_le_mul_of_nonneg_left qN qN
   have h7:(x.natAbs+2:Int)*y=x.natAbs*y+2*y:=by grind
   omega
  have h6 : - (x.natAbs+1:Int)≤rnd x y:=by
   refine Int.le_of_not_gt fun hgt=>?_
   have h8:rnd x y*y ≤ - (x.natAbs+2:Int)*y:=Int.mul_le_mul_of_nonneg_right qN qN
   have h6:(x.natAbs:Int)*1≤x.natAbs*y:=Int.mul_le_mul_of_nonneg_left qN qN
   have h7 : - (x.natAbs+2:Int)*y = - (x.natAbs*y) - 2*y:=by grind
   omega
  omega
 unfold sz at *
 rw [Nat.pow_succ]
 have:0<18446744073709551616^e:=Nat.pow_pos qE
 omega
theorem LB.qz (h:LB a m n D K b u) (hm:m<18446744073709551616) (hk:k<n) (hj:j<k):sz (rnd (lm m b k j) (dm m b (j+1))) (D+K+2) :=
 rnd_sz (h.lz hm hk hj) (h.ind _ qN)
theorem det_redq {v:Mx} {q:Int} (hk:k<n) (hj:j<k):det n (redq v k j q)=det n v:=by
 have h1:=(kJ n).addRow (A:=v) hk (show j<n by omega) qN (-q) (v j) (fun _ _=>rfl) (v k)
 rw [uW] at h1
 rw [← h1]
 refine bP fun i c _ _=>?_
 unfold redq rw'
 split
 ·show v k c - q*v j c=v k c + -q*v j c
  rw [Int.neg_mul]; omega
 ·rfl
theorem mm_redq {v w:Mx} {q:Int} (i c:Nat):mm n (redq v k j q) w i c=redq (mm n v w) k j q i c:=by
 unfold mm redq
 split
 ·rw [bI (g':=fun s=>1*(v k s*w s c)+(-q)*(v j s*w s c)) fun s _=>by grind,kI]; grind
 ·rfl
theorem LB.redq (h:LB a m n D K b u) (hk:k<n) (hj:j<k) {q:Int} (hq:sz q (D+K+2)):LB a m n D (D+K+K+3) (redq b k j q) (redq u k j q) :=
 ⟨h.ind.redq hj,fun t ht=>by rw [wQ h.ind hj ht]; exact h.dz t ht,fun i c hi hc=>by
  unfold Go.Proofs.YtjebljkoiaojaaaGreat.redq
  split
  ·exact (iL ((h.bz k c hk hc).mono (show K≤D+K+K+2 by omega)) ((hq.mul (h.bz j c qN hc)).mono qN))
  ·exact (h.bz i c hi hc).mono qN,fun i c hi hc=>by
  rw [mm_redq]
  unfold Go.Proofs.YtjebljkoiaojaaaGreat.redq
  split
  ·rw [h.ua k c hk hc,h.ua j c qN hc]
  ·exact h.ua i c hi hc,by rw [det_redq hk hj]; exact h.un⟩
theorem det_swb {v:Mx} {p:Nat} (hp:p+1<n):det n (swb v p) = - det n v:=by
 rw [← (kJ n).swap (A:=v) (r:=p) (s:=p+1) qN hp qN]
 refine bP fun i c _ _=>?_
 unfold swb sx rw'
 by_cases h1:i=p+1
 ·rw [if_neg qN,if_pos h1,if_pos h1]
 ·by_cases h2:i=p
  ·rw [if_pos h2,if_neg h1,if_pos h2]
  ·rw [if_neg h2,if_neg h1,if_neg h1,if_neg h2]
theorem dz_swb (h:Ind m n b) (hk:1≤k) (hn:k<n) (hf:¬ farL m b k) (hd:∀ t,t≤n→sz (dm m b t) D) (t:Nat) (ht:t≤n):sz (dm m (swb b (k - 1)) t) D:=by
 by_cases e:t=k
 ·subst e
  have h1:=far_less h hk hn hf
  have h2:=h.swb (p:=t - 1) qN t ht
  have h3:=hd t ht
  have h4:=h t ht
  exact sz_le qN qN h3
 ·rw [wP h qN ht,if_neg qN]; exact hd t ht
theorem LB.swb (h:LB a m n D K b u) (hk:1≤k) (hn:k<n) (hf:¬ farL m b k):LB a m n D K (swb b (k - 1)) (swb u (k - 1)) :=
 ⟨h.ind.swb qN,dz_swb h.ind hk hn hf h.dz,fun i c hi hc=>h.bz _ c (sx_lt qN hi) hc,fun i c hi hc=>h.ua _ c (sx_lt qN hi) hc,by
  rw [det_swb qN]
  rcases h.un with e | e <;> rw [e] <;> decide⟩
theorem row_sz (h:Ind m n b) (hd:∀ t,t≤n→sz (dm m b t) D) (hk:k<n) (hs:Size m b k 0):∀ (e t:Nat),t+e=k→sz (mi (gr m b) t k k) ((e+1)*(D+1))∧0≤mi (gr m b) t k k
 | 0,t,ht=>by
  have:t=k:=by omega
  subst this
  have h1:=hd (t+1) qN
  have h2:=h (t+1) qN
  unfold dm at h1 h2
  rw [eW] at h1 h2
  exact ⟨h1.mono qN,by omega⟩
 | e+1,t,ht=>by
  obtain ⟨i1,i2⟩:=row_sz h hd hk hs e (t+1) qN
  have st:=iY (G:=gr m b) (k:=t) (h.ne qN) k k
  rw [kU (j8 m b) t t k] at st
  have hp1:=h (t+1) qN
  have hp0:=h t qN
  have hd0:=hd t qN
  have hd1:=hd (t+1) qN
  have hsz:=hs t qN qN
  have hl:lm m b k t=mi (gr m b) t k t:=rfl
  rw [hl] at hsz
  unfold dm at hp1 hp0 hd0 hd1 hsz
  generalize mi (gr m b) t k t=l at *
  generalize mi (gr m b) t k k=x at *
  generalize mi (gr m b) (t+1) k k=y at *
  generalize dG (gr m b) (t+1)=d1 at *
  generalize dG (gr m b) t=d0 at *
  have hll:l*l≤d1*d1:=by
   have h1:0≤(d1 - l)*(d1+l):=Int.mul_nonneg qN qN
   have h2:(d1 - l)*(d1+l)=d1*d1 - l*l:=by grind
   omega
  have hx:d1*x≤d1*(d0*y+d1):=by
   have h1:d1*x=d0*y+l*l:=by omega
   have h2:0≤d0*y:=Int.mul_nonneg qN i2
   have h3:1*(d0*y)≤d1*(d0*y):=Int.mul_le_mul_of_nonneg_right qN h2
   have h4:d1*(d0*y+d1)=d1*(d0*y)+d1*d1:=by grind
   omega
  have hx':x≤d0*y+d1:=Int.le_of_mul_le_mul_left hx hp1
  have hx0:0≤x:=by
   have h1:d1*x=d0*y+l*l:=by omega
   have h2:0≤d0*y:=Int.mul_nonneg qN i2
   have h3:=sq_nn l
   refine Int.le_of_not_gt fun hgt=>?_
   have:=Int.mul_neg_of_pos_of_neg hp1 hgt
   omega
  refine ⟨sz_le hx0 hx' ?_,hx0⟩
  have h1:=hd0.mul i1
  have h2:=iL (h1.mono (show D+(e+1)*(D+1)≤D+(e+1)*(D+1) from Nat.le_refl _)) ((hd1.neg).mono (show D≤D+(e+1)*(D+1) by omega))
  rw [show d0*y - -d1=d0*y+d1 by omega] at h2
  refine h2.mono ?_
  rw [Nat.succ_mul (e+1)]; omega
theorem ip_part {u:Nat→Int}:∀ {m c:Nat},c<m→u c*u c≤ip m u u
 | m+1,c,h=>by
  have h1:ip (m+1) u u=ip m u u+u m*u m:=rfl
  have h2:=ip_nn m u
  have h3:=sq_nn (u m)
  by_cases e:c=m
  ·rw [e,h1]; omega
  ·have:=ip_part (u:=u) (m:=m) (c:=c) qN
   rw [h1]; omega
theorem row_bz (h:Ind m n b) (hd:∀ t,t≤n→sz (dm m b t) D) (hk:k<n) (hs:Size m b k 0) {c:Nat} (hc:c<m):sz (b k c) ((k+1)*(D+1)):=by
 have h1:=(row_sz h hd hk hs k 0 qN).1
 rw [mi_none] at h1
 exact sz_of_sq (sz_le (sq_nn _) (ip_part hc) (h1.mono qN))
theorem LB.uz (h:LB a m n D K b u) (hm:m<18446744073709551616) (hn:n<1048576) {A:Nat} (ha:∀ i c,i<n→c<m→sz (a i c) A) (hd:dm m a n≠0) {i j:Nat} (hi:i<n) (hj:j<n):sz (u i j) (K+A+1+((A+A+2)*n+1)+1):=by
 obtain ⟨n,rfl⟩:∃ n',n=n'+1:=⟨n - 1,by omega⟩
 let G:Mx:=gr m a
 have hG:∀ x y,x<n+1→y<n+1→sz (G x y) (A+A+1):=fun x y hx hy=>ip_sz (fun c hc=>ha x c hx hc) (fun c hc=>ha y c hy hc) hm
 have h1:∀ x,x<n+1→cM (fun s=>u i s*G s x) (n+1)=ip m (b i) (a x):=fun x hx=>by
  unfold ip
  rw [bI (g:=fun c=>b i c*a x c) (g':=fun c=>cM (fun s=>u i s*(a s c*a x c)) (n+1)) fun c hc=>by
   rw [← h.ua i c hi hc]; unfold mm; rw [← fK]; exact bI fun s _=>Int.mul_assoc _ _ _]
  rw [kY]
  refine bI fun s _=>?_
  rw [fY]; rfl
 have hdet:det (n+1) G≠0:=by
  have e:dm m a (n+1)=det (n+1) G:=by
   unfold dm dG
   rw [← det_rev (n+1) G]
   refine bP fun x y hx hy=>?_
   show G ((dn (n+1)).getD x 0) ((dn (n+1)).getD y 0)=G _ _
   rw [q9 hx,q9 hy]
  rw [← e]; exact hd
 have h2:det (n+1) G*u i j=cM (fun x=>ip m (b i) (a x)*adj n G x j) (n+1):=by
  rw [bI (g':=fun x=>cM (fun s=>u i s*(G s x*adj n G x j)) (n+1)) fun x hx=>by
   rw [← h1 x hx,← fK]; exact bI fun s _=>Int.mul_assoc _ _ _]
  rw [kY,bI (g':=fun s=>u i s*(if s=j then det (n+1) G else 0)) fun s hs=>by
   rw [fY,← mul_adj G hs hj]; rfl]
  rw [gW (r:=j) hj fun s _ hsj=>by rw [if_neg hsj,Int.mul_zero],if_pos rfl,Int.mul_comm]
 have h3:sz (det (n+1) G*u i j) (K+A+1+((A+A+2)*(n+1)+1)+1):=by
  rw [h2]
  refine vU (fun x hx=>?_) qN
  refine (ip_sz (fun c hc=>h.bz i c hi hc) (fun c hc=>ha x c hx hc) hm).mul ?_
  unfold adj
  refine sg_sz _ ((det_sz n qN fun p q hp hq=>hG _ _ (uR hp) (uR hq)).mono ?_)
  rw [show A+A+1+1=A+A+2 from rfl,Nat.mul_succ]; omega
 unfold sz at *
 rw [Int.natAbs_mul] at h3
 have h4:1*(u i j).natAbs≤(det (n+1) G).natAbs*(u i j).natAbs:=Nat.mul_le_mul_right _ qN
 omega
theorem LB.full (h:LB a m n D K b u) (hk:k<n) (hK:n*(D+1)≤K) {b' u':Mx} (w:Way m n k b b') (ws:Size m b' k 0) (hrow:∀ i c,i≠k→b' i c=b i c) (hua:∀ i c,i<n→c<m→mm n u' a i c=b' i c) (hun:det n u'=1∨det n u' = -1):LB a m n D K b' u' :=
 have hd:∀ t,t≤n→sz (dm m b' t) D:=fun t ht=>by rw [w.d t ht]; exact h.dz t ht
 ⟨w.ind,hd,fun i c hi hc=>by
  by_cases e:i=k
  ·rw [e]; exact (row_bz w.ind hd hk ws hc).mono (Nat.le_trans (Nat.mul_le_mul_right _ qN) hK)
  ·rw [hrow i c e]; exact h.bz i c hi hc,hua,hun⟩
end
abbrev Jx:=Nat→Nat→Bool×List Nat
def wI (vs:Nat→Value) (R C:Nat) (x:Jx):Own:=⟨R,vs,2,fun _=>C,fun i k=>J (x i k)⟩
theorem fX {vs:Nat→Value} {R C:Nat} {x:Jx} {os:List Own} {fs:List bD} {K:bZ} (pos i j:Nat) (h:a8 os pos=some (wI vs R C x)) (hi:i<R) (hj:j<C) (a:Bool×List Nat) (ha:x i j=a)
  (k:∀ u,K u os ((u,J a)::fs)):kE Tryz.prog 26 (k6 (vs i) (j*2)) os fs K:=by
 subst ha
 exact oT (o:=wI vs R C x) pos i h hi j 0 rfl hj (aK _) (bM _) k
theorem bY {kk:IntKind} {z:Int} {vs:Nat→Value} {R C:Nat} {x:Jx} {os:List Own} {fs:List bD} {K:bZ} (pos i:Nat) (h:a8 os pos=some (wI vs R C x)) (hi:i<R) (hs:isSl (vs i)) (j:Nat) (hz:z=(j:Int)) (hj:j<C)
  (k:K (k6 (vs i) (j*2)) os fs):eM Tryz.prog 22 (vs i) (.int kk z) os fs K :=
 oC (o:=wI vs R C x) pos i h hi (fun r=>by obtain ⟨a,n,c,e⟩:=hs; show vs i≠_; rw [e]; simp) j hz hj k
theorem iU {u:Value} {vs:Nat→Value} {R C:Nat} {x:Jx} {os:List Own} {fs:List bD} {K:bZ} (pos i j:Nat) (h:a8 os pos=some (wI vs R C x)) (hi:i<R) (hj:j<C) (w:Bool×List Nat) (x':Jx)
  (hu:Reads os fs u (J w)) (hx:∀ a b,a<R→b<C→x' a b=if a=i∧b=j then w else x a b) (k:K undef (setOwn os pos (wI vs R C x')) fs) :
  StoreK Tryz.prog 26 (k6 (vs i) (j*2)) u os fs K :=
 pX (d:=J w) pos i (wI vs R C x') h hi j hj rfl qK hu rfl rfl (fun a ha=>⟨rfl,rfl,fun b hb=>by
  show J (x' a b)=if a=i∧b=j then J w else J (x a b)
  rw [hx a b ha hb]; split <;> rfl⟩) k
theorem Seals.fjcong {vs vs':Nat→Value} {R C:Nat} {x x':Jx} {os:List Own} {fs:List bD} (pos:Nat) (h:a8 os pos=some (wI vs R C x)) (s:Nat→Nat) (hs:∀ i,i<R→s i<R∧vs' i=vs (s i)∧∀ k,k<C→x' i k=x (s i) k)
  (hinj:∀ i j,i<R→j<R→s i=s j→i=j):Seals os fs (setOwn os pos (wI vs' R C x')) fs :=
 Seals.re (o':=wI vs' R C x') pos h s rfl (fun i hi=>⟨(hs i hi).1,(hs i hi).2.1,rfl,fun k hk=>by
  show J _=J _
  rw [(hs i hi).2.2 k hk]⟩) hinj
theorem len_fj {t e' ty:TypeId} {size':Nat} {vs:Nat→Value} {R C:Nat} {x:Jx} {os:List Own} {fs:List bD} {K:bZ} [ht:TSl Tryz.prog t e' size'] (pos i:Nat)
  (h:a8 os pos=some (wI vs R C x)) (hi:i<R) (hs:isSl (vs i)) (k:C≤9223372036854775807→K (.int .i64 C) os fs):LenK Tryz.prog [t] ty (vs i) os fs K:=by
 obtain ⟨a,m,c,hv⟩:=hs
 refine ⟨fun G w hw=>?_⟩
 have key:∃ (a':Option Addr) (c':Nat),vs i=.slice a' C c'∧C≤9223372036854775807:=by
  rcases hw.own _ (bF h) i hi with ⟨h1,h2⟩ | ⟨r,cap,h1,b1,b2,b3,_⟩ | ⟨r,h1,_⟩ | ⟨_,_,_,_,_,_,⟨r,_,_,h1,_⟩ | ⟨r,_,_,_,_,_,_,h1,_⟩⟩
  rotate_right
  ·have h1':vs i=_:=h1
   rw [hv] at h1'; simp at h1'
  rotate_right
  ·have h1':vs i=_:=h1
   rw [hv] at h1'; simp at h1'
  ·have h2':C=0:=h2
   exact ⟨none,0,by rw [h2']; exact h1,by omega⟩
  ·have b2':C≤cap:=b2
   exact ⟨some ⟨r,0,none⟩,cap,h1,by unfold maxLen at b3; omega⟩
  ·have h1':vs i=_:=h1
   rw [hv] at h1'; simp at h1'
 obtain ⟨a',c',e,hC⟩:=key
 rw [e]
 exact (len_val (P:=Tryz.prog) (t:=t) (ty:=ty) (a:=a') (n:=C) (c:=c') (os:=os) (fs:=fs) (K:=K) (k hC)).out G w hw
def rv (r:Row):Nat→Int:=fun c=>jv (r.getD c z0)
theorem rv_sz {r:Row} {k:Nat} (h:Fit k r) (c:Nat):sz (rv r c) k:=gY (h.get c).1 (h.get c).2
theorem dot_call {K:bZ} {os:List Own} {fs:List bD} (pos i j:Nat) {vs:Nat→Value} {R C:Nat} {x:Jx} (h:a8 os pos=some (wI vs R C x)) (hi:i<R) (hj:j<R) (hs:∀ i,i<R→isSl (vs i)) {k:Nat} (hx:∀ i c,i<R→c<C→Lim (x i c).2∧(x i c).2.length≤k) (hk:k+k+2≤137438953472) (lm:C≤1073741824)
  (kk:∀ r,K r os ((r,zd (ip C (fun c=>jv (x i c)) (fun c=>jv (x j c))))::fs)):CallK Tryz.prog false (.func (.func 113) #[] #[]) [vs i,vs j] os fs K:=by
 have hz:∀ i c,i<R→c<C→sz (jv (x i c)) k:=fun i c h1 h2=>gY (hx i c h1 h2).1 (hx i c h1 h2).2
 have hsz:∀ t,t≤C→sz (ip t (fun c=>jv (x i c)) (fun c=>jv (x j c))) (k+k+1):=fun t ht=>ip_sz (fun c hc=>hz i c hi qN) (fun c hc=>hz j c hj qN) qN
 have hstep:∀ t,ip (t+1) (fun c=>jv (x i c)) (fun c=>jv (x j c))=ip t (fun c=>jv (x i c)) (fun c=>jv (x j c))+jv (x i t)*jv (x j t):=fun t=>rfl
 have h0:ip 0 (fun c=>jv (x i c)) (fun c=>jv (x j c))=0:=rfl
 generalize hP:(fun t=>ip t (fun c=>jv (x i c)) (fun c=>jv (x j c)))=P
 have hsz':∀ t,t≤C→sz (P t) (k+k+1):=fun t ht=>by rw [← hP]; exact hsz t ht
 have hstep':∀ t,P (t+1)=P t+jv (x i t)*jv (x j t):=fun t=>by rw [← hP]; exact hstep t
 have h0':P 0=0:=by rw [← hP]; exact h0
 have hC:ip C (fun c=>jv (x i c)) (fun c=>jv (x j c))=P C:=by rw [← hP]
 rw [hC] at kk
 have hvi:=hs i hi
 have hvj:=hs j hj
 refine fB Tryz.func113 qK rfl qK (Nat.le_of_ble_eq_true rfl) ?_
 refine aM (d:=I false []) fun o ho=>?_
 refine lE (da:=.one (.bool false)) (db:=U (bT 0)) (fun S w=>⟨[.bool false],[.slice none 0 0],rfl,eJ S w,by rw [bR]; exact gM S w 1 _⟩) fun zz=>?_
 refine aM (d:=I false []) fun s hs'=>?_
 refine aI (d:=zd 0) 0 rfl hs' rfl qK ?_ ?_; exact aC (d:=zd 0) qM
 refine len_fj (pos+2) i h hi hvi fun _=>?_
 refine aO (X:=Nat) (fun t=>([(1,vs j),(4,o),(5,s),(9,vs i),(10,.int .i64 (C:Nat)),(11,.int .i64 (t:Nat))],bE s 2 1 (fun _=>zd (P t))::bE o 2 1 (fun _=>I false [])::os,fs))
  (fun t=>t≤C) (fun t=>C - t) rfl ?_ ?_
 ·exact aU 0 (Nat.zero_le _) trivial qF (aA (bJ (by rw [h0']; rfl)) (aB qD))
 ·rintro t ht
  refine aD _ rfl (fun hc=>?_) (fun hc=>?_)
  ·have htC:t<C:=by omega
   have f1:=hx i t hi htC
   have f2:=hx j t hj htC
   refine bY (pos+2) i h hi hvi t rfl htC ?_
   refine fX (pos+2) i t h hi htC (x i t) rfl fun x1=>?_
   refine aM (d:=I false []) fun q hq=>?_
   refine aI (d:=J (x i t)) 0 rfl hq rfl qK ?_ ?_; exact aC qM
   refine aY [0,1,2,3,4,5,6,7,8] [0,1,2,3,4,5,6,7,8] qK qK ?_
   refine aF (d:=zd (P t)) 1 rfl hs' rfl (aN _ _) fun x2=>?_
   refine aF (d:=J (x i t)) 0 rfl hq rfl (bM _) fun x3=>?_
   refine bY (pos+3) j h hj hvj t rfl htC ?_
   refine fX (pos+3) j t h hj htC (x j t) rfl fun x4=>?_
   refine cG (zMulJ x3 x4 (x i t) (x j t) f1.1 qN f2.1 qN) fun x5=>?_
   refine cG (nH x2 x5 _ _ (k+k+1) (k+k) (hsz' t ht) ((hz i t hi htC).mul (hz j t hj htC)) qN qN) fun x6=>?_
   refine aI (d:=zd (P t+jv (x i t)*jv (x j t))) 1 rfl hs' rfl qK ?_ ?_; exact aC qM
   refine ar rfl qI ?_
   exact aU (t+1) qN (by simp only; omega) qF (dS (aA (bJ (by rw [hstep']; rfl)) (aB qD)))
  ·have htC:t=C:=by omega
   subst htC
   refine aF (d:=zd (P t)) 0 rfl hs' rfl (aN _ _) fun x2=>?_
   refine cG (zNormZ x2 _ (k+k+1) (hsz' _ (Nat.le_refl _)) qN) fun x3=>?_
   refine aI (d:=zd (P t)) 1 rfl ho rfl qK ?_ ?_; exact aC qM
   refine aF (d:=zd (P t)) 1 rfl ho rfl (aN _ _) fun r=>?_
   exact fin (kk r) (dS (dS (aB (fun F hF=>by
    rcases List.mem_cons.1 hF with rfl | hF
    ·exact List.Mem.head _
    ·repeat (first | exact hF | apply List.Mem.tail)))))
theorem gQ (v w:Value) (x y:Int) (a b:Nat) (hx:sz x a) (hy:sz y b) (ha:a≤137438953472) (hb:b≤137438953472) (h0:y≠0) :
  Meets Tryz.prog 114 [v,w] [(v,zd x),(w,zd y)] (fun r os fs=>os=[]∧fs=[(r,zd (x/y))]):=by
 refine mV Tryz.func114 ?_
 refine bA (aC (d:=zd x) qM) fun p hp=>?_
 refine bA (aC (d:=zd y) qM) fun q hq=>?_
 refine aM (d:=I false []) fun o ho=>?_
 refine aF (d:=zd x) 2 rfl hp rfl (aN _ _) fun u1=>?_
 refine aF (d:=zd y) 1 rfl hq rfl (aN _ _) fun u2=>?_
 refine cF (gK u1 u2 x y a b hx hy ha hb h0) ?_
 rintro _ _ _ ⟨rfl,z,m,rfl,rfl⟩
 refine aM (d:=I false []) fun c1 h1=>?_
 refine aM (d:=I false []) fun c2 h2=>?_
 refine aI (d:=zd (x/y)) 1 rfl h1 rfl qK ?_ ?_; exact aC qM
 refine aI (d:=zd (x%y)) 0 rfl h2 rfl qK ?_ ?_; exact aC qM
 refine aF (d:=zd (x/y)) 1 rfl h1 rfl (aN _ _) fun u3=>?_
 refine aI (d:=zd (x/y)) 2 rfl ho rfl qK ?_ ?_; exact aC qM
 refine aF (d:=zd (x/y)) 2 rfl ho rfl (aN _ _) fun r=>?_
 refine fin ⟨rfl,rfl⟩ (aA (aA (aA (aA (dS (aW 0 _ _)) (aW 0 _ _)) (aW 0 _ _)) (aW 0 _ _)) (aB qS))
theorem iO {P:Program} {t ty e:TypeId} {size bytes n:Nat} {a b:Value} {el el' e':Nat→Dat} {os:List Own} {fs:List bD} {K:bZ} [ht:TSl P t e size] [he:TEl P e size bytes] (pos:Nat)
  (h:a8 os pos=some (bE a size n el)) (hs:isSl a) (hb:Knw os fs b (.sl size 1 el')) (he':∀ i,i<n+1→e' i=if i<n then el i else el' 0) (hm:n+1≤9223372036854775807) (hby:(n+1)*bytes≤140737488355328)
  (k:∀ v,isSl v→K v (setOwn os pos (bE v size (n+1) e')) fs):AppendK P [t,t] ty a b os fs K:=by
 have h1:=mY (P:=P) (t:=t) (ty:=ty) (K:=fun u os' fs'=>∃ os'' fs'',Seals os' fs' os'' fs''∧K u os'' fs'') pos h hs hb hm hby
 refine ⟨Dyn.sealed (h1 fun v hv=>⟨_,_,?_,k v hv⟩).out⟩
 have h2:=Seals.own_cong (hsz:=.inl he.pos) (os:=setOwn os pos (bE v size (n+1) (fun i=>if i<n then el i else el' (i - n)))) (fs:=fs) pos (n':=n+1) e' (l4 h) rfl fun i hi=>by
  rw [he' i hi]
  by_cases hin:i<n
  ·rw [if_pos hin,if_pos hin]
  ·rw [if_neg hin,if_neg hin,show i - n=0 by omega]
 rw [set_set] at h2
 exact h2
def rvm (m:List Row):Mx:=fun i=>rv (m.getD i [])
def gmx (m:List Row):Mx:=gr (m.getD 0 []).length (rvm m)
theorem gmx_sz {m:List Row} {k:Nat} (hf:Fits k m) (lc:(m.getD 0 []).length≤1048576) (i j:Nat):sz (gmx m i j) (k+k+1) :=
 ip_sz (fun c _=>rv_sz (hf.get i) c) (fun c _=>rv_sz (hf.get j) c) qN
def linD (m:List Row):Int:=det m.length (gmx m)
end Go.Proofs.YtjebljkoiaojaaaGreat
