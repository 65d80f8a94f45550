/- Towards the statement, part 5 of 6: contracts of functions, and what they rest on. Conditions: each theorem names its own. -/
import Derived.Test.YtjebljkoiaojaaaGreatM4
set_option linter.unusedVariables false
set_option linter.unusedSimpArgs false
namespace Go.Proofs.YtjebljkoiaojaaaGreat
open Go.RowKit
instance iCWe1:tQ Tryz.prog 104 0 0:=⟨_,_,Tryz.underlying104,rfl,rfl,1,by kernel_rfl⟩
instance iCWe2:tQ Tryz.prog 104 1 2:=⟨_,_,Tryz.underlying104,rfl,rfl,0,by kernel_rfl⟩
instance iCWe3:tQ Tryz.prog 104 2 3:=⟨_,_,Tryz.underlying104,rfl,rfl,0,by kernel_rfl⟩
instance iCWe4:tQ Tryz.prog 102 0 0:=⟨_,_,Tryz.underlying102,rfl,rfl,0,by kernel_rfl⟩
instance iCWe5:tQ Tryz.prog 102 1 1:=⟨_,_,Tryz.underlying102,rfl,rfl,0,by kernel_rfl⟩
instance iCWe6:TPtr Tryz.prog 96:=⟨⟨_,Tryz.underlying96⟩⟩
section
variable {P:Program} {t:TypeId} {r o:Nat} {a b c d:Value} {os:List Own} {fs:List bD} {K:bZ}
theorem ld4b [ht:mJ P t] (pos:Nat) (h:a8 os pos=some (jG (eD r 0) a b c d)) (ho:o=0) (k':K a os fs):kE P t (eD r o) os fs K:=load4 pos 0 h ho qE k'
theorem ld4u [ht:mJ P t] (pos:Nat) (h:a8 os pos=some (jG (eD r 0) a b c d)) (ho:o=1) (k':K b os fs):kE P t (eD r o) os fs K:=load4 pos 1 h ho qE k'
theorem nZ [ht:mJ P t] (pos:Nat) (h:a8 os pos=some (jG (eD r 0) a b c d)) (ho:o=2) (k':K c os fs):kE P t (eD r o) os fs K:=load4 pos 2 h ho qE k'
theorem rK [ht:mJ P t] (pos:Nat) (h:a8 os pos=some (jG (eD r 0) a b c d)) (ho:o=3) (k':K d os fs):kE P t (eD r o) os fs K:=load4 pos 3 h ho qE k'
end
structure BS where
 r:Nat
 vb:Value
 vu:Value
 vd:Value
 vl:Value
 sb:Nat→Value
 su:Nat→Value
 sl:Nat→Value
structure BS.ok (s:BS) (n:Nat):Prop where
 vb:isSl s.vb
 vu:isSl s.vu
 vd:isSl s.vd
 vl:isSl s.vl
 sb:∀ i,i<n→isSl (s.sb i)
 su:∀ i,i<n→isSl (s.su i)
 sl:∀ i,i<n→isSl (s.sl i)
abbrev famZ (vs:Nat→Value) (R C:Nat) (x:Mx):Own:=wI vs R C fun i j=>cn (x i j)
def bas (s:BS) (m n:Nat) (b u:Jx) (d:Nat→Int) (l:Mx) (os:List Own):List Own :=
 jG (eD s.r 0) s.vb s.vu s.vd s.vl::wI s.sb n m b::bE s.vb 1 n (fun i=>.one (s.sb i))::wI s.su n n u::bE s.vu 1 n (fun i=>.one (s.su i)) ::
  bE s.vd 2 (n+1) (fun i=>zd (d i))::famZ s.sl n n l::bE s.vl 1 n (fun i=>.one (s.sl i))::os
theorem kW {vs:Nat→Value} {R C:Nat} {x:Mx} {os:List Own} {fs:List bD} {K:bZ} (pos i j:Nat) (h:a8 os pos=some (famZ vs R C x)) (hi:i<R) (hj:j<C)
  (k:∀ u,K u os ((u,zd (x i j))::fs)):kE Tryz.prog 26 (k6 (vs i) (j*2)) os fs K:=fX pos i j h hi hj (cn (x i j)) rfl k
theorem sz_add2 {x y:Int} {a b:Nat} (hx:sz x a) (hy:sz y b):sz (x+y) (a+b+1):=by
 have h:=iL (hx.mono (show a≤a+b by omega)) ((hy.neg).mono (show b≤a+b by omega))
 rw [show x - -y=x+y by omega] at h
 exact h
theorem sz_num (x:Int) (h:x.natAbs<18446744073709551616):sz x 1:=by unfold sz; simpa using h
theorem sgn_ge {x:Int} (h:0≤x.sign):0≤x:=by
 rcases Int.lt_trichotomy x 0 with e | e | e
 ·rw [Int.sign_eq_neg_one_of_neg e] at h; omega
 ·omega
 ·omega
theorem sgn_ltW {x:Int} (h:¬ 0≤x.sign):x<0:=by
 rcases Int.lt_trichotomy x 0 with e | e | e
 ·exact e
 ·rw [e] at h; simp at h
 ·rw [Int.sign_eq_one_of_pos e] at h; omega
def farN (d:Nat→Int) (l:Mx) (k:Nat):Prop:=3*(d k*d k)≤4*(d (k+1)*d (k - 1)+l k (k - 1)*l k (k - 1))
instance (d:Nat→Int) (l:Mx) (k:Nat):Decidable (farN d l k):=inferInstanceAs (Decidable (_≤_))
theorem far_call {K:bZ} {os:List Own} {fs:List bD} {s:BS} {m n:Nat} {b u:Jx} {d:Nat→Int} {l:Mx} (k D L:Nat) (h1k:1≤k) (hn:k<n) (hN:n≤1048576) (hs:s.ok n) (hd:∀ t,t≤n→sz (d t) D) (hl:∀ i j,j<i→i<n→sz (l i j) L)
  (hD:D≤1073741824) (hL:L≤1073741824) (kk:K (.bool (decide (farN d l k))) (bas s m n b u d l os) fs) :
  CallK Tryz.prog false (.func (.func 73) #[] #[]) [eD s.r 0,.int .i64 (k:Nat)] (bas s m n b u d l os) fs K:=by
 have hd1:=hd (k+1) qN
 have hdm:=hd (k - 1) qN
 have hdk:=hd k qN
 have hlk:=hl k (k - 1) qN hn
 have hA:sz (d (k+1)*d (k - 1)+l k (k - 1)*l k (k - 1)) (D+D+(L+L)+1):=sz_add2 (hd1.mul hdm) (hlk.mul hlk)
 have f2:(2:Int)^far 2=4:=by decide
 have c1:=fun y=>zShlZ y (d (k+1)*d (k - 1)+l k (k - 1)*l k (k - 1)) 2 _ hA qN
 rw [f2] at c1
 refine fB Tryz.func73 qK rfl qK (Nat.le_of_ble_eq_true rfl) ?_
 refine k7 (X:=Value) (fun z=>([(0,eD s.r 0),(1,.int .i64 (k:Nat)),(4,.bool false),(5,z)],bE z 2 1 (fun _=>zd (d (k+1)*d (k - 1)+l k (k - 1)*l k (k - 1)))::bas s m n b u d l os,fs)) l5 ?_ ?_
 ·
  refine gO [0,1,2,3,4,5,6,7,8,9,10,11,12,13,14,15,16,17,18,19,20,21,22,23,24,25,26,27,28,29,30,31,32,33,34,35,36,37,38,39,40,41,42] qK ?_
  refine a9 16 41 qK qK qK ?_ ?_
  ·refine a9 39 41 qK qK qK ?_ ?_
   ·refine a9 40 41 qK qK qK ?_ ?_
    ·refine eE [0,1,2,3,4,5,6,7,8,9,10,11,12,13,14,15,17,18,19,20,21,22,23,24,25,26,27,28,29,30,31,32,33,34,35,36,37,38,16,39,40,41,42] qK qK ?_
     refine aV ?_
     refine nZ 0 rfl rfl ?_
     refine ar rfl qI ?_
     refine aE 5 rfl hs.vd (k+1) qN qN ?_
     refine bK (d:=zd (d (k+1))) 5 rfl (k+1) qN rfl (aN _ _) fun y1=>?_
     refine aV ?_
     refine nZ 0 rfl rfl ?_
     refine ar rfl qI ?_
     refine aE 5 rfl hs.vd (k - 1) qN qN ?_
     refine bK (d:=zd (d (k - 1))) 5 rfl (k - 1) qN rfl (aN _ _) fun y2=>?_
     refine aV ?_
     refine rK 0 rfl rfl ?_
     refine aE 7 rfl hs.vl (k) qN qN ?_
     refine aG 7 rfl (k) qN (u:=s.sl (k)) rfl ?_
     refine ar rfl qI ?_
     refine bY 6 (k) rfl qN (hs.sl (k) qN) (k - 1) qN qN ?_
     refine kW 6 (k) (k - 1) rfl qN qN fun y3=>?_
     refine aV ?_
     refine rK 0 rfl rfl ?_
     refine aE 7 rfl hs.vl (k) qN qN ?_
     refine aG 7 rfl (k) qN (u:=s.sl (k)) rfl ?_
     refine ar rfl qI ?_
     refine bY 6 (k) rfl qN (hs.sl (k) qN) (k - 1) qN qN ?_
     refine kW 6 (k) (k - 1) rfl qN qN fun y4=>?_
     refine cG (fQ y1 y2 (d (k+1)) (d (k - 1)) D D hd1 hdm qN qN) fun z1=>?_
     refine cG (fQ y3 y4 (l k (k - 1)) (l k (k - 1)) L L hlk hlk qN qN) fun z2=>?_
     refine cG (nH z1 z2 _ _ (D+D) (L+L) (hd1.mul hdm) (hlk.mul hlk) qN qN) fun z3=>?_
     refine aM (d:=I false []) fun b1 h1=>?_
     refine aI (d:=zd (d (k+1)*d (k - 1)+l k (k - 1)*l k (k - 1))) 0 rfl h1 rfl qK (aC qM) ?_
     exact aU b1 h1 trivial qF (aA (bJ rfl) (aB qD))
    ·refine eE [0,1,2,3,4,5,6,7,8,9,10,11,12,13,14,15,17,18,19,20,21,22,23,24,25,26,27,28,29,30,31,32,33,34,35,36,37,38,16,39,41,40,42] qK qK ?_
     refine aV ?_
     refine nZ 0 rfl rfl ?_
     refine ar rfl qI ?_
     refine aE 5 rfl hs.vd (k+1) qN qN ?_
     refine bK (d:=zd (d (k+1))) 5 rfl (k+1) qN rfl (aN _ _) fun y1=>?_
     refine aV ?_
     refine nZ 0 rfl rfl ?_
     refine ar rfl qI ?_
     refine aE 5 rfl hs.vd (k - 1) qN qN ?_
     refine bK (d:=zd (d (k - 1))) 5 rfl (k - 1) qN rfl (aN _ _) fun y2=>?_
     refine aV ?_
     refine rK 0 rfl rfl ?_
     refine aE 7 rfl hs.vl (k) qN qN ?_
     refine aG 7 rfl (k) qN (u:=s.sl (k)) rfl ?_
     refine ar rfl qI ?_
     refine bY 6 (k) rfl qN (hs.sl (k) qN) (k - 1) qN qN ?_
     refine kW 6 (k) (k - 1) rfl qN qN fun y3=>?_
     refine aV ?_
     refine rK 0 rfl rfl ?_
     refine aE 7 rfl hs.vl (k) qN qN ?_
     refine aG 7 rfl (k) qN (u:=s.sl (k)) rfl ?_
     refine ar rfl qI ?_
     refine bY 6 (k) rfl qN (hs.sl (k) qN) (k - 1) qN qN ?_
     refine kW 6 (k) (k - 1) rfl qN qN fun y4=>?_
     refine cG (fQ y1 y2 (d (k+1)) (d (k - 1)) D D hd1 hdm qN qN) fun z1=>?_
     refine cG (fQ y3 y4 (l k (k - 1)) (l k (k - 1)) L L hlk hlk qN qN) fun z2=>?_
     refine aM (d:=I false []) fun b1 h1=>?_
     refine cG (nH z1 z2 _ _ (D+D) (L+L) (hd1.mul hdm) (hlk.mul hlk) qN qN) fun z3=>?_
     refine aI (d:=zd (d (k+1)*d (k - 1)+l k (k - 1)*l k (k - 1))) 0 rfl h1 rfl qK (aC qM) ?_
     exact aU b1 h1 trivial qF (aA (bJ rfl) (aB qD))
   ·refine eE [0,1,2,3,4,5,6,7,8,9,10,11,12,13,14,15,17,18,19,20,21,22,23,24,25,26,27,28,29,30,31,32,33,34,35,36,37,38,16,41,39,40,42] qK qK ?_
    refine aV ?_
    refine nZ 0 rfl rfl ?_
    refine ar rfl qI ?_
    refine aE 5 rfl hs.vd (k+1) qN qN ?_
    refine bK (d:=zd (d (k+1))) 5 rfl (k+1) qN rfl (aN _ _) fun y1=>?_
    refine aV ?_
    refine nZ 0 rfl rfl ?_
    refine ar rfl qI ?_
    refine aE 5 rfl hs.vd (k - 1) qN qN ?_
    refine bK (d:=zd (d (k - 1))) 5 rfl (k - 1) qN rfl (aN _ _) fun y2=>?_
    refine aV ?_
    refine rK 0 rfl rfl ?_
    refine aE 7 rfl hs.vl (k) qN qN ?_
    refine aG 7 rfl (k) qN (u:=s.sl (k)) rfl ?_
    refine ar rfl qI ?_
    refine bY 6 (k) rfl qN (hs.sl (k) qN) (k - 1) qN qN ?_
    refine kW 6 (k) (k - 1) rfl qN qN fun y3=>?_
    refine aV ?_
    refine rK 0 rfl rfl ?_
    refine aE 7 rfl hs.vl (k) qN qN ?_
    refine aG 7 rfl (k) qN (u:=s.sl (k)) rfl ?_
    refine ar rfl qI ?_
    refine bY 6 (k) rfl qN (hs.sl (k) qN) (k - 1) qN qN ?_
    refine kW 6 (k) (k - 1) rfl qN qN fun y4=>?_
    refine cG (fQ y1 y2 (d (k+1)) (d (k - 1)) D D hd1 hdm qN qN) fun z1=>?_
    refine aM (d:=I false []) fun b1 h1=>?_
    refine cG (fQ y3 y4 (l k (k - 1)) (l k (k - 1)) L L hlk hlk qN qN) fun z2=>?_
    refine cG (nH z1 z2 _ _ (D+D) (L+L) (hd1.mul hdm) (hlk.mul hlk) qN qN) fun z3=>?_
    refine aI (d:=zd (d (k+1)*d (k - 1)+l k (k - 1)*l k (k - 1))) 0 rfl h1 rfl qK (aC qM) ?_
    exact aU b1 h1 trivial qF (aA (bJ rfl) (aB qD))
  ·refine eE [0,1,2,3,4,5,6,7,8,9,10,11,12,13,14,15,17,18,19,20,21,22,23,24,25,26,27,28,29,30,31,32,33,34,35,36,37,38,41,16,39,40,42] qK qK ?_
   refine aV ?_
   refine nZ 0 rfl rfl ?_
   refine ar rfl qI ?_
   refine aE 5 rfl hs.vd (k+1) qN qN ?_
   refine bK (d:=zd (d (k+1))) 5 rfl (k+1) qN rfl (aN _ _) fun y1=>?_
   refine aV ?_
   refine nZ 0 rfl rfl ?_
   refine ar rfl qI ?_
   refine aE 5 rfl hs.vd (k - 1) qN qN ?_
   refine bK (d:=zd (d (k - 1))) 5 rfl (k - 1) qN rfl (aN _ _) fun y2=>?_
   refine aV ?_
   refine rK 0 rfl rfl ?_
   refine aE 7 rfl hs.vl (k) qN qN ?_
   refine aG 7 rfl (k) qN (u:=s.sl (k)) rfl ?_
   refine ar rfl qI ?_
   refine bY 6 (k) rfl qN (hs.sl (k) qN) (k - 1) qN qN ?_
   refine kW 6 (k) (k - 1) rfl qN qN fun y3=>?_
   refine aV ?_
   refine rK 0 rfl rfl ?_
   refine aE 7 rfl hs.vl (k) qN qN ?_
   refine aG 7 rfl (k) qN (u:=s.sl (k)) rfl ?_
   refine ar rfl qI ?_
   refine bY 6 (k) rfl qN (hs.sl (k) qN) (k - 1) qN qN ?_
   refine kW 6 (k) (k - 1) rfl qN qN fun y4=>?_
   refine aM (d:=I false []) fun b1 h1=>?_
   refine cG (fQ y1 y2 (d (k+1)) (d (k - 1)) D D hd1 hdm qN qN) fun z1=>?_
   refine cG (fQ y3 y4 (l k (k - 1)) (l k (k - 1)) L L hlk hlk qN qN) fun z2=>?_
   refine cG (nH z1 z2 _ _ (D+D) (L+L) (hd1.mul hdm) (hlk.mul hlk) qN qN) fun z3=>?_
   refine aI (d:=zd (d (k+1)*d (k - 1)+l k (k - 1)*l k (k - 1))) 0 rfl h1 rfl qK (aC qM) ?_
   exact aU b1 h1 trivial qF (aA (bJ rfl) (aB qD))
 rintro bx hbx
 refine aY [0,3,4,5,6,7,8,9,10,11,12,13,14,15,16,1,2,17,18,19,20,21] [0,1,2,3,4,5,6,7,8,9,10,11,12,13,14,15,16,17,18,19,20,21] qK qK ?_
 refine aF (d:=zd (d (k+1)*d (k - 1)+l k (k - 1)*l k (k - 1))) 0 rfl hbx rfl (aN _ _) fun y1=>?_
 refine aV ?_
 refine nZ 1 rfl rfl ?_
 refine aE 6 rfl hs.vd (k) qN qN ?_
 refine bK (d:=zd (d (k))) 6 rfl (k) qN rfl (aN _ _) fun y2=>?_
 refine aV ?_
 refine nZ 1 rfl rfl ?_
 refine aE 6 rfl hs.vd (k) qN qN ?_
 refine bK (d:=zd (d (k))) 6 rfl (k) qN rfl (aN _ _) fun y3=>?_
 refine cG (c1 y1) fun z1=>?_
 refine cG (dN 3 qE qE) fun z2=>?_
 refine cG (fQ y2 y3 (d k) (d k) D D hdk hdk qN qN) fun z3=>?_
 refine cG (fQ z2 z3 3 (d k*d k) 1 (D+D) (sz_num 3 qE) (hdk.mul hdk) qE qN) fun z4=>?_
 refine cH (zCmpSZ z1 z4 _ _ (D+D+(L+L)+1+1) (1+(D+D)) (hA.mul (sz_num 4 qE)) ((sz_num 3 qE).mul (hdk.mul hdk)) qN qN) ?_
 refine aD _ rfl (fun hc=>?_) (fun hc=>?_)
 ·have e:farN d l k:=by have:=sgn_ge hc; unfold farN; omega
  rw [decide_eq_true e] at kk
  exact fin kk (dS (aB qD))
 ·have e:¬ farN d l k:=by have:=sgn_ltW hc; unfold farN; omega
  rw [decide_eq_false e] at kk
  exact fin kk (dS (aB qD))
theorem info_sll:(Tryz.prog.info? 39).map (fun i=>(i.zero,i.size,i.bytes))=some (some (.slice none 0 0),1,24):=by kernel_rfl
instance iCWf1:TEl Tryz.prog 39 1 24:=tel info_sll rfl qE
instance iCWf2:TSl Tryz.prog 105 39 1:=⟨Tryz.underlying105,by kernel_rfl⟩
theorem zSubJZ (v w:Value) (x:Bool×List Nat) (y:Int) (a:Nat) (hx:Lim x.2) (lx:x.2.length≤137438953472) (hy:sz y a) (ha:a≤137438953472) :
  Meets Tryz.prog 96 [v,w] [(v,J x),(w,zd y)] (fun r os fs=>os=[]∧fs=[(r,zd (jv x - y))]):=by
 have h:=rL v w x.1 (cn y).1 x.2 (cn y).2 hx (a0 _) lx (Nat.le_trans hy.len ha)
 have e:iv (cn y).1 (cn y).2=y:=nC y
 rw [e] at h
 exact h
def Rp (R C:Nat) (x:Jx) (B:Mx) (K:Nat):Prop:=∀ i c,i<R→c<C→jv (x i c)=B i c∧Lim (x i c).2∧(x i c).2.length≤K
def mid (x:Jx) (k j:Nat) (q:Int) (c:Nat):Jx:=fun i a=>if i=k∧a<c then cn (jv (x k a) - q*jv (x j a)) else x i a
theorem mid_zero (x:Jx) (k j:Nat) (q:Int):mid x k j q 0=x:=by
 funext i a; unfold mid; rw [if_neg qN]
theorem redq_zero (B:Mx) (k j:Nat):redq B k j 0=B:=by
 funext i c; unfold redq; split
 ·rename_i e; rw [e]; omega
 ·rfl
def selb {α:Type} (x y:α):Nat→α
 | 0=>x
 | _=>y
def selu {α:Type} (x y:α):Nat→α
 | 0=>x
 | 1=>x
 | _=>y
theorem less_call {K:bZ} {F:Own} {os:List Own} {fs:List bD} {s:BS} {m n:Nat} {b u:Jx} {d:Nat→Int} {l:Mx} (v:Value) (q:Int) (k j Q B:Nat) (hk:k<n) (hj:j<k) (hN:n≤1048576) (hM:m≤1048576) (hs:s.ok n) {Bm Um:Mx}
  (hb:Rp n m b Bm B) (hu:Rp n n u Um B) (hq:sz q Q) (hQ:Q≤1073741824) (hB:B≤1073741824) (hv:(v,zd q)∈fs)
  (kk:∀ r,K r (F::bas s m n (mid b k j q m) (mid u k j q n) d l os) fs) :
  CallK Tryz.prog false (.func (.func 116) #[] #[]) [eD s.r 0,.int .i64 (k:Nat),.int .i64 (j:Nat),v] (F::bas s m n b u d l os) fs K:=by
 have hj:j<n:=by omega
 have hjk:j≠k:=by omega
 have z1:=hs.vb
 have z2:=hs.vu
 have z3:=hs.sb
 have z4:=hs.su
 refine fB Tryz.func116 qK rfl qK (Nat.le_of_ble_eq_true rfl) ?_
 refine bA (aC (d:=zd q) hv) fun qb hqb=>?_
 refine aY [0,1,2,3,4,5,6,7,10,8,9] [0,1,2,3,4,5,6,7,8,9,10] qK qK ?_
 refine aV ?_
 refine ld4b 2 rfl rfl ?_
 refine aV ?_
 refine ld4u 2 rfl rfl ?_
 refine cZ (size:=1) (n:=2) [s.vb,s.vu] [.one s.vb,.one s.vu] rfl rfl qE qE ⟨bW hs.vb.one,rfl,bW hs.vu.one,rfl,trivial⟩ fun lt=>?_
 refine aT (n:=2) qM fun _=>?_
 refine aO (X:=Nat) (fun t=>([(0,eD s.r 0),(1,.int .i64 (k:Nat)),(2,.int .i64 (j:Nat)),(7,qb),(19,lt),(20,.int .i64 2),(21,.int .i64 (t:Nat))],
   bE qb 2 1 (fun _=>zd q)::F::bas s m n (selb b (mid b k j q m) t) (selu u (mid u k j q n) t) d l os,(lt,.sl 1 2 fun i=>[Dat.one s.vb,Dat.one s.vu].getD i (.one undef))::fs))
   (fun t=>t≤2) (fun t=>2 - t) rfl ?_ ?_
 ·exact aU 0 (Nat.zero_le _) trivial qF (aB qD)
 ·rintro t ht
  refine aD _ rfl (fun hc=>?_) (fun hc=>?_)
  ·have htt:t=0∨t=1:=by omega
   rcases htt with rfl | rfl
   ·
    refine aQ (n:=2) qM 0 rfl qE fun a1=>?_
    refine bO (u:=s.vb) qM ?_
    refine aE 4 rfl z1 k rfl qN ?_
    refine aG 4 rfl k qN (u:=s.sb k) rfl ?_
    refine len_fj 3 k rfl hk (z3 k hk) fun _=>?_
    refine aO (X:=Nat) (fun c=>([(0,eD s.r 0),(1,.int .i64 (k:Nat)),(2,.int .i64 (j:Nat)),(7,qb),(9,s.vb),(19,lt),(20,.int .i64 2),(21,.int .i64 (0:Nat)),(29,.int .i64 (m:Nat)),(30,.int .i64 (c:Nat))],
      bE qb 2 1 (fun _=>zd q)::F::bas s m n (mid b k j q c) (u) d l os,(lt,.sl 1 2 fun i=>[Dat.one s.vb,Dat.one s.vu].getD i (.one undef))::fs))
      (fun c=>c≤m) (fun c=>m - c) rfl ?_ ?_
    ·exact aU 0 (Nat.zero_le _) trivial qF (by rw [mid_zero]; exact aB qD)
    ·rintro c hcm
     refine aD _ rfl (fun hlt=>?_) (fun hlt=>?_)
     have hcC:c<m:=by omega
     refine aY [0,1,2,3,4,5,6,7,8,9,10,11,12,13,14,15,16,17,18,19,20,21,22,23] [0,1,2,3,4,5,6,7,8,9,10,11,12,13,14,15,16,17,18,19,20,21,22,23] qK qK ?_
     refine aE 4 rfl z1 k rfl qN ?_
     refine aG 4 rfl k qN (u:=s.sb k) rfl ?_
     refine aE 4 rfl z1 k rfl qN ?_
     refine aG 4 rfl k qN (u:=s.sb k) rfl ?_
     refine bY 3 k rfl hk (z3 k hk) c rfl hcC ?_
     refine fX 3 k c rfl hk hcC (b k c) (by unfold mid; rw [if_neg qN]) fun y1=>?_
     refine aF (d:=zd q) 0 rfl hqb rfl (aN _ _) fun y2=>?_
     refine aE 4 rfl z1 j rfl qN ?_
     refine aG 4 rfl j qN (u:=s.sb j) rfl ?_
     refine bY 3 j rfl hj (z3 j hj) c rfl hcC ?_
     refine fX 3 j c rfl hj hcC (b j c) (by unfold mid; rw [if_neg qN]) fun y3=>?_
     have f1:=hb k c hk hcC
     have f2:=hb j c hj hcC
     refine cG (zMulZJ y2 y3 q (b j c) Q hq qN f2.2.1 qN) fun y4=>?_
     refine cG (zSubJZ y1 y4 (b k c) (q*jv (b j c)) _ f1.2.1 qN (hq.mul (gY f2.2.1 f2.2.2)) qN) fun y5=>?_
     refine bY 3 k rfl hk (z3 k hk) c rfl hcC ?_
     refine iU 3 k c rfl hk hcC (cn (jv (b k c) - q*jv (b j c))) (mid b k j q (c+1)) (aC (d:=zd (jv (b k c) - q*jv (b j c))) qM) (fun a b' ha hb'=>?_) ?_
     ·unfold mid
      by_cases e:a=k∧b'=c
      ·rw [if_pos e,if_pos ⟨e.1,by omega⟩,e.2]
      ·rw [if_neg e]
       by_cases e2:a=k∧b'<c
       ·rw [if_pos e2,if_pos ⟨e2.1,by omega⟩]
       ·rw [if_neg e2,if_neg qN]
     refine ar rfl qI ?_
     exact aU (c+1) qN (by simp only; omega) qF (aB qD)
     have hcC:c=m:=by omega
     subst hcC
     refine ar rfl qI ?_
     exact aU 1 qN (by simp only; omega) qF (aB qD)
   ·
    refine aQ (n:=2) qM 1 rfl qE fun a1=>?_
    refine bO (u:=s.vu) qM ?_
    refine aE 6 rfl z2 k rfl qN ?_
    refine aG 6 rfl k qN (u:=s.su k) rfl ?_
    refine len_fj 5 k rfl hk (z4 k hk) fun _=>?_
    refine aO (X:=Nat) (fun c=>([(0,eD s.r 0),(1,.int .i64 (k:Nat)),(2,.int .i64 (j:Nat)),(7,qb),(9,s.vu),(19,lt),(20,.int .i64 2),(21,.int .i64 (1:Nat)),(29,.int .i64 (n:Nat)),(30,.int .i64 (c:Nat))],
      bE qb 2 1 (fun _=>zd q)::F::bas s m n (mid b k j q m) (mid u k j q c) d l os,(lt,.sl 1 2 fun i=>[Dat.one s.vb,Dat.one s.vu].getD i (.one undef))::fs))
      (fun c=>c≤n) (fun c=>n - c) rfl ?_ ?_
    ·exact aU 0 (Nat.zero_le _) trivial qF (by rw [mid_zero]; exact aB qD)
    ·rintro c hcm
     refine aD _ rfl (fun hlt=>?_) (fun hlt=>?_)
     have hcC:c<n:=by omega
     refine aY [0,1,2,3,4,5,6,7,8,9,10,11,12,13,14,15,16,17,18,19,20,21,22,23] [0,1,2,3,4,5,6,7,8,9,10,11,12,13,14,15,16,17,18,19,20,21,22,23] qK qK ?_
     refine aE 6 rfl z2 k rfl qN ?_
     refine aG 6 rfl k qN (u:=s.su k) rfl ?_
     refine aE 6 rfl z2 k rfl qN ?_
     refine aG 6 rfl k qN (u:=s.su k) rfl ?_
     refine bY 5 k rfl hk (z4 k hk) c rfl hcC ?_
     refine fX 5 k c rfl hk hcC (u k c) (by unfold mid; rw [if_neg qN]) fun y1=>?_
     refine aF (d:=zd q) 0 rfl hqb rfl (aN _ _) fun y2=>?_
     refine aE 6 rfl z2 j rfl qN ?_
     refine aG 6 rfl j qN (u:=s.su j) rfl ?_
     refine bY 5 j rfl hj (z4 j hj) c rfl hcC ?_
     refine fX 5 j c rfl hj hcC (u j c) (by unfold mid; rw [if_neg qN]) fun y3=>?_
     have f1:=hu k c hk hcC
     have f2:=hu j c hj hcC
     refine cG (zMulZJ y2 y3 q (u j c) Q hq qN f2.2.1 qN) fun y4=>?_
     refine cG (zSubJZ y1 y4 (u k c) (q*jv (u j c)) _ f1.2.1 qN (hq.mul (gY f2.2.1 f2.2.2)) qN) fun y5=>?_
     refine bY 5 k rfl hk (z4 k hk) c rfl hcC ?_
     refine iU 5 k c rfl hk hcC (cn (jv (u k c) - q*jv (u j c))) (mid u k j q (c+1)) (aC (d:=zd (jv (u k c) - q*jv (u j c))) qM) (fun a b' ha hb'=>?_) ?_
     ·unfold mid
      by_cases e:a=k∧b'=c
      ·rw [if_pos e,if_pos ⟨e.1,by omega⟩,e.2]
      ·rw [if_neg e]
       by_cases e2:a=k∧b'<c
       ·rw [if_pos e2,if_pos ⟨e2.1,by omega⟩]
       ·rw [if_neg e2,if_neg qN]
     refine ar rfl qI ?_
     exact aU (c+1) qN (by simp only; omega) qF (aB qD)
     have hcC:c=n:=by omega
     subst hcC
     refine ar rfl qI ?_
     exact aU 2 qN (by simp only; omega) qF (aB qD)
  ·have ht2:t=2:=by omega
   subst ht2
   exact fin (kk _) (dS (aB qD))
theorem oper_wp_mono2 {P:Program} {o:Oper} {a:Act} {w:World} {K K':Act→World→Prop} {Q Q':Exit→Act→World→Prop} (h:∀ a w,K a w→K' a w) (hE:∀ e a w,e≠.normal→Q e a w→Q' e a w)
  (hh:o.wp P a w K Q):o.wp P a w K' Q':=by
 unfold Oper.wp at *
 generalize (execOp a.eval o).run P w=r at *
 cases r with
 | ok n w' =>
  cases n <;> simp only [Oper.upon] at hh ⊢ <;>
   first
    | exact h _ _ hh
    | exact Calls.mono hh (fun e w'' he=>by cases e <;> first | exact h _ _ he | exact hE _ _ _ qP he | exact (let ⟨a,w,h⟩:=(he:LetsOut Q); ⟨a,w,hE _ _ _ qP h⟩))
    | exact Rows.mono hh (fun _ _ he=>h _ _ he)
    | exact hE _ _ _ qP hh
    | exact hh
 | halt x w'=>cases x <;> simp only [Oper.upon] at hh ⊢ <;> first | exact hh | exact hE _ _ _ qP hh
theorem wpOps_take {P:Program} {n:Nat} {L:List Oper} {Q Q0:Exit→Act→World→Prop} (h0:∀ a w,Q0 .normal a w→wpOps P L.toArray Q [n] a w) (hE:∀ e a w,e≠.normal→Q0 e a w→Q e a w) (hL:LetsOut Q0→LetsOut Q)
  (hg:∀ i o,i<n→L[i]? = some o→o.guard=none):∀ (pre:List Nat),(∀ i,i∈pre→i<n)→∀ a w,wpOps P (L.take n).toArray Q0 pre a w→wpOps P L.toArray Q (pre++[n]) a w
 | [],_,a,w,h=>h0 a w h
 | i::rest,hi,a,w,h=>by
  have ih:=wpOps_take h0 hE hL hg rest (fun j hj=>hi j (List.mem_cons_of_mem _ hj))
  have hin:=hi i (List.mem_cons_self ..)
  have e1:(L.take n).toArray[i]? = L.toArray[i]? := by
   rw [List.getElem?_toArray,List.getElem?_toArray,List.getElem?_take]; simp [hin]
  simp only [List.cons_append,wpOps,e1] at h ⊢
  cases ho:L.toArray[i]? with
  | none=>rw [ho] at h; exact ih a w h
  | some o =>
   rw [ho] at h
   have hgo:=hg i o hin (by simpa using ho)
   have hw1:∀ y,Region.wanted o y=true:=fun y=>by simp [Region.wanted,hgo]
   simp only [hw1,if_true] at h ⊢
   exact h.imp (oper_wp_mono2 (fun a w h=>ih a w h) hE) (fun h=>⟨h.1,hL h.2⟩)
def lastOK (L:List Oper) (c g:List Nat) (n:Nat):Bool :=
 Nat.beq L.length (n+1)&&pO L.length g 0 L&&ordOK (L.take n) c&&(List.range n).all (fun i=>anc (rG L []) i n)&&(L.take n).all (fun o=>match o.guard with
  | none=>true
  | some _=>false)
theorem draw_last {P:Program} {N id:Nat} {L:List Oper} {f:Fr} {os:List Own} {fs:List bD} {K:lJ} (c g:List Nat) (n:Nat) (hok:lastOK L c g n=true) (hdst:gN N L=true) (hd0:gN N (L.take n)=true)
  (k:VCops P true (L.take n) (jI (L.take n) c) f os fs fun f os fs=>VCops P false L (jI L [n]) f os fs K):DrawK P N id L f os fs K:=by
 simp only [lastOK,Bool.and_eq_true] at hok
 obtain ⟨⟨⟨⟨h1,h2⟩,h3⟩,h4⟩,h5⟩:=hok
 have hlen:L.length=n+1:=Nat.eq_of_beq_eq_true h1
 have hanc:∀ i,i<n→Tc L i n:=fun i hi=>tP (List.all_eq_true.1 h4 i (by simpa using hi))
 have hg:∀ i o,i<n→L[i]? = some o→o.guard=none:=fun i o hi ho=>by
  have hm:o∈L.take n:=List.mem_of_getElem? (i:=i) (by rw [List.getElem?_take]; simp [hi,ho])
  have:=List.all_eq_true.1 h5 o hm
  cases e:o.guard with
  | none=>rfl
  | some _=>simp [e] at this
 have htl:(L.take n).length=n:=by rw [List.length_take,hlen]; omega
 refine ⟨fun G Q hQ a w hk hw=>wp_region_draw fun t=>?_⟩
 have hord:=sR h2 (P.follows .mixedOrders) t
 generalize Region.schedule _ L.toArray t=l at hord
 have hw':Holds G os fs { w with drawn:=w.drawn+1 }:=hw.grow ((Below.refl w.heap.size w).drew)
 generalize ({ w with drawn:=w.drawn+1 }:World)=w1 at hw'
 obtain ⟨pre,post,rfl⟩:=List.append_of_mem ((hord.all n).2 qN)
 have hnod:=hord.nodup
 have hclosed:∀ i,i∈pre→∀ j,jL .any L j i→j∈pre:=fun i hi j hj=>by
  obtain ⟨p1,p2,rfl⟩:=List.append_of_mem hi
  exact List.mem_append_left _ (hord.before p1 i (p2++n::post) qP j hj)
 have hall:∀ i,i<n→i∈pre:=fun i hi=>(hanc i hi).closed hclosed (fun j hj=>hord.before pre n post rfl j hj)
 have hpost:post=[]:=by
  cases post with
  | nil=>rfl
  | cons x r =>
   exfalso
   have hx:x<n+1:=by rw [← hlen]; exact (hord.all x).1 qP
   have hne:x≠n:=fun e=>by subst e; simp [List.nodup_append] at hnod
   have hxp:=hall x qN
   rw [List.nodup_append] at hnod
   exact hnod.2.2 x hxp x qP rfl
 subst hpost
 have hlt:∀ i,i∈pre→i<n:=fun i hi=>by
  have:i<L.length:=(hord.all i).1 (by simp [hi])
  have hne:i≠n:=fun e=>by
   subst e
   rw [List.nodup_append] at hnod
   exact hnod.2.2 i hi i qP rfl
  omega
 have hget:∀ i,i<n→(L.take n)[i]? = L[i]? := fun i hi=>by rw [List.getElem?_take]; simp [hi]
 have hord0:oJ .any (L.take n) pre:=by
  refine ⟨(List.nodup_append.1 hnod).1,fun i=>⟨fun hi=>by rw [htl]; exact hlt i hi,fun hi=>hall i (by rw [htl] at hi; exact hi)⟩,fun p i q hp j hj=>?_⟩
  obtain ⟨o,g1,e,g2,g3,g4⟩:=hj
  have hi:=hlt i (by rw [hp]; simp)
  rw [hget i hi] at g1
  exact hord.before p i (q++[n]) (by rw [hp]; simp) j ⟨o,g1,e,g2,g3,g4⟩
 let K0:lJ:=fun f os fs=>VCops P false L (jI L [n]) f os fs K
 let Q0:pC:=fun e=>match e with
  | .normal=>K0
  | e=>Q e
 have hE:∀ e a w,e≠.normal→tW N G Q0 e a w→tW N G Q e a w:=fun e a w he h=>by
  cases e <;> first | exact absurd rfl he | exact h
 refine wpOps_take (Q0:=tW N G Q0) ?_ hE (fun ⟨a,w,h⟩=>⟨a,w,hE _ a w qP h⟩) hg pre hlt a w1 ?_
 ·rintro a w ⟨f',os',fs',hk',hw2,hv⟩
  obtain ⟨o,ho⟩:∃ o,L[n]? = some o:=⟨L[n],by simp [hlen]⟩
  have hp:jI L [n]=[o]:=by
   rw [nR,j7,ho]; rfl
  have hv':VCops P false L [o] f' os' fs' (Q .normal):=by rw [hQ,← hp]; exact hv
  have dk:∀ (L:List Oper) (k:Nat) (o:Oper),gN N L=true→L[k]? = some o→dstOK N o.dst=true:=by
   intro L
   induction L with
   | nil=>intro k o _ h; simp at h
   | cons x r ih =>
    intro k o hd h
    simp only [gN,Bool.and_eq_true] at hd
    cases k with
    | zero=>simp only [List.getElem?_cons_zero,Option.some.injEq] at h; subst h; exact hd.1
    | succ k=>exact ih k o hd.2 (by simpa using h)
  have hs:=VCops.sound (P:=P) (N:=N) (ops:=L.toArray) (d:=false) (G:=G) (Q:=Q) [o] f' os' fs' (by simp [gN,dk L n o hdst ho]) (by simpa using hv') a w hk' hw2
  have ho':L.toArray[n]? = some o:=by simpa using ho
  simp only [wpOps,ho']
  exact hs
 ·have hc:=vJ h3
  refine sim (K:=K0) (f0:=f) hc hd0 (Q:=Q0) rfl pre (fun _=>False) (vd:=[]) (c':=c) (val:=fun _=>undef) (vf:=f) (os:=os) (fs:=fs) ?_ (fun i=>by simpa using (hord0.all i).symm) hord0.nodup (fun _ _ h=>h) (fun p i q hp j hj=>.inr (hord0.before p i q hp j hj))
  exact ⟨rfl,fun _ h=>h.elim,fun _ h=>h.elim,hk.defers,hk.size,fun t v ht=>hk.holds t v (by
   rcases ht with ⟨_,_,h,_⟩ | h
   ·exact h.elim
   ·exact h.1),fun t v ht=>.inr ⟨ht,fun j o hj=>by simp at hj⟩,fun k o hk=>by simp at hk,hw',k⟩
def lmid (l:Mx) (d:Nat→Int) (k j:Nat) (q:Int) (i:Nat):Mx:=fun a t=>if a=k then (if t=j then l k j - q*d (j+1) else if t<i then l k t - q*l j t else l k t) else l a t
theorem lmid_q0 (l:Mx) (d:Nat→Int) (k j i:Nat):lmid l d k j 0 i=l:=by
 funext a t
 unfold lmid
 by_cases e:a=k
 ·subst e
  rw [if_pos rfl]
  by_cases e2:t=j
  ·subst e2; rw [if_pos rfl]; omega
  ·rw [if_neg e2]; split <;> omega
 ·rw [if_neg e]
theorem size_call {K:bZ} {os:List Own} {fs:List bD} {s:BS} {m n:Nat} {b u:Jx} {d:Nat→Int} {l:Mx} (k j D L B:Nat) (hk:k<n) (hj:j<k) (hN:n≤1048576) (hM:m≤1048576) (hs:s.ok n) {Bm Um:Mx}
  (hb:Rp n m b Bm B) (hu:Rp n n u Um B) (hd:∀ t,t≤n→sz (d t) D) (hl:∀ i j,j<i→i<n→sz (l i j) L) (hpos:0<d (j+1)) (hD:D≤536870912) (hL:L≤536870912) (hB:B≤1073741824)
  (kk:∀ r b2 u2,(b2=b∧rnd (l k j) (d (j+1))=0∨b2=mid b k j (rnd (l k j) (d (j+1))) m)→(u2=u∧rnd (l k j) (d (j+1))=0∨u2=mid u k j (rnd (l k j) (d (j+1))) n)→K r (bas s m n b2 u2 d (lmid l d k j (rnd (l k j) (d (j+1))) j) os) fs) :
  CallK Tryz.prog false (.func (.func 72) #[] #[]) [eD s.r 0,.int .i64 (k:Nat),.int .i64 (j:Nat)] (bas s m n b u d l os) fs K:=by
 have hlk:=hl k j hj hk
 have hdj:=hd (j+1) qN
 have hq:sz (rnd (l k j) (d (j+1))) (L+1):=rnd_sz hlk hpos
 generalize hqe:rnd (l k j) (d (j+1))=q at *
 have hr:=fun y1 y2=>zRound_meets y1 y2 (l k j) (d (j+1)) (D+L) (hlk.mono qN) (hdj.mono qN) qN hpos
 rw [hqe] at hr
 refine fB Tryz.func72 qK rfl qK (Nat.le_of_ble_eq_true rfl) ?_
 refine k7 (X:=Value) (fun z=>([(0,eD s.r 0),(1,.int .i64 (k:Nat)),(2,.int .i64 (j:Nat)),(6,z)],bE z 2 1 (fun _=>zd q)::bas s m n b u d l os,fs)) l5 ?_ ?_
 ·
  refine gO [0,1,2,3,4,5,6,7,8,9,10,11,12,13,14,15,16,17,18,19,20,22,23,21,24] qK ?_
  refine a9 18 22 qK qK qK ?_ ?_
  ·refine eE [0,1,2,3,4,5,6,7,8,9,10,11,12,13,14,15,16,17,18,19,20,21,22,23,24] qK qK ?_
   refine aV ?_
   refine rK 0 rfl rfl ?_
   refine aE 7 rfl hs.vl (k) qN qN ?_
   refine aG 7 rfl (k) qN (u:=s.sl (k)) rfl ?_
   refine bY 6 (k) rfl qN (hs.sl (k) qN) (j) qN qN ?_
   refine kW 6 (k) (j) rfl qN qN fun y1=>?_
   refine aV ?_
   refine nZ 0 rfl rfl ?_
   refine ar rfl qI ?_
   refine aE 5 rfl hs.vd (j+1) qN qN ?_
   refine bK (d:=zd (d (j+1))) 5 rfl (j+1) qN rfl (aN _ _) fun y2=>?_
   refine cF (hr y1 y2) ?_
   rintro _ _ _ ⟨rfl,z1,rfl,rfl⟩
   refine aM (d:=I false []) fun b1 h1=>?_
   refine aI (d:=zd q) 0 rfl h1 rfl qK (aC qM) ?_
   exact aU b1 h1 trivial qF (aA (bJ rfl) (aB qD))
  ·refine eE [0,1,2,3,4,5,6,7,8,9,10,11,12,13,14,15,16,17,22,18,19,20,21,23,24] qK qK ?_
   refine aV ?_
   refine rK 0 rfl rfl ?_
   refine aE 7 rfl hs.vl (k) qN qN ?_
   refine aG 7 rfl (k) qN (u:=s.sl (k)) rfl ?_
   refine bY 6 (k) rfl qN (hs.sl (k) qN) (j) qN qN ?_
   refine kW 6 (k) (j) rfl qN qN fun y1=>?_
   refine aV ?_
   refine nZ 0 rfl rfl ?_
   refine ar rfl qI ?_
   refine aE 5 rfl hs.vd (j+1) qN qN ?_
   refine bK (d:=zd (d (j+1))) 5 rfl (j+1) qN rfl (aN _ _) fun y2=>?_
   refine aM (d:=I false []) fun b1 h1=>?_
   refine cF (hr y1 y2) ?_
   rintro _ _ _ ⟨rfl,z1,rfl,rfl⟩
   refine aI (d:=zd q) 0 rfl h1 rfl qK (aC qM) ?_
   exact aU b1 h1 trivial qF (aA (bJ rfl) (aB qD))
 rintro bx hbx
 refine aF (d:=zd q) 0 rfl hbx rfl (aN _ _) fun y1=>?_
 refine cH (uG y1 q _ hq qN) ?_
 refine aD _ rfl (fun hc=>?_) (fun hc=>?_)
 ·have h0:q=0:=Int.sign_eq_zero_iff_zero.1 hc
  subst h0
  have k1:=fun r=>kk r b u (.inl ⟨rfl,rfl⟩) (.inl ⟨rfl,rfl⟩)
  rw [lmid_q0] at k1
  exact fin (k1 _) (dS (aB qD))
 refine draw_last [0,1,2,3,4,5] [0,1,2,3,4,5,6] 6 qK qK qK ?_
 refine aV ?_
 refine aF (d:=zd q) 0 rfl hbx rfl (aN _ _) fun y2=>?_
 refine less_call y2 q k j (L+1) B hk hj hN hM hs hb hu hq qN hB ?_ fun r=>?_
 ·exact List.Mem.head _
 refine aY [0,1,2,3,4,5,6,7,8,9,10,11,12,13,14,15,16,17,18,19,20,21,22,23,24,25,26,27,28,29,30] [0,1,2,3,4,5,6,7,8,9,10,11,12,13,14,15,16,17,18,19,20,21,22,23,24,25,26,27,28,29,30] qK qK ?_
 refine aV ?_
 refine rK 1 rfl rfl ?_
 refine aE 8 rfl hs.vl k qN qN ?_
 refine aG 8 rfl k qN (u:=s.sl k) rfl ?_
 refine aV ?_
 refine rK 1 rfl rfl ?_
 refine aE 8 rfl hs.vl (k) qN qN ?_
 refine aG 8 rfl (k) qN (u:=s.sl (k)) rfl ?_
 refine bY 7 (k) rfl qN (hs.sl (k) qN) (j) qN qN ?_
 refine kW 7 (k) (j) rfl qN qN fun y3=>?_
 refine aF (d:=zd q) 0 rfl hbx rfl (aN _ _) fun y4=>?_
 refine aV ?_
 refine nZ 1 rfl rfl ?_
 refine ar rfl qI ?_
 refine aE 6 rfl hs.vd (j+1) qN qN ?_
 refine bK (d:=zd (d (j+1))) 6 rfl (j+1) qN rfl (aN _ _) fun y5=>?_
 refine cG (fQ y4 y5 q (d (j+1)) _ _ hq hdj qN qN) fun y6=>?_
 refine cG (zSubZ y3 y6 (l k j) (q*d (j+1)) _ _ hlk (hq.mul hdj) qN qN) fun y7=>?_
 refine bY 7 k rfl hk (hs.sl k hk) j rfl qN ?_
 refine iU 7 k j rfl hk qN (cn (l k j - q*d (j+1))) (fun a t=>cn (lmid l d k j q 0 a t)) (aC (d:=zd (l k j - q*d (j+1))) qM) (fun a t ha ht=>?_) ?_
 ·simp only [lmid]
  by_cases e:a=k
  ·subst e
   rw [if_pos rfl]
   by_cases e2:t=j
   ·rw [if_pos e2,if_pos ⟨rfl,e2⟩]
   ·rw [if_neg e2,if_neg (Nat.not_lt_zero _),if_neg (fun h=>e2 h.2)]
  ·rw [if_neg e,if_neg (fun h=>e h.1)]
 refine aO (X:=Nat) (fun i=>([(0,eD s.r 0),(1,.int .i64 (k:Nat)),(2,.int .i64 (j:Nat)),(6,bx),(71,.int .i64 (j:Nat)),(72,.int .i64 (i:Nat))],
   bE bx 2 1 (fun _=>zd q)::bas s m n (mid b k j q m) (mid u k j q n) d (lmid l d k j q i) os,fs)) (fun i=>i≤j) (fun i=>j - i) rfl ?_ ?_
 ·exact aU 0 (Nat.zero_le _) trivial qF (aB qD)
 ·rintro i hij
  refine aD _ rfl (fun hlt=>?_) (fun hlt=>?_)
  ·have hi:i<j:=by omega
   refine aY [0,1,2,3,4,5,6,7,8,9,10,11,12,13,14,15,16,17,18,19,20,21,22,23,24,25,26,27,28,29,30,31,32] [0,1,2,3,4,5,6,7,8,9,10,11,12,13,14,15,16,17,18,19,20,21,22,23,24,25,26,27,28,29,30,31,32] qK qK ?_
   refine aV ?_
   refine rK 1 rfl rfl ?_
   refine aE 8 rfl hs.vl k qN qN ?_
   refine aG 8 rfl k qN (u:=s.sl k) rfl ?_
   refine aV ?_
   refine rK 1 rfl rfl ?_
   refine aE 8 rfl hs.vl k qN qN ?_
   refine aG 8 rfl k qN (u:=s.sl k) rfl ?_
   refine bY 7 k rfl hk (hs.sl k hk) i rfl qN ?_
   refine fX 7 k i rfl hk qN (cn (l k i)) (by unfold lmid; rw [if_pos rfl,if_neg qN,if_neg qN]) fun y3=>?_
   refine aF (d:=zd q) 0 rfl hbx rfl (aN _ _) fun y4=>?_
   refine aV ?_
   refine rK 1 rfl rfl ?_
   refine aE 8 rfl hs.vl j qN qN ?_
   refine aG 8 rfl j qN (u:=s.sl j) rfl ?_
   refine bY 7 j rfl qN (hs.sl j qN) i rfl qN ?_
   refine fX 7 j i rfl qN qN (cn (l j i)) (by unfold lmid; rw [if_neg qN]) fun y5=>?_
   have g1:=hl j i hi qN
   have g2:=hl k i qN hk
   refine cG (fQ y4 y5 q (l j i) _ _ hq g1 qN qN) fun y6=>?_
   refine cG (zSubZ y3 y6 (l k i) (q*l j i) _ _ g2 (hq.mul g1) qN qN) fun y7=>?_
   refine bY 7 k rfl hk (hs.sl k hk) i rfl qN ?_
   refine iU 7 k i rfl hk qN (cn (l k i - q*l j i)) (fun a t=>cn (lmid l d k j q (i+1) a t)) (aC (d:=zd (l k i - q*l j i)) qM) (fun a t ha ht=>?_) ?_
   ·simp only [lmid]
    by_cases e:a=k
    ·subst e
     rw [if_pos rfl,if_pos rfl]
     by_cases e2:t=j
     ·rw [if_pos e2,if_pos e2,if_neg qN]
     ·rw [if_neg e2,if_neg e2]
      by_cases e3:t=i
      ·subst e3
       rw [if_pos qN,if_pos ⟨rfl,rfl⟩]
      ·by_cases e4:t<i
       ·rw [if_pos qN,if_neg qN,if_pos e4]
       ·rw [if_neg qN,if_neg qN,if_neg e4]
    ·rw [if_neg e,if_neg (fun h=>e h.1),if_neg e]
   refine ar rfl qI ?_
   exact aU (i+1) qN (by simp only; omega) qF (aB qD)
  ·have hi:i=j:=by omega
   subst hi
   exact fin (kk _ _ _ (.inr rfl) (.inr rfl)) (dS (aB qD))
def BS.sw (s:BS) (p:Nat):BS:={ s with sb:=fun i=>s.sb (sx p i),su:=fun i=>s.su (sx p i) }
theorem BS.ok.sw {s:BS} {n p:Nat} (h:s.ok n) (hp:p+1<n):(s.sw p).ok n :=
 ⟨h.vb,h.vu,h.vd,h.vl,fun _ hi=>h.sb _ (sx_lt hp hi),fun _ hi=>h.su _ (sx_lt hp hi),h.sl⟩
theorem sx_inj {p i j:Nat} (h:sx p i=sx p j):i=j:=by rw [← sx_sx p i,h,sx_sx]
theorem upd_sw {f:Nat→Value} {k:Nat} (h1:1≤k) (y:Nat):upd (upd (fun i=>Dat.one (f i)) k (.one (f (k - 1)))) (k - 1) (.one (f k)) y=.one (f (sx (k - 1) y)):=by
 simp only [upd,sx]
 by_cases e:y=k - 1
 ·rw [if_pos e,if_pos e,show k - 1+1=k by omega]
 ·rw [if_neg e,if_neg e]
  by_cases e2:y=k
  ·rw [if_pos e2,if_pos qN]
  ·rw [if_neg e2,if_neg qN]
theorem swap_call {K:bZ} {os:List Own} {fs:List bD} {s:BS} {m n:Nat} {b u:Jx} {d:Nat→Int} {l:Mx} (k:Nat) (h1:1≤k) (hk:k<n) (hN:n≤1048576) (hs:s.ok n)
  (kk:∀ r,K r (bas (s.sw (k - 1)) m n (fun i c=>b (sx (k - 1) i) c) (fun i c=>u (sx (k - 1) i) c) d l os) fs) :
  CallK Tryz.prog false (.func (.func 118) #[] #[]) [eD s.r 0,.int .i64 (k:Nat)] (bas s m n b u d l os) fs K:=by
 have z1:=hs.vb
 have z2:=hs.vu
 refine fB Tryz.func118 qK rfl qK (Nat.le_of_ble_eq_true rfl) ?_
 refine k7 (X:=Unit) (fun _=>([(0,eD s.r 0),(1,.int .i64 (k:Nat))],bas { s with sb:=fun i=>s.sb (sx (k - 1) i) } m n (fun i c=>b (sx (k - 1) i) c) u d l os,fs)) (fun _=>True) ?_ ?_
 ·have o1:=(hs.sb (k - 1) qN).one
  have o2:=(hs.sb k hk).one
  refine gO [0,1,2,3,4,5,6,7,8,11,12,13,14,15,16,17,18,19,20,21,22,23,24,25,26,27,9,10,28,29] qK ?_
  refine a9 10 27 qK qK qK ?_ ?_
  ·refine eE [0,1,2,3,4,5,6,7,8,9,10,11,12,13,14,15,16,17,18,19,20,21,22,23,24,25,26,27,28,29] qK qK ?_
   refine aV ?_
   refine ld4b 0 rfl rfl ?_
   refine aV ?_
   refine ld4b 0 rfl rfl ?_
   refine ar rfl qI ?_
   refine aV ?_
   refine ld4b 0 rfl rfl ?_
   refine ar rfl qI ?_
   refine aE 2 rfl z1 (k - 1) qN qN ?_
   refine aG 2 rfl (k - 1) qN (u:=s.sb (k - 1)) rfl ?_
   refine aV ?_
   refine ld4b 0 rfl rfl ?_
   refine aE 2 rfl z1 k qN qN ?_
   refine aG 2 rfl k qN (u:=s.sb k) rfl ?_
   refine aE 2 rfl z1 k qN qN ?_
   refine bL (d:=.one (s.sb (k - 1))) 2 rfl k qN rfl qK (bW o1) ?_
   refine aE 2 rfl z1 (k - 1) qN qN ?_
   refine bL (d:=.one (s.sb k)) 2 rfl (k - 1) qN rfl qK (bW o2) ?_
   exact aU () trivial trivial qF (aA (Seals.own_cong (os:=[_,_,_,_,_,_,_,_]++os) 2 (fun i=>.one (s.sb (sx (k - 1) i))) rfl rfl (fun y _=>upd_sw h1 y))
    (aA (Seals.fjcong (vs:=s.sb) (x:=b) (x':=fun i c=>b (sx (k - 1) i) c) (vs':=fun i=>s.sb (sx (k - 1) i)) (os:=[_,_,_,_,_,_,_,_]++os) 1 rfl (sx (k - 1)) (fun i hi=>⟨sx_lt qN hi,rfl,fun _ _=>rfl⟩) (fun i j _ _ h=>sx_inj h)) (aB qD)))
  ·refine eE [0,1,2,3,4,5,6,7,8,9,11,12,13,14,15,16,17,18,19,20,21,22,23,24,25,26,27,10,28,29] qK qK ?_
   refine aV ?_
   refine ld4b 0 rfl rfl ?_
   refine aV ?_
   refine ld4b 0 rfl rfl ?_
   refine aV ?_
   refine ld4b 0 rfl rfl ?_
   refine ar rfl qI ?_
   refine aE 2 rfl z1 (k - 1) qN qN ?_
   refine aG 2 rfl (k - 1) qN (u:=s.sb (k - 1)) rfl ?_
   refine aV ?_
   refine ld4b 0 rfl rfl ?_
   refine aE 2 rfl z1 k qN qN ?_
   refine aG 2 rfl k qN (u:=s.sb k) rfl ?_
   refine aE 2 rfl z1 k qN qN ?_
   refine bL (d:=.one (s.sb (k - 1))) 2 rfl k qN rfl qK (bW o1) ?_
   refine ar rfl qI ?_
   refine aE 2 rfl z1 (k - 1) qN qN ?_
   refine bL (d:=.one (s.sb k)) 2 rfl (k - 1) qN rfl qK (bW o2) ?_
   exact aU () trivial trivial qF (aA (Seals.own_cong (os:=[_,_,_,_,_,_,_,_]++os) 2 (fun i=>.one (s.sb (sx (k - 1) i))) rfl rfl (fun y _=>upd_sw h1 y))
    (aA (Seals.fjcong (vs:=s.sb) (x:=b) (x':=fun i c=>b (sx (k - 1) i) c) (vs':=fun i=>s.sb (sx (k - 1) i)) (os:=[_,_,_,_,_,_,_,_]++os) 1 rfl (sx (k - 1)) (fun i hi=>⟨sx_lt qN hi,rfl,fun _ _=>rfl⟩) (fun i j _ _ h=>sx_inj h)) (aB qD)))
 rintro - -
 refine k7 (X:=Unit) (fun _=>([(0,eD s.r 0),(1,.int .i64 (k:Nat))],bas (s.sw (k - 1)) m n (fun i c=>b (sx (k - 1) i) c) (fun i c=>u (sx (k - 1) i) c) d l os,fs)) (fun _=>True) ?_ ?_
 ·have o1:=(hs.su (k - 1) qN).one
  have o2:=(hs.su k hk).one
  refine gO [0,1,2,3,4,5,6,7,8,11,12,13,14,15,16,17,18,19,20,21,22,23,24,25,26,27,9,10,28,29] qK ?_
  refine a9 10 27 qK qK qK ?_ ?_
  ·refine eE [0,1,2,3,4,5,6,7,8,9,10,11,12,13,14,15,16,17,18,19,20,21,22,23,24,25,26,27,28,29] qK qK ?_
   refine aV ?_
   refine ld4u 0 rfl rfl ?_
   refine aV ?_
   refine ld4u 0 rfl rfl ?_
   refine ar rfl qI ?_
   refine aV ?_
   refine ld4u 0 rfl rfl ?_
   refine ar rfl qI ?_
   refine aE 4 rfl z2 (k - 1) qN qN ?_
   refine aG 4 rfl (k - 1) qN (u:=s.su (k - 1)) rfl ?_
   refine aV ?_
   refine ld4u 0 rfl rfl ?_
   refine aE 4 rfl z2 k qN qN ?_
   refine aG 4 rfl k qN (u:=s.su k) rfl ?_
   refine aE 4 rfl z2 k qN qN ?_
   refine bL (d:=.one (s.su (k - 1))) 4 rfl k qN rfl qK (bW o1) ?_
   refine aE 4 rfl z2 (k - 1) qN qN ?_
   refine bL (d:=.one (s.su k)) 4 rfl (k - 1) qN rfl qK (bW o2) ?_
   exact aU () trivial trivial qF (aA (Seals.own_cong (os:=[_,_,_,_,_,_,_,_]++os) 4 (fun i=>.one (s.su (sx (k - 1) i))) rfl rfl (fun y _=>upd_sw h1 y))
    (aA (Seals.fjcong (vs:=s.su) (x:=u) (x':=fun i c=>u (sx (k - 1) i) c) (vs':=fun i=>s.su (sx (k - 1) i)) (os:=[_,_,_,_,_,_,_,_]++os) 3 rfl (sx (k - 1)) (fun i hi=>⟨sx_lt qN hi,rfl,fun _ _=>rfl⟩) (fun i j _ _ h=>sx_inj h)) (aB qD)))
  ·refine eE [0,1,2,3,4,5,6,7,8,9,11,12,13,14,15,16,17,18,19,20,21,22,23,24,25,26,27,10,28,29] qK qK ?_
   refine aV ?_
   refine ld4u 0 rfl rfl ?_
   refine aV ?_
   refine ld4u 0 rfl rfl ?_
   refine aV ?_
   refine ld4u 0 rfl rfl ?_
   refine ar rfl qI ?_
   refine aE 4 rfl z2 (k - 1) qN qN ?_
   refine aG 4 rfl (k - 1) qN (u:=s.su (k - 1)) rfl ?_
   refine aV ?_
   refine ld4u 0 rfl rfl ?_
   refine aE 4 rfl z2 k qN qN ?_
   refine aG 4 rfl k qN (u:=s.su k) rfl ?_
   refine aE 4 rfl z2 k qN qN ?_
   refine bL (d:=.one (s.su (k - 1))) 4 rfl k qN rfl qK (bW o1) ?_
   refine ar rfl qI ?_
   refine aE 4 rfl z2 (k - 1) qN qN ?_
   refine bL (d:=.one (s.su k)) 4 rfl (k - 1) qN rfl qK (bW o2) ?_
   exact aU () trivial trivial qF (aA (Seals.own_cong (os:=[_,_,_,_,_,_,_,_]++os) 4 (fun i=>.one (s.su (sx (k - 1) i))) rfl rfl (fun y _=>upd_sw h1 y))
    (aA (Seals.fjcong (vs:=s.su) (x:=u) (x':=fun i c=>u (sx (k - 1) i) c) (vs':=fun i=>s.su (sx (k - 1) i)) (os:=[_,_,_,_,_,_,_,_]++os) 3 rfl (sx (k - 1)) (fun i hi=>⟨sx_lt qN hi,rfl,fun _ _=>rfl⟩) (fun i j _ _ h=>sx_inj h)) (aB qD)))
 rintro - -
 exact fin (kk _) (aB qD)
def tsw (l:Mx) (k c:Nat):Mx:=fun a t=>if a=k∧t<c then l (k - 1) t else if a=k - 1∧t<c then l k t else l a t
def tD (d:Nat→Int) (l:Mx) (k:Nat):Int:=(d (k - 1)*d (k+1)+l k (k - 1)*l k (k - 1))/d k
def tN1 (d:Nat→Int) (l:Mx) (k i:Nat):Int:=(d (k+1)*l i (k - 1) - l k (k - 1)*l i k)/d k
def tN2 (d:Nat→Int) (l:Mx) (k i:Nat):Int:=(tD d l k*l i k+l k (k - 1)*tN1 d l k i)/d (k+1)
def trw (d:Nat→Int) (l:Mx) (k i:Nat):Mx:=fun a t=>if k<a∧a<i then (if t=k then tN1 d l k a else if t=k - 1 then tN2 d l k a else l a t) else tsw l k (k - 1) a t
def tdd (d:Nat→Int) (l:Mx) (k:Nat):Nat→Int:=fun i=>if i=k then tD d l k else d i
theorem tsw_zero (l:Mx) (k:Nat):tsw l k 0=l:=by
 funext a t; unfold tsw; rw [if_neg qN,if_neg qN]
theorem trw_start (d:Nat→Int) (l:Mx) (k:Nat):trw d l k (k+1)=tsw l k (k - 1):=by
 funext a t; unfold trw; rw [if_neg qN]
theorem turn_call {K:bZ} {os:List Own} {fs:List bD} {s:BS} {m n:Nat} {b u:Jx} {d:Nat→Int} {l:Mx} (k D L:Nat) (h1:1≤k) (hk:k<n) (hN:n≤1048576) (hs0:s.ok n)
  (hd:∀ t,t≤n→sz (d t) D) (hl:∀ i j,j<i→i<n→sz (l i j) L) (nk:d k≠0) (nk1:d (k+1)≠0) (hD:D≤268435456) (hL:L≤268435456)
  (kk:∀ r,K r (bas (s.sw (k - 1)) m n (fun i c=>b (sx (k - 1) i) c) (fun i c=>u (sx (k - 1) i) c) (tdd d l k) (trw d l k n) os) fs) :
  CallK Tryz.prog false (.func (.func 74) #[] #[]) [eD s.r 0,.int .i64 (k:Nat)] (bas s m n b u d l os) fs K:=by
 have hd1:=hd (k+1) qN
 have hdm:=hd (k - 1) qN
 have hdk:=hd k qN
 have hlk:=hl k (k - 1) qN hk
 have hA:sz (d (k - 1)*d (k+1)+l k (k - 1)*l k (k - 1)) (D+D+(L+L)+1):=sz_add2 (hdm.mul hd1) (hlk.mul hlk)
 have hT:sz (tD d l k) (D+D+(L+L)+1):=pW hA
 refine fB Tryz.func74 qK rfl qK (Nat.le_of_ble_eq_true rfl) ?_
 refine aV ?_
 refine swap_call k h1 hk hN hs0 fun r=>?_
 have hs:(s.sw (k - 1)).ok n:=hs0.sw qN
 rw [show eD s.r 0=eD (s.sw (k - 1)).r 0 from rfl]
 generalize s.sw (k - 1)=s at *
 generalize (fun i c=>b (sx (k - 1) i) c)=b at *
 generalize (fun i c=>u (sx (k - 1) i) c)=u at *
 refine ar rfl qI ?_
 refine aO (X:=Nat) (fun c=>([(0,eD s.r 0),(1,.int .i64 (k:Nat)),(15,.int .i64 ((k - 1:Nat):Nat)),(16,.int .i64 (c:Nat))],bas s m n b u d (tsw l k c) os,fs)) (fun c=>c≤k - 1) (fun c=>k - 1 - c) rfl ?_ ?_
 ·exact aU 0 (Nat.zero_le _) trivial qF (by rw [tsw_zero]; exact (aB qD))
 ·rintro c hc
  refine aD _ rfl (fun hlt=>?_) (fun hlt=>?_)
  ·have hck:c<k - 1:=by omega
   refine aY [0,1,2,3,4,5,6,7,8,9,10,11,12,13,14,15,16,17,18,19,20,21,22,23,24,25,26,27,28,29,30,31,32,33,34,35,36,37,38,39,40,41] [0,1,2,3,4,5,6,7,8,9,10,11,12,13,14,15,17,18,19,20,21,22,23,24,25,26,27,28,29,30,31,32,33,34,35,36,37,38,39,16,40,41] qK qK ?_
   refine aV ?_
   refine rK 0 rfl rfl ?_
   refine aE 7 rfl hs.vl (k) qN qN ?_
   refine aG 7 rfl (k) qN (u:=s.sl (k)) rfl ?_
   refine aV ?_
   refine rK 0 rfl rfl ?_
   refine ar rfl qI ?_
   refine aE 7 rfl hs.vl (k - 1) qN qN ?_
   refine aG 7 rfl (k - 1) qN (u:=s.sl (k - 1)) rfl ?_
   refine aV ?_
   refine rK 0 rfl rfl ?_
   refine ar rfl qI ?_
   refine aE 7 rfl hs.vl (k - 1) qN qN ?_
   refine aG 7 rfl (k - 1) qN (u:=s.sl (k - 1)) rfl ?_
   refine bY 6 (k - 1) rfl qN (hs.sl (k - 1) qN) (c) qN qN ?_
   refine fX 6 (k - 1) c rfl qN qN (cn (l (k - 1) c)) (by unfold tsw; rw [if_neg qN,if_neg qN]) fun y1=>?_
   refine aV ?_
   refine rK 0 rfl rfl ?_
   refine aE 7 rfl hs.vl (k) qN qN ?_
   refine aG 7 rfl (k) qN (u:=s.sl (k)) rfl ?_
   refine bY 6 (k) rfl qN (hs.sl (k) qN) (c) qN qN ?_
   refine fX 6 k c rfl qN qN (cn (l k c)) (by unfold tsw; rw [if_neg qN,if_neg qN]) fun y2=>?_
   refine bY 6 (k) rfl qN (hs.sl (k) qN) (c) qN qN ?_
   refine iU 6 k c rfl qN qN (cn (l (k - 1) c)) (fun a t=>if a=k∧t=c then cn (l (k - 1) c) else cn (tsw l k c a t)) (aC qM) (fun a t _ _=>rfl) ?_
   refine bY 6 (k - 1) rfl qN (hs.sl (k - 1) qN) (c) qN qN ?_
   refine iU 6 (k - 1) c rfl qN qN (cn (l k c)) (fun a t=>cn (tsw l k (c+1) a t)) (aC qM) (fun a t _ _=>?_) ?_
   ·simp only [tsw]
    by_cases e1:a=k
    ·by_cases e2:t=c
     ·rw [if_pos qN,if_neg qN,if_pos ⟨e1,e2⟩,e2]
     ·by_cases e3:t<c
      ·rw [if_pos qN,if_neg qN,if_neg qN,if_pos qN]
      ·rw [if_neg qN,if_neg qN,if_neg qN,if_neg qN,if_neg qN,if_neg qN]
    ·by_cases e4:a=k - 1
     ·by_cases e2:t=c
      ·rw [if_neg qN,if_pos qN,if_pos ⟨e4,e2⟩,e2]
      ·by_cases e3:t<c
       ·rw [if_neg qN,if_pos qN,if_neg qN,if_neg qN,if_neg qN,if_pos qN]
       ·rw [if_neg qN,if_neg qN,if_neg qN,if_neg qN,if_neg qN,if_neg qN]
     ·rw [if_neg qN,if_neg qN,if_neg qN,if_neg qN,if_neg qN,if_neg qN]
   refine ar rfl qI ?_
   exact aU (c+1) qN (by simp only; omega) qF (aB qD)
  ·have hck:c=k - 1:=by omega
   subst hck
   refine aV ?_
   refine rK 0 rfl rfl ?_
   refine aE 7 rfl hs.vl (k) qN qN ?_
   refine aG 7 rfl (k) qN (u:=s.sl (k)) rfl ?_
   refine ar rfl qI ?_
   refine bY 6 (k) rfl qN (hs.sl (k) qN) (k - 1) qN qN ?_
   refine fX 6 k (k - 1) rfl qN qN (cn (l k (k - 1))) (by unfold tsw; rw [if_neg qN,if_neg qN]) fun x1=>?_
   refine aM (d:=I false []) fun xb hxb=>?_
   refine aI (d:=zd (l k (k - 1))) 0 rfl hxb rfl qK ?_ ?_; exact aC qM
   refine k7 (X:=Value) (fun z=>([(0,eD s.r 0),(1,.int .i64 (k:Nat)),(5,xb),(6,z)],bE z 2 1 (fun _=>zd (tD d l k))::bE xb 2 1 (fun _=>zd (l k (k - 1)))::bas s m n b u d (tsw l k (k - 1)) os,fs)) l5 ?_ ?_
   ·
    refine gO [0,1,2,3,4,5,6,7,8,9,10,11,12,13,14,15,16,17,18,19,20,21,22,23,24,25,26,27,28,29,30] qK ?_
    refine a9 16 29 qK qK qK ?_ ?_
    ·refine a9 19 29 qK qK qK ?_ ?_
     ·refine a9 20 29 qK qK qK ?_ ?_
      ·refine a9 28 29 qK qK qK ?_ ?_
       ·refine eE [0,1,2,3,4,5,6,7,8,9,10,11,12,13,14,15,17,18,21,22,23,24,25,26,27,16,19,20,28,29,30] qK qK ?_
        refine aV ?_
        refine nZ 1 rfl rfl ?_
        refine ar rfl qI ?_
        refine aE 6 rfl hs.vd (k - 1) qN qN ?_
        refine bK (d:=zd (d (k - 1))) 6 rfl (k - 1) qN rfl (aN _ _) fun y1=>?_
        refine aV ?_
        refine nZ 1 rfl rfl ?_
        refine ar rfl qI ?_
        refine aE 6 rfl hs.vd (k+1) qN qN ?_
        refine bK (d:=zd (d (k+1))) 6 rfl (k+1) qN rfl (aN _ _) fun y2=>?_
        refine aF (d:=zd (l k (k - 1))) 0 rfl hxb rfl (aN _ _) fun y3=>?_
        refine aF (d:=zd (l k (k - 1))) 0 rfl hxb rfl (aN _ _) fun y4=>?_
        refine aV ?_
        refine nZ 1 rfl rfl ?_
        refine aE 6 rfl hs.vd (k) qN qN ?_
        refine bK (d:=zd (d (k))) 6 rfl (k) qN rfl (aN _ _) fun y5=>?_
        refine cG (fQ y1 y2 (d (k - 1)) (d (k+1)) D D hdm hd1 qN qN) fun z1=>?_
        refine cG (fQ y3 y4 (l k (k - 1)) (l k (k - 1)) L L hlk hlk qN qN) fun z2=>?_
        refine cG (nH z1 z2 _ _ (D+D) (L+L) (hdm.mul hd1) (hlk.mul hlk) qN qN) fun z3=>?_
        refine cG (gQ z3 y5 _ (d k) (D+D+(L+L)+1) D hA hdk qN qN nk) fun z4=>?_
        refine aM (d:=I false []) fun b1 h1'=>?_
        refine aI (d:=zd (tD d l k)) 0 rfl h1' rfl qK (aC qM) ?_
        exact aU b1 h1' trivial qF (aA (bJ rfl) (aA (Seals.box1 rfl) (aB qD)))
       ·refine eE [0,1,2,3,4,5,6,7,8,9,10,11,12,13,14,15,17,18,21,22,23,24,25,26,27,16,19,20,29,28,30] qK qK ?_
        refine aV ?_
        refine nZ 1 rfl rfl ?_
        refine ar rfl qI ?_
        refine aE 6 rfl hs.vd (k - 1) qN qN ?_
        refine bK (d:=zd (d (k - 1))) 6 rfl (k - 1) qN rfl (aN _ _) fun y1=>?_
        refine aV ?_
        refine nZ 1 rfl rfl ?_
        refine ar rfl qI ?_
        refine aE 6 rfl hs.vd (k+1) qN qN ?_
        refine bK (d:=zd (d (k+1))) 6 rfl (k+1) qN rfl (aN _ _) fun y2=>?_
        refine aF (d:=zd (l k (k - 1))) 0 rfl hxb rfl (aN _ _) fun y3=>?_
        refine aF (d:=zd (l k (k - 1))) 0 rfl hxb rfl (aN _ _) fun y4=>?_
        refine aV ?_
        refine nZ 1 rfl rfl ?_
        refine aE 6 rfl hs.vd (k) qN qN ?_
        refine bK (d:=zd (d (k))) 6 rfl (k) qN rfl (aN _ _) fun y5=>?_
        refine cG (fQ y1 y2 (d (k - 1)) (d (k+1)) D D hdm hd1 qN qN) fun z1=>?_
        refine cG (fQ y3 y4 (l k (k - 1)) (l k (k - 1)) L L hlk hlk qN qN) fun z2=>?_
        refine cG (nH z1 z2 _ _ (D+D) (L+L) (hdm.mul hd1) (hlk.mul hlk) qN qN) fun z3=>?_
        refine aM (d:=I false []) fun b1 h1'=>?_
        refine cG (gQ z3 y5 _ (d k) (D+D+(L+L)+1) D hA hdk qN qN nk) fun z4=>?_
        refine aI (d:=zd (tD d l k)) 0 rfl h1' rfl qK (aC qM) ?_
        exact aU b1 h1' trivial qF (aA (bJ rfl) (aA (Seals.box1 rfl) (aB qD)))
      ·refine eE [0,1,2,3,4,5,6,7,8,9,10,11,12,13,14,15,17,18,21,22,23,24,25,26,27,16,19,29,20,28,30] qK qK ?_
       refine aV ?_
       refine nZ 1 rfl rfl ?_
       refine ar rfl qI ?_
       refine aE 6 rfl hs.vd (k - 1) qN qN ?_
       refine bK (d:=zd (d (k - 1))) 6 rfl (k - 1) qN rfl (aN _ _) fun y1=>?_
       refine aV ?_
       refine nZ 1 rfl rfl ?_
       refine ar rfl qI ?_
       refine aE 6 rfl hs.vd (k+1) qN qN ?_
       refine bK (d:=zd (d (k+1))) 6 rfl (k+1) qN rfl (aN _ _) fun y2=>?_
       refine aF (d:=zd (l k (k - 1))) 0 rfl hxb rfl (aN _ _) fun y3=>?_
       refine aF (d:=zd (l k (k - 1))) 0 rfl hxb rfl (aN _ _) fun y4=>?_
       refine aV ?_
       refine nZ 1 rfl rfl ?_
       refine aE 6 rfl hs.vd (k) qN qN ?_
       refine bK (d:=zd (d (k))) 6 rfl (k) qN rfl (aN _ _) fun y5=>?_
       refine cG (fQ y1 y2 (d (k - 1)) (d (k+1)) D D hdm hd1 qN qN) fun z1=>?_
       refine cG (fQ y3 y4 (l k (k - 1)) (l k (k - 1)) L L hlk hlk qN qN) fun z2=>?_
       refine aM (d:=I false []) fun b1 h1'=>?_
       refine cG (nH z1 z2 _ _ (D+D) (L+L) (hdm.mul hd1) (hlk.mul hlk) qN qN) fun z3=>?_
       refine cG (gQ z3 y5 _ (d k) (D+D+(L+L)+1) D hA hdk qN qN nk) fun z4=>?_
       refine aI (d:=zd (tD d l k)) 0 rfl h1' rfl qK (aC qM) ?_
       exact aU b1 h1' trivial qF (aA (bJ rfl) (aA (Seals.box1 rfl) (aB qD)))
     ·refine eE [0,1,2,3,4,5,6,7,8,9,10,11,12,13,14,15,17,18,21,22,23,24,25,26,27,16,29,19,20,28,30] qK qK ?_
      refine aV ?_
      refine nZ 1 rfl rfl ?_
      refine ar rfl qI ?_
      refine aE 6 rfl hs.vd (k - 1) qN qN ?_
      refine bK (d:=zd (d (k - 1))) 6 rfl (k - 1) qN rfl (aN _ _) fun y1=>?_
      refine aV ?_
      refine nZ 1 rfl rfl ?_
      refine ar rfl qI ?_
      refine aE 6 rfl hs.vd (k+1) qN qN ?_
      refine bK (d:=zd (d (k+1))) 6 rfl (k+1) qN rfl (aN _ _) fun y2=>?_
      refine aF (d:=zd (l k (k - 1))) 0 rfl hxb rfl (aN _ _) fun y3=>?_
      refine aF (d:=zd (l k (k - 1))) 0 rfl hxb rfl (aN _ _) fun y4=>?_
      refine aV ?_
      refine nZ 1 rfl rfl ?_
      refine aE 6 rfl hs.vd (k) qN qN ?_
      refine bK (d:=zd (d (k))) 6 rfl (k) qN rfl (aN _ _) fun y5=>?_
      refine cG (fQ y1 y2 (d (k - 1)) (d (k+1)) D D hdm hd1 qN qN) fun z1=>?_
      refine aM (d:=I false []) fun b1 h1'=>?_
      refine cG (fQ y3 y4 (l k (k - 1)) (l k (k - 1)) L L hlk hlk qN qN) fun z2=>?_
      refine cG (nH z1 z2 _ _ (D+D) (L+L) (hdm.mul hd1) (hlk.mul hlk) qN qN) fun z3=>?_
      refine cG (gQ z3 y5 _ (d k) (D+D+(L+L)+1) D hA hdk qN qN nk) fun z4=>?_
      refine aI (d:=zd (tD d l k)) 0 rfl h1' rfl qK (aC qM) ?_
      exact aU b1 h1' trivial qF (aA (bJ rfl) (aA (Seals.box1 rfl) (aB qD)))
    ·refine eE [0,1,2,3,4,5,6,7,8,9,10,11,12,13,14,15,17,18,21,22,23,24,25,26,27,29,16,19,20,28,30] qK qK ?_
     refine aV ?_
     refine nZ 1 rfl rfl ?_
     refine ar rfl qI ?_
     refine aE 6 rfl hs.vd (k - 1) qN qN ?_
     refine bK (d:=zd (d (k - 1))) 6 rfl (k - 1) qN rfl (aN _ _) fun y1=>?_
     refine aV ?_
     refine nZ 1 rfl rfl ?_
     refine ar rfl qI ?_
     refine aE 6 rfl hs.vd (k+1) qN qN ?_
     refine bK (d:=zd (d (k+1))) 6 rfl (k+1) qN rfl (aN _ _) fun y2=>?_
     refine aF (d:=zd (l k (k - 1))) 0 rfl hxb rfl (aN _ _) fun y3=>?_
     refine aF (d:=zd (l k (k - 1))) 0 rfl hxb rfl (aN _ _) fun y4=>?_
     refine aV ?_
     refine nZ 1 rfl rfl ?_
     refine aE 6 rfl hs.vd (k) qN qN ?_
     refine bK (d:=zd (d (k))) 6 rfl (k) qN rfl (aN _ _) fun y5=>?_
     refine aM (d:=I false []) fun b1 h1'=>?_
     refine cG (fQ y1 y2 (d (k - 1)) (d (k+1)) D D hdm hd1 qN qN) fun z1=>?_
     refine cG (fQ y3 y4 (l k (k - 1)) (l k (k - 1)) L L hlk hlk qN qN) fun z2=>?_
     refine cG (nH z1 z2 _ _ (D+D) (L+L) (hdm.mul hd1) (hlk.mul hlk) qN qN) fun z3=>?_
     refine cG (gQ z3 y5 _ (d k) (D+D+(L+L)+1) D hA hdk qN qN nk) fun z4=>?_
     refine aI (d:=zd (tD d l k)) 0 rfl h1' rfl qK (aC qM) ?_
     exact aU b1 h1' trivial qF (aA (bJ rfl) (aA (Seals.box1 rfl) (aB qD)))
   rintro db hdb
   refine ar rfl qI ?_
   refine aO (X:=Nat) (fun i=>([(0,eD s.r 0),(1,.int .i64 (k:Nat)),(5,xb),(6,db),(7,.int .i64 (i:Nat))],bE db 2 1 (fun _=>zd (tD d l k))::bE xb 2 1 (fun _=>zd (l k (k - 1)))::bas s m n b u d (trw d l k i) os,fs))
    (fun i=>k+1≤i∧i≤n) (fun i=>n - i) rfl ?_ ?_
   ·exact aU (k+1) ⟨Nat.le_refl _,hk⟩ trivial qF (by rw [trw_start]; exact (aB qD))
   ·rintro i ⟨hi1,hi2⟩
    refine aV ?_
    refine aV ?_
    refine ld4b 2 rfl rfl ?_
    refine cS 4 rfl hs.vb fun _=>?_
    refine aD _ rfl (fun hlt=>?_) (fun hlt=>?_)
    ·have hin:i<n:=by omega
     have g1:=hl i k qN hin
     have g2:=hl i (k - 1) qN hin
     have hn1:sz (tN1 d l k i) (D+L+(L+L)+1):=pW (iL ((hd1.mul g2).mono qN) ((hlk.mul g1).mono qN))
     refine aV ?_
     refine rK 2 rfl rfl ?_
     refine aE 9 rfl hs.vl (i) qN qN ?_
     refine aG 9 rfl (i) qN (u:=s.sl (i)) rfl ?_
     refine bY 8 (i) rfl qN (hs.sl (i) qN) (k) qN qN ?_
     refine fX 8 i k rfl qN qN (cn (l i k)) (by unfold trw; rw [if_neg qN]; unfold tsw; rw [if_neg qN,if_neg qN]) fun y1=>?_
     refine aM (d:=I false []) fun tb htb=>?_
     refine aI (d:=zd (l i k)) 0 rfl htb rfl qK ?_ ?_; exact aC qM
     refine aY [0,1,2,3,4,5,6,7,8,9,10,11,12,13,14,15,16,17,18,19,20,21,22,23,24,25,26,28,29,32,33,34,35,36,37,38,27,30,31,39,40,41] [0,1,2,3,4,5,6,7,8,9,10,11,12,13,14,15,16,17,18,19,20,21,22,23,24,25,26,27,28,29,30,31,32,33,34,35,36,37,38,39,40,41] qK qK ?_
     refine aV ?_
     refine rK 3 rfl rfl ?_
     refine aE 10 rfl hs.vl (i) qN qN ?_
     refine aG 10 rfl (i) qN (u:=s.sl (i)) rfl ?_
     refine aV ?_
     refine nZ 3 rfl rfl ?_
     refine ar rfl qI ?_
     refine aE 8 rfl hs.vd (k+1) qN qN ?_
     refine bK (d:=zd (d (k+1))) 8 rfl (k+1) qN rfl (aN _ _) fun y2=>?_
     refine aV ?_
     refine rK 3 rfl rfl ?_
     refine aE 10 rfl hs.vl (i) qN qN ?_
     refine aG 10 rfl (i) qN (u:=s.sl (i)) rfl ?_
     refine ar rfl qI ?_
     refine bY 9 (i) rfl qN (hs.sl (i) qN) (k - 1) qN qN ?_
     refine fX 9 i (k - 1) rfl qN qN (cn (l i (k - 1))) (by unfold trw; rw [if_neg qN]; unfold tsw; rw [if_neg qN,if_neg qN]) fun y3=>?_
     refine aF (d:=zd (l k (k - 1))) 2 rfl hxb rfl (aN _ _) fun y4=>?_
     refine aF (d:=zd (l i k)) 0 rfl htb rfl (aN _ _) fun y5=>?_
     refine aV ?_
     refine nZ 3 rfl rfl ?_
     refine aE 8 rfl hs.vd (k) qN qN ?_
     refine bK (d:=zd (d (k))) 8 rfl (k) qN rfl (aN _ _) fun y6=>?_
     refine cG (fQ y2 y3 (d (k+1)) (l i (k - 1)) D L hd1 g2 qN qN) fun z1=>?_
     refine cG (fQ y4 y5 (l k (k - 1)) (l i k) L L hlk g1 qN qN) fun z2=>?_
     refine cG (zSubZ z1 z2 _ _ (D+L) (L+L) (hd1.mul g2) (hlk.mul g1) qN qN) fun z3=>?_
     refine cG (gQ z3 y6 _ (d k) (D+L+(L+L)+1) D (iL ((hd1.mul g2).mono qN) ((hlk.mul g1).mono qN)) hdk qN qN nk) fun z4=>?_
     refine bY 9 (i) rfl qN (hs.sl (i) qN) (k) qN qN ?_
     refine iU 9 i k rfl qN qN (cn (tN1 d l k i)) (fun a t=>if a=i∧t=k then cn (tN1 d l k i) else cn (trw d l k i a t)) (aC (d:=zd (tN1 d l k i)) qM) (fun a t _ _=>rfl) ?_
     refine aY [0,1,2,3,4,5,6,7,8,9,10,12,13,14,15,16,17,18,19,20,21,22,25,26,27,28,29,30,31,32,11,23,24,33,34,35] [0,1,2,3,4,5,6,7,8,9,10,11,12,13,14,15,16,17,18,19,20,21,22,23,24,25,26,27,28,29,30,31,32,33,34,35] qK qK ?_
     refine aV ?_
     refine rK 3 rfl rfl ?_
     refine aE 10 rfl hs.vl (i) qN qN ?_
     refine aG 10 rfl (i) qN (u:=s.sl (i)) rfl ?_
     refine ar rfl qI ?_
     refine aF (d:=zd (tD d l k)) 1 rfl hdb rfl (aN _ _) fun w1=>?_
     refine aF (d:=zd (l i k)) 0 rfl htb rfl (aN _ _) fun w2=>?_
     refine aF (d:=zd (l k (k - 1))) 2 rfl hxb rfl (aN _ _) fun w3=>?_
     refine aV ?_
     refine rK 3 rfl rfl ?_
     refine aE 10 rfl hs.vl (i) qN qN ?_
     refine aG 10 rfl (i) qN (u:=s.sl (i)) rfl ?_
     refine bY 9 (i) rfl qN (hs.sl (i) qN) (k) qN qN ?_
     refine fX 9 i k rfl qN qN (cn (tN1 d l k i)) (if_pos ⟨rfl,rfl⟩) fun w4=>?_
     refine aV ?_
     refine nZ 3 rfl rfl ?_
     refine ar rfl qI ?_
     refine aE 8 rfl hs.vd (k+1) qN qN ?_
     refine bK (d:=zd (d (k+1))) 8 rfl (k+1) qN rfl (aN _ _) fun w5=>?_
     refine cG (fQ w1 w2 (tD d l k) (l i k) _ _ hT g1 qN qN) fun z1=>?_
     refine cG (fQ w3 w4 (l k (k - 1)) (tN1 d l k i) _ _ hlk hn1 qN qN) fun z2=>?_
     refine cG (nH z1 z2 _ _ _ _ (hT.mul g1) (hlk.mul hn1) qN qN) fun z3=>?_
     refine cG (gQ z3 w5 _ (d (k+1)) _ D (sz_add2 (hT.mul g1) (hlk.mul hn1)) hd1 qN qN nk1) fun z4=>?_
     refine bY 9 (i) rfl qN (hs.sl (i) qN) (k - 1) qN qN ?_
     refine iU 9 i (k - 1) rfl qN qN (cn (tN2 d l k i)) (fun a t=>cn (trw d l k (i+1) a t)) (aC (d:=zd (tN2 d l k i)) qM) (fun a t _ _=>?_) ?_
     ·by_cases e:a=i
      ·subst e
       by_cases e1:t=k
       ·subst e1
        rw [if_neg qN,if_pos ⟨rfl,rfl⟩]
        unfold trw; rw [if_pos qN,if_pos rfl]
       ·by_cases e2:t=k - 1
        ·rw [if_pos ⟨rfl,e2⟩]
         unfold trw; rw [if_pos qN,if_neg e1,if_pos e2]
        ·rw [if_neg qN,if_neg qN]
         unfold trw; rw [if_pos qN,if_neg e1,if_neg e2,if_neg qN]
         unfold tsw; rw [if_neg qN,if_neg qN]
      ·rw [if_neg qN,if_neg qN]
       unfold trw
       by_cases e3:k<a∧a<i
       ·rw [if_pos e3,if_pos qN]
       ·rw [if_neg e3,if_neg qN]
     refine ar rfl qI ?_
     exact aU (i+1) ⟨by omega,by omega⟩ (by simp only; omega) qF (dS (aB qD))
    ·have hin:i=n:=by omega
     subst hin
     refine aY [0,1,2,3,4,5,6,7] [0,1,2,3,4,5,6,7] qK qK ?_
     refine aV ?_
     refine nZ 2 rfl rfl ?_
     refine aF (d:=zd (tD d l k)) 0 rfl hdb rfl (aN _ _) fun w1=>?_
     refine aE 7 rfl hs.vd k qN qN ?_
     refine bL (d:=zd (tD d l k)) 7 rfl k qN rfl qK (aC qM) ?_
     refine fin (kk _) (dS (dS (aA (Seals.own_cong (os:=[_,_,_,_,_,_,_,_]++os) 5 (fun i=>zd (tdd d l k i)) rfl rfl (fun y _=>?_)) (aB qD))))
     show upd (fun i=>zd (d i)) k (zd (tD d l k)) y=zd (tdd d l k y)
     unfold upd tdd
     split <;> rfl
theorem owned_perm {os os':List Own} (h:os.Perm os') (b:Nat):eS os b↔eS os' b:=by
 rw [cP,cP]
 exact ⟨fun ⟨o,h1,h2⟩=>⟨o,h.mem_iff.1 h1,h2⟩,fun ⟨o,h1,h2⟩=>⟨o,h.mem_iff.2 h1,h2⟩⟩
theorem Apart.perm {os os':List Own} (h:os.Perm os'):Apart os→Apart os':=by
 induction h with
 | nil=>exact id
 | cons x p ih=>exact fun ⟨h1,h2,h3⟩=>⟨h1,fun b hb ho=>h2 b hb ((owned_perm p b).2 ho),ih h3⟩
 | swap x y l=>exact fun ⟨h1,h2,h3,h4,h5⟩=>⟨h3,fun b hb ho=>by
   rcases ho with ho | ho
   ·exact h2 b ho (.inl hb)
   ·exact h4 b hb ho,h1,fun b hb ho=>h2 b hb (.inr ho),h5⟩
 | trans _ _ ih1 ih2=>exact fun h=>ih2 (ih1 h)
theorem Seals.perm {os os':List Own} {fs:List bD} (h:os.Perm os'):Seals os fs os' fs:=by
 intro G w hw
 have good:∀ b,Good G.A os w b→Good G.A os' w b:=fun b ⟨g1,g2,g3⟩=>⟨g1,g2,fun hb=>g3 ((owned_perm h b).2 hb)⟩
 have agree:lL (Good G.A os w) w w:=fun _ _=>rfl
 exact ⟨hw.low,hw.size,hw.below,hw.apart.perm h,fun o ho i hi=>(hw.own o (h.mem_iff.2 ho) i hi).mono agree good (fun _ _=>rfl),hw.facts.mono agree good⟩
theorem pick_range (os:List Own):(List.range os.length).filterMap (a8 os)=os:=by
 have e:∀ k,a8 os k=os[k]? := fun k=>by
  induction os generalizing k with
  | nil=>simp [a8]
  | cons o r ih=>cases k with
   | zero=>simp [a8]
   | succ k=>simp [a8,ih]
 rw [show a8 os=fun k=>os[k]? from funext e]
 induction os with
 | nil=>rfl
 | cons o r ih =>
  rw [List.length_cons,List.range_succ_eq_map,List.filterMap_cons]
  simp only [List.getElem?_cons_zero,List.filterMap_map]
  congr 1
  have:((fun k=>(o::r)[k]?) ∘ Nat.succ)=fun k=>r[k]? := funext fun k=>by simp
  rw [this]
  exact ih fun k=>by
   clear ih
   induction r generalizing k with
   | nil=>simp [a8]
   | cons x r ih2=>cases k with
    | zero=>simp [a8]
    | succ k=>simpa [a8] using e (k+2)
def vC (os:List Own):List Nat→List Own
 | []=>[]
 | p::r=>match a8 os p with
  | some o=>o::vC os r
  | none=>vC os r
theorem pickOwn_eq (os:List Own):∀ ps,vC os ps=ps.filterMap (a8 os)
 | []=>rfl
 | p::r=>by
  rw [vC,List.filterMap_cons,pickOwn_eq os r]
  cases a8 os p <;> rfl
theorem Seals.pick {os:List Own} {fs:List bD} (ps:List Nat) (n:Nat) (hn:os.length=n) (hp:(ps.isPerm (List.range n))=true):Seals os fs (vC os ps) fs:=by
 subst hn
 have h1:ps.Perm (List.range os.length):=List.isPerm_iff.1 hp
 rw [pickOwn_eq]
 refine Seals.perm ?_
 have h2:=(h1.filterMap (a8 os)).symm
 rwa [pick_range] at h2
class TB4 (P:Program) (t:TypeId):Prop where
 und:∃ f0 f1 f2,P.underlying t=some (.struct #[f0,f1,f2])∧f0.offset=0∧f1.offset=2∧f2.offset=3∧(P.info? f0.type).map (·.size)=some 2∧(P.info? f1.type).map (·.size)=some 1∧(P.info? f2.type).map (·.size)=some 1
 zero:∃ i,P.info? t=some i∧i.zero=some (.agg #[.slice none 0 0,.slice none 0 0,.slice none 0 0,.slice none 0 0])
def bag (a:Value):Value:=.agg #[.slice none 0 0,.slice none 0 0,a,.slice none 0 0]
theorem build_b4 {P:Program} {t:TypeId} (ht:TB4 P t) {a:Value} (ha:a.cells = #[a]) (w:World):(Instr.build t #[(1,a)]).run P w=.ok (bag a) w:=by
 obtain ⟨f0,f1,f2,h1,h2,h3,h4,h5,h6,h7⟩:=ht.und
 obtain ⟨i,h8,h9⟩:=ht.zero
 simp [Instr.build,zeroValue,typeInfo,h8,h9,run_underlying h1,bQ h5,bQ h6,bQ h7,h2,h3,h4,Instr.fill,ha,bag,show (Value.agg #[.slice none 0 0,.slice none 0 0,.slice none 0 0,.slice none 0 0]).cells = #[.slice none 0 0,.slice none 0 0,.slice none 0 0,.slice none 0 0] from rfl]
theorem build_bas {P:Program} {t:TypeId} [ht:TB4 P t] {a:Value} {os:List Own} {fs:List bD} {K:bZ} (ha:a.oneCell'=true) (k:K (bag a) os fs):rJ P t [(1,a)] os fs K :=
 ⟨fun _ _ hw=>⟨_,_,fun w' _=>c9 (build_b4 ht (Array.toList_inj.1 (oH ha)) w'),k,hw⟩⟩
theorem Reads.bag {os:List Own} {fs:List bD} {a:Value} (ha:a.oneCell'=true):Reads os fs (bag a) (rD (.slice none 0 0) (.slice none 0 0) a (.slice none 0 0)):=fun _ _ _=>⟨_,RdC.four.2 ⟨rfl,rfl,rfl,ha,rfl⟩,rfl⟩
theorem info_bas:(Tryz.prog.info? 104).map (fun i=>(i.zero,i.size,i.bytes))=some (some (.agg #[.slice none 0 0,.slice none 0 0,.slice none 0 0,.slice none 0 0]),4,96):=by kernel_rfl
instance iCWj1:TB4 Tryz.prog 104:=⟨⟨_,_,_,Tryz.underlying104,rfl,rfl,rfl,by kernel_rfl,by kernel_rfl,by kernel_rfl⟩,by
 obtain ⟨i,h1,_,_,h4⟩:=l6 info_bas
 exact ⟨i,h1,h4⟩⟩
def bak (s:BS) (m n i dn:Nat) (b u:Jx) (d:Nat→Int) (l:Mx) (os:List Own):List Own :=
 jG (eD s.r 0) s.vb s.vu s.vd s.vl::wI s.sb i m b::bE s.vb 1 i (fun i=>.one (s.sb i))::wI s.su i n u::bE s.vu 1 i (fun i=>.one (s.su i)) ::
  bE s.vd 2 dn (fun i=>zd (d i))::famZ s.sl i n l::bE s.vl 1 i (fun i=>.one (s.sl i))::os
theorem Seals.part {F:Own} {l:Nat} {os:List Own} {fs:List bD} (hm:F.m=l+1) :
  Seals (F::os) fs (bE (F.v l) F.size (F.n l) (F.e l)::⟨l,F.v,F.size,F.n,F.e⟩::os) fs:=by
 intro G w hw
 have has:∀ b,F.has b↔(bE (F.v l) F.size (F.n l) (F.e l)).has b∨(⟨l,F.v,F.size,F.n,F.e⟩:Own).has b:=by
  intro b
  constructor
  ·rintro ⟨i,hi,hb⟩
   by_cases hif:i<l
   ·exact .inr ⟨i,hif,hb⟩
   ·have:i=l:=by omega
    subst this
    exact .inl ⟨0,Nat.zero_lt_one,hb⟩
  ·rintro (⟨i,hi,hb⟩ | ⟨i,hi,hb⟩)
   ·exact ⟨l,by omega,hb⟩
   ·exact ⟨i,by have:i<l:=hi; omega,hb⟩
 have own:∀ b,eS (bE (F.v l) F.size (F.n l) (F.e l)::⟨l,F.v,F.size,F.n,F.e⟩::os) b↔eS (F::os) b:=fun b=>by simp only [eS,has b,or_assoc]
 have good:∀ b,Good G.A (F::os) w b→Good G.A (bE (F.v l) F.size (F.n l) (F.e l)::⟨l,F.v,F.size,F.n,F.e⟩::os) w b:=fun b ⟨g1,g2,g3⟩=>⟨g1,g2,fun h=>g3 ((own b).1 h)⟩
 have agree:lL (Good G.A (F::os) w) w w:=fun _ _=>rfl
 obtain ⟨a1,a2,a3⟩:=hw.apart
 refine ⟨hw.low,hw.size,hw.below,⟨fun i j b hi hj h1 h2=>?_,fun b hb ho=>?_,fun i j b hi hj h1 h2=>a1 i j b (by have:i<l:=hi; omega) (by have:j<l:=hj; omega) h1 h2,fun b hb ho=>a2 b ((has b).2 (.inr hb)) ho,a3⟩,fun o ho i hi=>?_,hw.facts.mono agree good⟩
 ·have hi':i<1:=hi
  have hj':j<1:=hj
  omega
 ·obtain ⟨i,hi,hb⟩:=hb
  rcases ho with ⟨j,hj,hb2⟩ | ho
  ·have hj':j<l:=hj
   have:=a1 l j b qN qN hb hb2
   omega
  ·exact a2 b ⟨l,by omega,hb⟩ ho
 ·rcases List.mem_cons.1 ho with rfl | ho
  ·exact (hw.own F qP l qN).mono agree good (fun _ _=>rfl)
  ·rcases List.mem_cons.1 ho with rfl | ho
   ·have hi':i<l:=hi
    exact (hw.own F qP i qN).mono agree good (fun _ _=>rfl)
   ·exact (hw.own o (by simp [ho]) i hi).mono agree good (fun _ _=>rfl)
theorem perm_nth {F:Own}:∀ {os:List Own} {pos:Nat},a8 os pos=some F→os.Perm (F::cR os pos)
 | [],_,h=>by simp [a8] at h
 | o::r,0,h=>by simp only [a8,Option.some.injEq] at h; subst h; exact List.Perm.refl _
 | o::r,pos+1,h=>((perm_nth (os:=r) h).cons o).trans (List.Perm.swap F o _)
theorem perm_set (F':Own):∀ {os:List Own} {pos:Nat} {F:Own},a8 os pos=some F→(F'::cR os pos).Perm (setOwn os pos F')
 | [],_,_,h=>by simp [a8] at h
 | o::r,0,_,_=>List.Perm.refl _
 | o::r,pos+1,_,h=>(List.Perm.swap o F' _).trans ((perm_set F' (os:=r) h).cons o)
def xch (i l a:Nat):Nat:=if a=i then l else if a=l then i else a
theorem uH (i l a:Nat):xch i l (xch i l a)=a:=by
 unfold xch
 split
 ·subst_vars; split
  ·subst_vars; rfl
  ·rw [if_pos rfl]
 ·split
  ·subst_vars; rw [if_pos rfl]
  ·rfl
theorem xch_lt {i l a n:Nat} (hi:i<n) (hl:l<n) (ha:a<n):xch i l a<n:=by unfold xch; split <;> (try split) <;> omega
theorem xch_inj {i l a b:Nat} (h:xch i l a=xch i l b):a=b:=by rw [← uH i l a,h,uH]
theorem append_fam {P:Program} {t ty e:TypeId} {size bytes:Nat} {b:Value} {m:Nat} {el':Nat→Dat} {os:List Own} {fs:List bD} {K:bZ} [ht:TSl P t e size] [he:TEl P e size bytes] {F:Own} (F':Value→Own) (pos i:Nat)
  (h:a8 os pos=some F) (hi:i<F.m) (hsz:F.size=size) (hs:isSl (F.v i)) (hb:(b,.sl size m el')∈fs) (hm:F.n i+m≤9223372036854775807) (hby:(F.n i+m)*bytes≤140737488355328)
  (hF:∀ v,(F' v).m=F.m∧(F' v).size=F.size∧((F' v).v i=v∧(F' v).n i=F.n i+m∧∀ j,j<F.n i+m→(F' v).e i j=if j<F.n i then F.e i j else el' (j - F.n i))∧∀ a,a<F.m→a≠i→(F' v).v a=F.v a∧(F' v).n a=F.n a∧∀ j,j<F.n a→(F' v).e a j=F.e a j)
  (k:∀ v,isSl v→K v (setOwn os pos (F' v)) fs):AppendK P [t,t] ty (F.v i) b os fs K:=by
 subst hsz
 have hz:0<F.size:=he.pos
 obtain ⟨l,hl⟩:∃ l,F.m=l+1:=⟨F.m - 1,by omega⟩
 have el:xch i l l=i:=by
  unfold xch; split
  ·assumption
  ·rw [if_pos rfl]
 let F1:Own:=⟨F.m,fun a=>F.v (xch i l a),F.size,fun a=>F.n (xch i l a),fun a=>F.e (xch i l a)⟩
 have s1:Seals (F::cR os pos) fs (F1::cR os pos) fs:=Seals.re (os:=F::cR os pos) 0 (o':=F1) rfl (xch i l) rfl (fun a ha=>⟨xch_lt hi qN ha,rfl,rfl,fun _ _=>rfl⟩) (fun a b _ _ h=>xch_inj h) hz
 have s2:=Seals.part (F:=F1) (os:=cR os pos) (fs:=fs) hl
 have e1:bE (F1.v l) F1.size (F1.n l) (F1.e l)=bE (F.v i) F.size (F.n i) (F.e i):=by
  show bE (F.v (xch i l l)) F.size (F.n (xch i l l)) (F.e (xch i l l))=_
  rw [el]
 rw [e1] at s2
 refine AppendK.pre (aA (Seals.perm (perm_nth h)) (aA s1 s2)) (AppendK.post ?_)
 refine mY (el:=F.e i) 0 rfl hs (bC hb) hm hby fun v hv=>⟨_,_,?_,k v hv⟩
 obtain ⟨f1,f2,⟨f3,f4,f5⟩,f6⟩:=hF v
 let F2:Own:=⟨F.m,fun a=>if a=l then v else F.v (xch i l a),F.size,fun a=>if a=l then F.n i+m else F.n (xch i l a),fun a j=>if a=l then (if j<F.n i then F.e i j else el' (j - F.n i)) else F.e (xch i l a) j⟩
 have s3:Seals (bE v F.size (F.n i+m) (fun j=>if j<F.n i then F.e i j else el' (j - F.n i))::⟨l,F1.v,F1.size,F1.n,F1.e⟩::cR os pos) fs (F2::cR os pos) fs :=
  Seals.join (F:=⟨l,F1.v,F1.size,F1.n,F1.e⟩) (F':=F2) hl rfl rfl (fun a (ha:a<l)=>⟨if_neg qN,if_neg qN,fun j _=>if_neg qN⟩) ⟨if_pos rfl,if_pos rfl,fun j _=>if_pos rfl⟩ hz
 have s4:Seals (F2::cR os pos) fs (F' v::cR os pos) fs:=by
  refine Seals.re (os:=F2::cR os pos) 0 (o:=F2) (o':=F' v) rfl (xch i l) f2 (fun a ha=>?_) (fun a b _ _ h=>xch_inj h) hz
  rw [f1] at ha
  refine ⟨show xch i l a<F.m from xch_lt hi qN ha,?_⟩
  by_cases hai:a=i
  ·subst hai
   have ex:xch a l a=l:=if_pos rfl
   rw [ex]
   refine ⟨by rw [f3]; exact (if_pos rfl).symm,by rw [f4]; exact (if_pos rfl).symm,fun j hj=>?_⟩
   have hj':j<F.n a+m:=by
    have:F2.n l=F.n a+m:=if_pos rfl
    omega
   rw [f5 j hj']; exact (if_pos rfl).symm
  ·have hne:xch i l a≠l:=fun h=>by
    have:xch i l a=xch i l i:=by rw [h]; exact (if_pos rfl).symm
    exact hai (xch_inj this)
   obtain ⟨g1,g2,g3⟩:=f6 a ha hai
   have hn2:F2.n (xch i l a)=F.n a:=by
    show (if xch i l a=l then F.n i+m else F.n (xch i l (xch i l a)))=_
    rw [if_neg hne,uH]
   refine ⟨?_,by rw [g2,hn2],fun j hj=>?_⟩
   ·rw [g1]
    show _=(if xch i l a=l then v else F.v (xch i l (xch i l a)))
    rw [if_neg hne,uH]
   ·rw [hn2] at hj
    rw [g3 j hj]
    show _=(if xch i l a=l then _ else F.e (xch i l (xch i l a)) j)
    rw [if_neg hne,uH]
 exact aA s3 (aA s4 (Seals.perm (perm_set (F' v) h)))
def upv (f:Nat→Value) (i:Nat) (v:Value) (a:Nat):Value:=if a=i then v else f a
theorem w8 {P:Program} {t ty e:TypeId} {bytes:Nat} {b:Value} {x:Row} {vs:Nat→Value} {m:List Row} {os:List Own} {fs:List bD} {K:bZ} [ht:TSl P t e 2] [he:TEl P e 2 bytes] (pos i:Nat)
  (h:a8 os pos=some (o8 vs m)) (hi:i<m.length) (hs:isSl (vs i)) (hb:(b,V x)∈fs) (hm:(m.getD i []).length+x.length≤9223372036854775807) (hby:((m.getD i []).length+x.length)*bytes≤140737488355328)
  (k:∀ v,isSl v→K v (setOwn os pos (o8 (upv vs i v) (m.set i (m.getD i []++x)))) fs):AppendK P [t,t] ty (vs i) b os fs K:=by
 refine append_fam (F:=o8 vs m) (m:=x.length) (el':=fun j=>J (x.getD j z0)) (fun v=>o8 (upv vs i v) (m.set i (m.getD i []++x))) pos i h hi rfl hs hb hm hby (fun v=>?_) k
 have hg:∀ a,a<m.length→(m.set i (m.getD i []++x)).getD a []=if a=i then m.getD i []++x else m.getD a []:=fun a ha=>by
  rw [wD hi]
 refine ⟨List.length_set,rfl,⟨if_pos rfl,?_,fun j hj=>?_⟩,fun a ha hai=>⟨if_neg hai,?_,fun j hj=>?_⟩⟩
 ·show ((m.set i (m.getD i []++x)).getD i []).length=_
  rw [hg i hi,if_pos rfl,List.length_append]; rfl
 ·show J (((m.set i (m.getD i []++x)).getD i []).getD j z0)=if j<(m.getD i []).length then J ((m.getD i []).getD j z0) else J (x.getD (j - (m.getD i []).length) z0)
  rw [hg i hi,if_pos rfl]
  simp only [gE]
  split
  ·rename_i hj2
   rw [List.getElem?_append_left hj2]
  ·rename_i hj2
   rw [List.getElem?_append_right (Nat.not_lt.1 hj2)]
 ·show ((m.set i (m.getD i []++x)).getD a []).length=_
  rw [hg a ha,if_neg hai]; rfl
 ·show J (((m.set i (m.getD i []++x)).getD a []).getD j z0)=J ((m.getD a []).getD j z0)
  rw [hg a ha,if_neg hai]
def nilV:Value:=.slice none 0 0
theorem Seals.more {vs:Nat→Value} {m:List Row} {os:List Own} {fs:List bD}:Seals (o8 vs m::os) fs (o8 (upv vs m.length nilV) (m++[[]])::os) fs:=by
 refine aA (cB _ _ 2 fun _=>.one undef) (Seals.join (F:=o8 vs m) (F':=o8 (upv vs m.length nilV) (m++[[]])) (by simp [o8]) rfl rfl (fun a (ha:a<m.length)=>?_) ⟨if_pos rfl,?_,fun j hj=>absurd hj (Nat.not_lt_zero _)⟩)
 ·have e:(m++[[]]).getD a []=m.getD a []:=by simp [gE,List.getElem?_append_left ha]
  refine ⟨if_neg qN,?_,fun j _=>?_⟩
  ·show ((m++[[]]).getD a []).length=_
   rw [e]; rfl
  ·show J (((m++[[]]).getD a []).getD j z0)=_
   rw [e]; rfl
 ·show ((m++[[]]).getD m.length []).length=0
  simp [gE]
def inL (l:List Nat) (i:Nat):Bool:=l.any (Nat.beq i)
def InO:List Own→List Own→Prop
 | [],_=>True
 | E::r,os=>E∈os∧InO r os
structure DoE (P:Program) (E:List Own) (f:Fr) (o:Oper) (os:List Own) (fs:List bD) (K:bZ):Prop where
 out:∃ v,(∀ a:Act,KAt (fI o.op) f a→∀ G os fs w,InO E os→Holds G os fs w→(execOp a.eval o).run P w=.ok (.value v) w)∧InO E os∧K v os fs
def noB:Bool→Bool
 | true=>false
 | false=>true
def oA:Op→Bool
 | .call c=>match c.callee with
  | .value _=>true
  | _=>false
 | _=>false
theorem DoK.semD {P:Program} {f:Fr} {os:List Own} {fs:List bD} {K:bZ} (o:Oper) (hc:oA o.op=true)
  (h:DoK P false f o.type os fs K o.op):∃ s,(∀ a:Act,KAt (fI o.op) f a→execOp a.eval o=s)∧Dyn P s os fs K:=by
 cases hop:o.op <;> simp only [hop,oA,Bool.false_eq_true] at hc
 rename_i c
 have hargs:∀ x,x∈c.args.toList→x∈o.op.operands.toList:=fun x hx=>by simp [hop,Op.operands,Call.operands]; exact .inr (by simpa using hx)
 cases hcl:c.callee <;> simp only [hcl,Bool.false_eq_true] at hc
 rw [hop] at h
 simp only [DoK,hcl] at h
 obtain ⟨x,h1,h⟩:=bB h
 obtain ⟨y,h2,h⟩:=d9 h
 refine ⟨_,fun a hk=>?_,h.out⟩
 rw [← hop] at hk
 unfold execOp
 simp only [hop,resolve,hcl,hk.ev (by simp [hop,Op.operands,Call.operands,hcl]) h1,fM _ _ _ (hk.evs hargs h2)]
theorem callV_dyn {o:Op} (h:oA o=true):e7 o=true:=by
 cases o <;> simp only [oA,Bool.false_eq_true] at h
 rename_i c
 cases hc:c.callee <;> simp only [hc,Bool.false_eq_true] at h
 simp [e7,hc]
def andB (b:Bool) (p q:Prop):Prop :=
 match b with
 | true=>p∧q
 | false=>q
def selE (b:Bool) (p q:Prop):Prop :=
 match b with
 | true=>p
 | false=>q
noncomputable def VCE (P:Program) (L:List Oper) (E:List Own) (fl p1 sl:List Nat) (c:List Nat):Fr→List Own→List bD→lJ→Prop :=
 @List.rec Nat (fun _=>Fr→List Own→List bD→lJ→Prop) (fun f os fs K=>K f os fs)
  (fun i _ ih f os fs K=>match vK L i with
   | some o=>selE (inL fl i) (orF (gd L f o.guard) (DoE P E f o os fs fun v os fs=>ih (o4 f o.dst v) os fs K) False)
    (orF (gd L f o.guard)
     (orV (detv f o.op) (fun v=>ih (o4 f o.dst v) os fs K) (DoK P (noB (inL sl i)) f o.type os fs (fun v os fs=>andB (inL p1 i) (InO E os) (ih (o4 f o.dst v) os fs K)) o.op))
     (ih (o4 f o.dst undef) os fs K))
   | none=>ih f os fs K) c
theorem VCE_cons (P:Program) (L:List Oper) (E:List Own) (fl p1 sl:List Nat) (i:Nat) (c:List Nat) (f:Fr) (os:List Own) (fs:List bD) (K:lJ) (o:Oper) (ho:L[i]? = some o) :
  VCE P L E fl p1 sl (i::c) f os fs K=selE (inL fl i) (orF (gd L f o.guard) (DoE P E f o os fs fun v os fs=>VCE P L E fl p1 sl c (o4 f o.dst v) os fs K) False)
    (orF (gd L f o.guard)
     (orV (detv f o.op) (fun v=>VCE P L E fl p1 sl c (o4 f o.dst v) os fs K) (DoK P (noB (inL sl i)) f o.type os fs (fun v os fs=>andB (inL p1 i) (InO E os) (VCE P L E fl p1 sl c (o4 f o.dst v) os fs K)) o.op))
     (VCE P L E fl p1 sl c (o4 f o.dst undef) os fs K)):=by
 have h:vK L i=some o:=by rw [j7,ho]
 show (match vK L i with
  | some o=>_
  | none=>_)=_
 rw [h]
 rfl
def pairE (L:List Oper) (tbl fl p1 sl:List Nat) (i:Nat) (oi:Oper) (j:Nat) (oj:Oper):Bool :=
 !Nat.beq i j && !sameD oi.dst oj.dst&&((!(hits oi.dst (dV L oj)||hits oj.dst (dV L oi)||e7 oi.op||(e7 oj.op&&inL fl i && !inL p1 j)||((isSt oj.op||inL sl j) && !isPu oi.op && !inL fl i)))||anc tbl i j)
def pairsE (L:List Oper) (tbl fl p1 sl:List Nat):List Nat→Bool
 | []=>true
 | i::r=>(match vK L i with
   | none=>false
   | some oi => !hits oi.dst (dV L oi) && !(inL fl i&&e7 oi.op) && !(inL sl i && !oA oi.op)&&r.all fun j=>match vK L j with
    | some oj=>pairE L tbl fl p1 sl i oi j oj
    | none=>false)&&pairsE L tbl fl p1 sl r
def ordEOK (L:List Oper) (fl p1 sl c:List Nat):Bool :=
 Nat.beq c.length L.length&&(List.range L.length).all (fun i=>c.any (Nat.beq i))&&pairsE L (rG L []) fl p1 sl c
structure m7 (L:List Oper) (tbl fl p1 sl:List Nat) (c:List Nat):Prop where
 nodup:c.Nodup
 all:∀ i,i∈c↔i<L.length
 self:∀ i o,i∈c→L[i]? = some o→(∀ t,o.dst=some t→t ∉ dV L o)∧(inL fl i=true→e7 o.op=false)∧(inL sl i=true→oA o.op=true)
 pair:∀ pre i post j oi oj,c=pre++i::post→j∈post→L[i]? = some oi→L[j]? = some oj →
  (∀ t,oi.dst=some t→oj.dst≠some t)∧((∃ t,oi.dst=some t∧t∈dV L oj)∨(∃ t,oj.dst=some t∧t∈dV L oi)∨e7 oi.op=true∨(e7 oj.op=true∧inL fl i=true∧inL p1 j=false)∨((isSt oj.op||inL sl j)=true∧isPu oi.op=false∧inL fl i=false)→anc tbl i j=true)
theorem sW {L:List Oper} {tbl fl p1 sl:List Nat}:∀ {c:List Nat},pairsE L tbl fl p1 sl c=true →
  c.Nodup∧(∀ i,i∈c→i<L.length)∧(∀ i o,i∈c→L[i]? = some o→(∀ t,o.dst=some t→t ∉ dV L o)∧(inL fl i=true→e7 o.op=false)∧(inL sl i=true→oA o.op=true)) ∧
  ∀ pre i post j oi oj,c=pre++i::post→j∈post→L[i]? = some oi→L[j]? = some oj →
   (∀ t,oi.dst=some t→oj.dst≠some t)∧((∃ t,oi.dst=some t∧t∈dV L oj)∨(∃ t,oj.dst=some t∧t∈dV L oi)∨e7 oi.op=true∨(e7 oj.op=true∧inL fl i=true∧inL p1 j=false)∨((isSt oj.op||inL sl j)=true∧isPu oi.op=false∧inL fl i=false)→anc tbl i j=true)
 | [],_=>⟨List.nodup_nil,by simp,by simp,fun pre i post j oi oj h=>by simp at h⟩
 | x::r,h=>by
  simp only [pairsE,Bool.and_eq_true] at h
  obtain ⟨h1,h2⟩:=h
  obtain ⟨g1,g2,g3,g4⟩:=sW h2
  cases hx:vK L x with
  | none=>simp [hx] at h1
  | some ox =>
   simp only [hx,Bool.and_eq_true] at h1
   obtain ⟨⟨⟨h3,h3'⟩,h3''⟩,h4⟩:=h1
   have hxL:L[x]? = some ox:=by rw [← j7]; exact hx
   have hpair:∀ j,j∈r→∃ oj,vK L j=some oj∧pairE L tbl fl p1 sl x ox j oj=true:=by
    intro j hj
    have:=List.all_eq_true.1 h4 j hj
    cases hoj:vK L j with
    | none=>simp [hoj] at this
    | some oj=>simp only [hoj] at this; exact ⟨oj,rfl,this⟩
   refine ⟨List.nodup_cons.2 ⟨fun hm=>?_,g1⟩,fun i hi=>?_,fun i o hi ho=>?_,fun pre i post j oi oj hp hj hoi hoj=>?_⟩
   ·obtain ⟨oj,_,hp⟩:=hpair x hm
    simp [pairE] at hp
   ·rcases List.mem_cons.1 hi with rfl | hi
    ·exact (List.getElem?_eq_some_iff.1 hxL).1
    ·exact g2 i hi
   ·rcases List.mem_cons.1 hi with rfl | hi
    ·rw [hxL] at ho
     obtain rfl:=Option.some.inj ho
     refine ⟨fun t ht hm=>?_,fun hf=>?_,fun hf=>?_⟩
     ·rw [oU.2 ⟨t,ht,hm⟩] at h3
      cases h3
     ·rw [hf] at h3'
      cases hd:e7 ox.op with
      | false=>rfl
      | true=>rw [hd] at h3'; cases h3'
     ·rw [hf] at h3''
      cases hd:oA ox.op with
      | true=>rfl
      | false=>rw [hd] at h3''; cases h3''
    ·exact g3 i o hi ho
   ·cases pre with
    | nil =>
     simp only [List.nil_append,List.cons.injEq] at hp
     obtain ⟨rfl,rfl⟩:=hp
     obtain ⟨oj',h5,h6⟩:=hpair j hj
     rw [j7,hoj] at h5
     obtain rfl:=Option.some.inj h5
     rw [hxL] at hoi
     obtain rfl:=Option.some.inj hoi
     simp only [pairE,Bool.and_eq_true,Bool.or_eq_true,Bool.not_eq_true'] at h6
     obtain ⟨⟨_,h7⟩,h8⟩:=h6
     refine ⟨fun t ht ht'=>?_,fun hc=>?_⟩
     ·rw [ht,ht'] at h7; simp [sameD] at h7
     ·rcases h8 with h8 | h8
      ·exfalso
       simp only [Bool.or_eq_false_iff] at h8
       obtain ⟨⟨⟨⟨q1,q2⟩,q3⟩,q5⟩,q4⟩:=h8
       rcases hc with hc | hc | hc | hc | hc
       ·rw [oU.2 hc] at q1; cases q1
       ·rw [oU.2 hc] at q2; cases q2
       ·rw [hc] at q3; cases q3
       ·rw [hc.1,hc.2.1,hc.2.2] at q5; cases q5
       ·rw [hc.1,hc.2.1,hc.2.2] at q4; cases q4
      ·exact h8
    | cons y pre =>
     simp only [List.cons_append,List.cons.injEq] at hp
     obtain ⟨rfl,rfl⟩:=hp
     exact g4 pre i post j oi oj rfl hj hoi hoj
theorem ordEOK_sound {L:List Oper} {fl p1 sl c:List Nat} (h:ordEOK L fl p1 sl c=true):m7 L (rG L []) fl p1 sl c:=by
 simp only [ordEOK,Bool.and_eq_true] at h
 obtain ⟨⟨_,h2⟩,h3⟩:=h
 obtain ⟨g1,g2,g3,g4⟩:=sW h3
 refine ⟨g1,fun i=>⟨g2 i,fun hi=>?_⟩,g3,g4⟩
 have:=List.all_eq_true.1 h2 i (by simpa using hi)
 obtain ⟨x,hx,hb⟩:=List.any_eq_true.1 this
 have:=Nat.eq_of_beq_eq_true hb
 subst this
 exact hx
def PendE (P:Program) (L:List Oper) (tbl:List Nat) (E:List Own) (f0:Fr) (vd:List Nat) (val:Nat→Value) (k:Nat) (o:Oper):Prop :=
 ∃ fk:Fr,(∀ t v,t∈dV L o→look fk t=some v→Src L tbl f0 vd val k t v)∧gd L fk o.guard=some true ∧
  ∀ a:Act,KAt (fI o.op) fk a→∀ G os fs w,InO E os→Holds G os fs w→(execOp a.eval o).run P w=.ok (.value (val k)) w
structure InvE (P:Program) (N:Nat) (L:List Oper) (E:List Own) (fl p1 sl:List Nat) (f0:Fr) (G:Ctx) (K:lJ) (c:List Nat) (D:Nat→Prop) (vd c':List Nat) (val:Nat→Value) (vf:Fr) (os:List Own) (fs:List bD) (a:Act) (w:World):Prop where
 split:c=vd++c'
 sub:∀ i,D i→i∈vd
 clos:∀ i,D i→∀ j,jL .any L j i→D j
 defers:a.defers=[]
 size:a.tmps.size=N
 act:∀ t v,((∃ j o,D j∧L[j]? = some o∧o.dst=some t∧val j=v)∨(look f0 t=some v∧∀ j o,D j→L[j]? = some o→o.dst≠some t))→a.tmps[t]? = some v
 virt:∀ t v,look vf t=some v→(∃ j o,j∈vd∧L[j]? = some o∧o.dst=some t∧val j=v)∨(look f0 t=some v∧∀ j o,j∈vd→L[j]? = some o→o.dst≠some t)
 pend:∀ k o,k∈vd→¬ D k→L[k]? = some o→inL fl k=false→Pend P L (rG L []) f0 vd val w k o
 pendE:∀ k o,k∈vd→¬ D k→L[k]? = some o→inL fl k=true→PendE P L (rG L []) E f0 vd val k o
 ent:∀ k,k∈vd→¬ D k→inL fl k=true→InO E os
 st:Holds G os fs w
 vc:VCE P L E fl p1 sl c' vf os fs K
section
variable {P:Program} {N:Nat} {L:List Oper} {E:List Own} {fl p1 sl:List Nat} {f0:Fr} {G:Ctx} {K:lJ} {c:List Nat}
theorem srcE_next (hc:m7 L (rG L []) fl p1 sl c) {vd c':List Nat} {k:Nat} {val:Nat→Value} {vf:Fr} {o:Oper} (hs:c=vd++k::c') (ho:L[k]? = some o)
  (virt:∀ t v,look vf t=some v→(∃ j o,j∈vd∧L[j]? = some o∧o.dst=some t∧val j=v)∨(look f0 t=some v∧∀ j o,j∈vd→L[j]? = some o→o.dst≠some t)) :
  ∀ t v,t∈dV L o→look vf t=some v→Src L (rG L []) f0 vd val k t v:=by
 intro t v ht hl
 rcases virt t v hl with ⟨j,oj,h1,h2,h3,h4⟩ | ⟨h1,h2⟩
 ·left
  refine ⟨j,oj,h1,h2,h3,h4,?_⟩
  obtain ⟨pre,post,rfl⟩:=List.append_of_mem h1
  exact (hc.pair pre j (post++k::c') k oj o (by rw [hs]; simp) qP h2 ho).2 (.inl ⟨t,h3,ht⟩)
 ·right
  refine ⟨h1,fun j oj hj hd=>?_⟩
  have hjc:j∈c:=(hc.all j).2 (List.getElem?_eq_some_iff.1 hj).1
  rw [hs] at hjc
  rcases List.mem_append.1 hjc with hm | hm
  ·exact absurd hd (h2 j oj hm hj)
  ·rcases List.mem_cons.1 hm with rfl | hm
   ·rw [ho] at hj
    obtain rfl:=Option.some.inj hj
    exact absurd ht ((hc.self j o ((hc.all j).2 (List.getElem?_eq_some_iff.1 ho).1) ho).1 t hd)
   ·exact (hc.pair vd k c' j o oj hs hm ho hj).2 (.inr (.inl ⟨t,hd,ht⟩))
theorem PendE.keep {tbl:List Nat} {vd:List Nat} {val:Nat→Value} {k:Nat} {o:Oper} {u:Value} {x:Nat} (hx:x ∉ vd) (hk:k∈vd) (h:PendE P L tbl E f0 vd val k o) :
  PendE P L tbl E f0 (vd++[x]) (nL val x u) k o:=by
 have hkx:k≠x:=fun e=>hx (e ▸ hk)
 obtain ⟨fk,h1,h2,h3⟩:=h
 refine ⟨fk,fun t v ht hl=>(h1 t v ht hl).keep hx,h2,?_⟩
 simpa [nL,hkx] using h3
theorem virtE_keep {vd:List Nat} {val:Nat→Value} {vf:Fr} {x:Nat} {o:Oper} {u:Value} (hxvd:x ∉ vd) (ho:L[x]? = some o)
  (virt:∀ t v,look vf t=some v→(∃ j o,j∈vd∧L[j]? = some o∧o.dst=some t∧val j=v)∨(look f0 t=some v∧∀ j o,j∈vd→L[j]? = some o→o.dst≠some t)) :
  ∀ t v,look (o4 vf o.dst u) t=some v→(∃ j o,j∈vd++[x]∧L[j]? = some o∧o.dst=some t∧nL val x u j=v)∨(look f0 t=some v∧∀ j o,j∈vd++[x]→L[j]? = some o→o.dst≠some t):=by
 intro t v hl
 have old:look vf t=some v→o.dst≠some t→(∃ j o,j∈vd++[x]∧L[j]? = some o∧o.dst=some t∧nL val x u j=v)∨(look f0 t=some v∧∀ j o,j∈vd++[x]→L[j]? = some o→o.dst≠some t):=by
  intro hl hne
  rcases virt t v hl with ⟨j,oj,h1,h2,h3,h4⟩ | ⟨h1,h2⟩
  ·refine .inl ⟨j,oj,by simp [h1],h2,h3,?_⟩
   have:j≠x:=fun e=>hxvd (e ▸ h1)
   simp [nL,this,h4]
  ·refine .inr ⟨h1,fun j oj hj hjo=>?_⟩
   rcases List.mem_append.1 hj with hj | hj
   ·exact h2 j oj hj hjo
   ·simp only [List.mem_singleton] at hj
    subst hj
    rw [ho] at hjo
    obtain rfl:=Option.some.inj hjo
    exact hne
 cases hd:o.dst with
 | none=>rw [hd] at hl; exact old hl (by rw [hd]; simp)
 | some d =>
  rw [hd] at hl
  simp only [o4,look] at hl
  cases hb:Nat.beq d t with
  | true =>
   have:=Nat.eq_of_beq_eq_true hb
   subst this
   simp only [hb,Option.some.injEq] at hl
   exact .inl ⟨x,o,by simp,ho,hd,by simp [nL,hl]⟩
  | false =>
   simp only [hb] at hl
   exact old hl (by rw [hd]; intro e; simp only [Option.some.injEq] at e; subst e; simp at hb)
theorem virtE_step (hc:m7 L (rG L []) fl p1 sl c) {D:Nat→Prop} {vd c':List Nat} {k:Nat} {val:Nat→Value} {vf:Fr} {os:List Own} {fs:List bD} {a:Act} {w:World} {o:Oper}
  (h:InvE P N L E fl p1 sl f0 G K c D vd (k::c') val vf os fs a w) (ho:L[k]? = some o) (hdyn:e7 o.op=false) (hp1:inL p1 k=false) :
  ∃ val' vf' fs',InvE P N L E fl p1 sl f0 G K c D (vd++[k]) c' val' vf' os fs' a w:=by
 have hnod:=hc.nodup
 rw [h.split,List.nodup_append] at hnod
 have hk:k ∉ vd:=fun hm=>hnod.2.2 k hm k qP rfl
 have src:=srcE_next hc h.split ho h.virt
 have hvc:=h.vc
 rw [VCE_cons _ _ _ _ _ _ _ _ _ _ _ _ _ ho] at hvc
 have fin:∀ (u:Value) (fs':List bD),Holds G os fs' w→VCE P L E fl p1 sl c' (o4 vf o.dst u) os fs' K →
   (inL fl k=false→(gd L vf o.guard=some false∧u=undef)∨(gd L vf o.guard=some true∧∀ (a:Act) (w':World),KAt (fI o.op) vf a→(isPu o.op=true∨Below w.heap.size w w')→(execOp a.eval o).run P w'=.ok (.value u) w')) →
   (inL fl k=true→InO E os∧gd L vf o.guard=some true∧∀ a:Act,KAt (fI o.op) vf a→∀ G os fs w,InO E os→Holds G os fs w→(execOp a.eval o).run P w=.ok (.value u) w) →
   ∃ val' vf' fs',InvE P N L E fl p1 sl f0 G K c D (vd++[k]) c' val' vf' os fs' a w:=by
  intro u fs' hst hv hp hpE
  refine ⟨nL val k u,o4 vf o.dst u,fs',by rw [h.split]; simp,fun i hi=>by simp [h.sub i hi],h.clos,h.defers,h.size,?_,virtE_keep hk ho h.virt,?_,?_,?_,hst,hv⟩
  ·intro t v ht
   refine h.act t v ?_
   rcases ht with ⟨j,oj,h1,h2,h3,h4⟩ | ht
   ·have:j≠k:=fun e=>hk (e ▸ h.sub j h1)
    exact .inl ⟨j,oj,h1,h2,h3,by simpa [nL,this] using h4⟩
   ·exact .inr ht
  ·intro x ox hx hnD hox hfl
   rcases List.mem_append.1 hx with hx | hx
   ·exact (h.pend x ox hx hnD hox hfl).keep hk hx (.inr (Below.refl _ _))
   ·simp only [List.mem_singleton] at hx
    subst hx
    rw [ho] at hox
    obtain rfl:=Option.some.inj hox
    refine ⟨hdyn,vf,fun t v ht hl=>(src t v ht hl).keep hk,?_⟩
    rcases hp hfl with ⟨h1,h2⟩ | ⟨h1,h2⟩
    ·exact .inl ⟨h1,by simp [nL,h2]⟩
    ·exact .inr ⟨h1,fun a w' ha hb=>by simpa [nL] using h2 a w' ha hb⟩
  ·intro x ox hx hnD hox hfl
   rcases List.mem_append.1 hx with hx | hx
   ·exact (h.pendE x ox hx hnD hox hfl).keep hk hx
   ·simp only [List.mem_singleton] at hx
    subst hx
    rw [ho] at hox
    obtain rfl:=Option.some.inj hox
    obtain ⟨_,h1,h2⟩:=hpE hfl
    exact ⟨vf,fun t v ht hl=>(src t v ht hl).keep hk,h1,by simpa [nL] using h2⟩
  ·intro x hx hnD hfl
   rcases List.mem_append.1 hx with hx | hx
   ·exact h.ent x hx hnD hfl
   ·simp only [List.mem_singleton] at hx
    subst hx
    exact (hpE hfl).1
 have hsk:inL sl k=false:=by
  cases e:inL sl k with
  | false=>rfl
  | true =>
   have:=callV_dyn ((hc.self k o ((hc.all k).2 (List.getElem?_eq_some_iff.1 ho).1) ho).2.2 e)
   rw [hdyn] at this; cases this
 cases hfl:inL fl k with
 | true =>
  simp only [hfl,selE] at hvc
  cases hg:gd L vf o.guard with
  | none=>simp only [hg,orF] at hvc
  | some b =>
   cases b with
   | false=>simp only [hg,orF] at hvc
   | true =>
    simp only [hg,orF] at hvc
    obtain ⟨v,h1,h2,h3⟩:=hvc.out
    exact fin v fs h.st h3 (fun e=>by rw [hfl] at e; cases e) (fun _=>⟨h2,hg,h1⟩)
 | false =>
 have nE:∀ {p:Prop},inL fl k=true→p:=fun e=>by rw [hfl] at e; cases e
 simp only [hfl,selE] at hvc
 cases hg:gd L vf o.guard with
 | none=>simp only [hg,orF] at hvc
 | some b =>
  cases b with
  | false=>simp only [hg,orF] at hvc; exact fin undef fs h.st hvc (fun _=>.inl ⟨hg,rfl⟩) nE
  | true =>
   simp only [hg,orF] at hvc
   cases hv:detv vf o.op with
   | some v=>simp only [hv,orV] at hvc; exact fin v fs h.st hvc (fun _=>.inr ⟨hg,fun a w' ha _=>mR P ha hv w'⟩) nE
   | none =>
    simp only [hv,orV,hp1,andB,hsk,noB] at hvc
    cases hfa:isFa o.op with
    | true =>
     obtain ⟨s,hs1,hs2⟩:=fa_sem o hfa hvc
     obtain ⟨v,fs',h1,h2,h3⟩:=hs2 G w h.st
     exact fin v fs' h3 h2 (fun _=>.inr ⟨hg,fun a w' ha _=>by rw [hs1 a ha]; exact h1 w' trivial⟩) nE
    | false =>
    obtain ⟨s,hs⟩:=DoK.sem o hvc
    obtain ⟨v,fs',h1,h2,h3⟩:=hs.det hdyn G w h.st
    exact fin v fs' h3 h2 (fun _=>.inr ⟨hg,fun a w' ha hb=>by
     rcases hb with hb | hb
     ·exact (pu_dok hb hfa hvc).elim
     ·rw [hs.same a ha]; exact h1 w' hb⟩) nE
theorem dst_at {L:List Oper} {N k:Nat} {o:Oper} (hd:gN N L=true) (h:L[k]? = some o):dstOK N o.dst=true:=by
 induction L generalizing k with
 | nil=>simp at h
 | cons x r ih =>
  simp only [gN,Bool.and_eq_true] at hd
  cases k with
  | zero=>simp only [List.getElem?_cons_zero,Option.some.injEq] at h; subst h; exact hd.1
  | succ k=>exact ih hd.2 (by simpa using h)
theorem doE_pend (hc:m7 L (rG L []) fl p1 sl c) (hdst:gN N L=true) {Q:pC} {D:Nat→Prop} {vd c':List Nat} {k:Nat} {val:Nat→Value} {vf:Fr} {os:List Own} {fs:List bD} {a:Act} {w:World} {o:Oper} {rest:List Nat}
  (h:InvE P N L E fl p1 sl f0 G K c D vd c' val vf os fs a w) (ho:L[k]? = some o) (hk:k∈vd) (hnD:¬ D k) (hready:∀ j,jL .any L j k→D j)
  (next:∀ a',InvE P N L E fl p1 sl f0 G K c (fun i=>D i∨i=k) vd c' val vf os fs a' w→wpOps P L.toArray (tW N G Q) rest a' w):wpOps P L.toArray (tW N G Q) (k::rest) a w:=by
 have hdk:=dst_at hdst ho
 have distinct:∀ j oj,D j→L[j]? = some oj→∀ t,o.dst=some t→oj.dst≠some t:=by
  intro j oj hj hjo t ht
  have hjv:=h.sub j hj
  have hne:j≠k:=fun e=>hnD (e ▸ hj)
  have hjc:j∈c:=by rw [h.split]; simp [hjv]
  have hkc:k∈c:=by rw [h.split]; simp [hk]
  obtain ⟨pre,post,hp⟩:=List.append_of_mem hjc
  rw [hp] at hkc
  rcases List.mem_append.1 hkc with hm | hm
  ·obtain ⟨pre',post',hp'⟩:=List.append_of_mem hm
   exact (hc.pair pre' k (post'++j::post) j o oj (by rw [hp,hp']; simp) qP ho hjo).1 t ht
  ·rcases List.mem_cons.1 hm with hm | hm
   ·exact absurd hm.symm hne
   ·intro hjt
    exact (hc.pair pre j post k oj o hp hm hjo ho).1 t hjt ht
 have inv':InvE P N L E fl p1 sl f0 G K c (fun i=>D i∨i=k) vd c' val vf os fs (a.put o.dst (val k)) w:=by
  refine ⟨h.split,fun i hi=>hi.elim (h.sub i) (fun e=>e ▸ hk),fun i hi j hj=>?_,?_,?_,act_put hdk h.size ho distinct h.act,h.virt,fun x ox hx hnx=>h.pend x ox hx (fun hx'=>hnx (.inl hx')),fun x ox hx hnx=>h.pendE x ox hx (fun hx'=>hnx (.inl hx')),fun x hx hnx=>h.ent x hx (fun hx'=>hnx (.inl hx')),h.st,h.vc⟩
  ·rcases hi with hi | rfl
   ·exact .inl (h.clos i hi j hj)
   ·exact .inl (hready j hj)
  ·cases hd:o.dst <;> simp [Act.put,h.defers]
  ·cases hd:o.dst <;> simp [Act.put,h.size]
 have ho':L.toArray[k]? = some o:=by simpa using ho
 simp only [wpOps,ho']
 cases hfl:inL fl k with
 | true =>
  obtain ⟨fk,hsrc,hg,hrun⟩:=h.pendE k o hk hnD ho hfl
  have hkat:KAt (dV L o) fk a:=mF h.clos hnD hready h.act hsrc
  have hkat':KAt (fI o.op) fk a:=fun t v ht=>hkat t v (List.mem_append_left _ ht)
  rw [kZ hkat hg]
  simp only [if_true]
  left
  unfold Oper.wp
  rw [hrun a hkat' G os fs w (h.ent k hk hnD hfl) h.st]
  exact next _ inv'
 | false =>
 obtain ⟨_,fk,hsrc,hcase⟩:=h.pend k o hk hnD ho hfl
 have hkat:KAt (dV L o) fk a:=mF h.clos hnD hready h.act hsrc
 have hkat':KAt (fI o.op) fk a:=fun t v ht=>hkat t v (List.mem_append_left _ ht)
 rcases hcase with ⟨h1,h2⟩ | ⟨h1,h2⟩
 ·rw [kZ hkat h1]
  simp only [Bool.false_eq_true,if_false]
  rw [← h2]
  exact next _ inv'
 ·rw [kZ hkat h1]
  simp only [if_true]
  left
  unfold Oper.wp
  rw [h2 a w hkat' (.inr (Below.refl _ _))]
  exact next _ inv'
theorem doE_dyn (hc:m7 L (rG L []) fl p1 sl c) (hdst:gN N L=true) {Q:pC} {D:Nat→Prop} {vd c':List Nat} {k:Nat} {val:Nat→Value} {vf:Fr} {os:List Own} {fs:List bD} {a:Act} {w:World} {o:Oper} {rest:List Nat}
  (h:InvE P N L E fl p1 sl f0 G K c D vd (k::c') val vf os fs a w) (ho:L[k]? = some o) (hdyn:e7 o.op=true) (hnD:¬ D k) (hready:∀ j,jL .any L j k→D j)
  (next:∀ val' vf' os' fs' a' w',InvE P N L E fl p1 sl f0 G K c (fun i=>D i∨i=k) (vd++[k]) c' val' vf' os' fs' a' w'→wpOps P L.toArray (tW N G Q) rest a' w'):wpOps P L.toArray (tW N G Q) (k::rest) a w:=by
 have hdk:=dst_at hdst ho
 have hnod:=hc.nodup
 rw [h.split,List.nodup_append] at hnod
 have hk:k ∉ vd:=fun hm=>hnod.2.2 k hm k qP rfl
 have src:=srcE_next hc h.split ho h.virt
 have hkat:KAt (dV L o) vf a:=mF h.clos hnD hready h.act src
 have hkat':KAt (fI o.op) vf a:=fun t v ht=>hkat t v (List.mem_append_left _ ht)
 have distinct:∀ j oj,D j→L[j]? = some oj→∀ t,o.dst=some t→oj.dst≠some t:=by
  intro j oj hj hjo t ht hjt
  obtain ⟨pre,post,hp⟩:=List.append_of_mem (h.sub j hj)
  exact (hc.pair pre j (post++k::c') k oj o (by rw [h.split,hp]; simp) qP hjo ho).1 t hjt ht
 have hfk:inL fl k=false:=by
  cases e:inL fl k with
  | false=>rfl
  | true =>
   have:=(hc.self k o ((hc.all k).2 (List.getElem?_eq_some_iff.1 ho).1) ho).2.1 e
   rw [hdyn] at this; cases this
 have hvc:=h.vc
 rw [VCE_cons _ _ _ _ _ _ _ _ _ _ _ _ _ ho] at hvc
 simp only [hfk,selE] at hvc
 have early:∀ x,x∈vd→¬ D x→inL fl x=true→inL p1 k=true:=fun x hx hnx hfx=>by
  cases e:inL p1 k with
  | true=>rfl
  | false =>
   exfalso
   obtain ⟨pre,post,hp⟩:=List.append_of_mem hx
   have hxc:x<L.length:=(hc.all x).1 (by rw [h.split]; simp [hx])
   have:=(hc.pair pre x (post++k::c') k L[x] o (by rw [h.split,hp]; simp) qP (by simp [hxc]) ho).2 (.inr (.inr (.inr (.inl ⟨hdyn,hfx,e⟩))))
   exact hnx ((tP this).closed h.clos hready)
 have inv':∀ (u:Value) (os':List Own) (fs':List bD) (w':World),Holds G os' fs' w'→VCE P L E fl p1 sl c' (o4 vf o.dst u) os' fs' K→((∀ i o,i∈vd→L[i]? = some o→D i∨isPu o.op=true∨inL fl i=true)∨Below w.heap.size w w') →
   ((∃ x,x∈vd∧¬ D x∧inL fl x=true)→InO E os') →
   InvE P N L E fl p1 sl f0 G K c (fun i=>D i∨i=k) (vd++[k]) c' (nL val k u) (o4 vf o.dst u) os' fs' (a.put o.dst u) w':=by
  intro u os' fs' w' hst hv hpd hE
  have hset:nL val k u k=u:=by simp [nL]
  have old:∀ x,x∈vd++[k]→¬ (D x∨x=k)→x∈vd∧¬ D x:=fun x hx hnx=>by
   refine ⟨?_,fun hd=>hnx (.inl hd)⟩
   rcases List.mem_append.1 hx with hx | hx
   ·exact hx
   ·exact absurd (.inr (by simpa using hx)) hnx
  refine ⟨by rw [h.split]; simp,fun i hi=>?_,fun i hi j hj=>?_,?_,?_,?_,virtE_keep hk ho h.virt,fun x ox hx hnx hox hfx=>?_,fun x ox hx hnx hox hfx=>?_,fun x hx hnx hfx=>?_,hst,hv⟩
  ·rcases hi with hi | rfl
   ·simp [h.sub i hi]
   ·simp
  ·rcases hi with hi | rfl
   ·exact .inl (h.clos i hi j hj)
   ·exact .inl (hready j hj)
  ·cases hd:o.dst <;> simp [Act.put,h.defers]
  ·cases hd:o.dst <;> simp [Act.put,h.size]
  ·have:=act_put (val:=nL val k u) (f0:=f0) (D:=D) hdk h.size ho distinct (fun t v ht=>h.act t v (by
    rcases ht with ⟨j,oj,h1,h2,h3,h4⟩ | ht
    ·have:j≠k:=fun e=>hnD (e ▸ h1)
     exact .inl ⟨j,oj,h1,h2,h3,by simpa [nL,this] using h4⟩
    ·exact .inr ht))
   rw [hset] at this
   exact this
  ·obtain ⟨hxv,hnx'⟩:=old x hx hnx
   rcases hpd with hpd | hb
   ·rcases hpd x ox hxv hox with h1 | h1 | h1
    ·exact absurd h1 hnx'
    ·exact (h.pend x ox hxv hnx' hox hfx).keep hk hxv (.inl h1)
    ·rw [hfx] at h1; cases h1
   ·exact (h.pend x ox hxv hnx' hox hfx).keep hk hxv (.inr hb)
  ·obtain ⟨hxv,hnx'⟩:=old x hx hnx
   exact (h.pendE x ox hxv hnx' hox hfx).keep hk hxv
  ·obtain ⟨hxv,hnx'⟩:=old x hx hnx
   exact hE ⟨x,hxv,hnx',hfx⟩
 have still:(∃ x,x∈vd∧¬ D x∧inL fl x=true)→InO E os:=fun ⟨x,h1,h2,h3⟩=>h.ent x h1 h2 h3
 have ho':L.toArray[k]? = some o:=by simpa using ho
 simp only [wpOps,ho']
 cases hg:gd L vf o.guard with
 | none=>simp only [hg,orF] at hvc
 | some b =>
  rw [kZ hkat hg]
  cases b with
  | false =>
   simp only [hg,orF] at hvc
   simp only [Bool.false_eq_true,if_false]
   exact next _ _ _ _ _ _ (inv' undef os fs w h.st hvc (.inr (Below.refl _ _)) still)
  | true =>
   simp only [hg,orF] at hvc
   simp only [if_true]
   left
   unfold Oper.wp
   cases hv:detv vf o.op with
   | some v =>
    simp only [hv,orV] at hvc
    rw [mR P hkat' hv w]
    exact next _ _ _ _ _ _ (inv' v os fs w h.st hvc (.inr (Below.refl _ _)) still)
   | none =>
    simp only [hv,orV] at hvc
    have main:Comes1 P (fun v w'=>((∀ i o,i∈vd→L[i]? = some o→D i∨isPu o.op=true∨inL fl i=true)∨Below w.heap.size w w')∧∃ os' fs',andB (inL p1 k) (InO E os') (VCE P L E fl p1 sl c' (o4 vf o.dst v) os' fs' K)∧Holds G os' fs' w') ((execOp a.eval o).run P w):=by
     have stl:(isSt o.op||inL sl k)=true→∀ i oi,i∈vd→L[i]? = some oi→D i∨isPu oi.op=true∨inL fl i=true:=fun hst i oi hi hoi=>by
      cases hpu:isPu oi.op with
      | true=>exact .inr (.inl rfl)
      | false =>
      cases hfi:inL fl i with
      | true=>exact .inr (.inr rfl)
      | false =>
      left
      obtain ⟨pre,post,hp⟩:=List.append_of_mem hi
      exact (tP ((hc.pair pre i (post++k::c') k oi o (by rw [h.split,hp]; simp) qP hoi ho).2 (.inr (.inr (.inr (.inr ⟨hst,hpu,hfi⟩)))))).closed h.clos hready
     cases hsk:inL sl k with
     | true =>
      simp only [hsk,noB] at hvc
      obtain ⟨s,hs1,hs2⟩:=DoK.semD o ((hc.self k o ((hc.all k).2 (List.getElem?_eq_some_iff.1 ho).1) ho).2.2 hsk) hvc
      rw [hs1 a hkat']
      exact (hs2 G w h.st).mono fun v w' h2=>⟨.inl (stl (by rw [hsk,Bool.or_true])),h2⟩
     | false =>
     simp only [hsk,noB] at hvc
     obtain ⟨s,hs⟩:=DoK.sem o hvc
     rw [hs.same a hkat']
     cases hst:isSt o.op with
     | false=>exact (hs.grw hst G w h.st).mono fun v w' ⟨h1,h2⟩=>⟨.inr h1,h2⟩
     | true=>exact (hs.dyn G w h.st).mono fun v w' h2=>⟨.inl (stl (by rw [hst,Bool.true_or])),h2⟩
    have fin:∀ (v:Value) (w':World),(((∀ i o,i∈vd→L[i]? = some o→D i∨isPu o.op=true∨inL fl i=true)∨Below w.heap.size w w')∧∃ os' fs',andB (inL p1 k) (InO E os') (VCE P L E fl p1 sl c' (o4 vf o.dst v) os' fs' K)∧Holds G os' fs' w') →
      ∃ os' fs',InvE P N L E fl p1 sl f0 G K c (fun i=>D i∨i=k) (vd++[k]) c' (nL val k v) (o4 vf o.dst v) os' fs' (a.put o.dst v) w':=by
     rintro v w' ⟨h1,os',fs',h2,h3⟩
     cases hp1:inL p1 k with
     | true =>
      rw [hp1] at h2
      exact ⟨os',fs',inv' v os' fs' w' h3 h2.2 h1 fun _=>h2.1⟩
     | false =>
      rw [hp1] at h2
      refine ⟨os',fs',inv' v os' fs' w' h3 h2 h1 fun ⟨x,g1,g2,g3⟩=>?_⟩
      have:=early x g1 g2 g3
      rw [hp1] at this; cases this
    generalize (execOp a.eval o).run P w=res at main
    match res,main with
    | .ok (.value v) w',hm =>
     obtain ⟨os',fs',hi⟩:=fin v w' hm
     exact next _ _ _ _ _ _ hi
    | .ok .skip w',hm =>
     obtain ⟨os',fs',hi⟩:=fin undef w' hm
     exact next _ _ _ _ _ _ hi
    | .ok (.enter g args) w',hcall =>
     refine Calls.mono hcall ?_
     rintro e w'' ⟨v,rfl,hm⟩
     obtain ⟨os',fs',hi⟩:=fin v w'' hm
     exact next _ _ _ _ _ _ hi
theorem catchE_up (hc:m7 L (rG L []) fl p1 sl c):∀ (pre:List Nat) {D:Nat→Prop} {vd c':List Nat} {val:Nat→Value} {vf:Fr} {fs:List bD} {os:List Own} {a:Act} {w:World},
  InvE P N L E fl p1 sl f0 G K c D vd (pre++c') val vf os fs a w→(∀ x,x∈pre→inL p1 x=false∧∀ o,L[x]? = some o→e7 o.op=false) →
  ∃ val' vf' fs',InvE P N L E fl p1 sl f0 G K c D (vd++pre) c' val' vf' os fs' a w
 | [],D,vd,c',val,vf,fs,os,a,w,h,_=>⟨val,vf,fs,by simpa using h⟩
 | x::pre,D,vd,c',val,vf,fs,os,a,w,h,hd=>by
  have hx:x<L.length:=(hc.all x).1 (by rw [h.split]; simp)
  obtain ⟨val1,vf1,fs1,h1⟩:=virtE_step hc h (show L[x]? = some L[x] by simp [hx]) ((hd x qP).2 _ (by simp [hx])) (hd x qP).1
  obtain ⟨val2,vf2,fs2,h2⟩:=catchE_up hc pre (vd:=vd++[x]) h1 (fun y hy=>hd y (by simp [hy]))
  exact ⟨val2,vf2,fs2,by simpa using h2⟩
theorem simE (hc:m7 L (rG L []) fl p1 sl c) (hp:∀ x o,inL p1 x=true→L[x]? = some o→e7 o.op=true) (hdst:gN N L=true) {Q:pC} (hQ:Q .normal=K):∀ (l:List Nat) (D:Nat→Prop) {vd c':List Nat} {val:Nat→Value} {vf:Fr} {os:List Own} {fs:List bD} {a:Act} {w:World},
  InvE P N L E fl p1 sl f0 G K c D vd c' val vf os fs a w→(∀ i,i<L.length↔D i∨i∈l)→l.Nodup→(∀ i,i∈l→¬ D i) →
  (∀ pre i post,l=pre++i::post→∀ j,jL .any L j i→D j∨j∈pre)→wpOps P L.toArray (tW N G Q) l a w
 | [],D,vd,c',val,vf,os,fs,a,w,h,hall,_,_,_=>by
  have hc':c'=[]:=by
   cases c' with
   | nil=>rfl
   | cons x r =>
    exfalso
    have hx:x∈c:=by rw [h.split]; simp
    have:=h.sub x (((hall x).1 ((hc.all x).1 hx)).resolve_right qP)
    have hnod:=hc.nodup
    rw [h.split,List.nodup_append] at hnod
    exact hnod.2.2 x this x qP rfl
  subst hc'
  have hv:=h.vc
  refine ⟨vf,os,fs,⟨h.defers,h.size,fun t v ht=>h.act t v ?_⟩,h.st,by rw [hQ]; exact hv⟩
  have hD:∀ j,j∈vd→D j:=fun j hj=>((hall j).1 ((hc.all j).1 (by rw [h.split]; simp [hj]))).resolve_right qP
  rcases h.virt t v ht with ⟨j,o,h1,h2,h3,h4⟩ | ⟨h1,h2⟩
  ·exact .inl ⟨j,o,hD j h1,h2,h3,h4⟩
  ·exact .inr ⟨h1,fun j o hj=>h2 j o (h.sub j hj)⟩
 | i::rest,D,vd,c',val,vf,os,fs,a,w,h,hall,hnod,hdis,hbef=>by
  have hi:i<L.length:=(hall i).2 (.inr qP)
  have ho:L[i]? = some L[i]:=by simp [hi]
  have hnD:¬ D i:=hdis i qP
  have hready:∀ j,jL .any L j i→D j:=fun j hj=>(hbef [] i rest rfl j hj).resolve_right qP
  have nx:∀ {vd c':List Nat} {val:Nat→Value} {vf:Fr} {os:List Own} {fs:List bD} {a:Act} {w:World},
    InvE P N L E fl p1 sl f0 G K c (fun x=>D x∨x=i) vd c' val vf os fs a w→wpOps P L.toArray (tW N G Q) rest a w:=by
   intro vd c' val vf os fs a w h'
   refine simE hc hp hdst hQ rest (fun x=>D x∨x=i) h' (fun x=>?_) (List.nodup_cons.1 hnod).2 (fun x hx hx'=>?_) (fun pre x post hp j hj=>?_)
   ·rw [hall x,List.mem_cons]
    constructor
    ·rintro (h | h | h)
     ·exact .inl (.inl h)
     ·exact .inl (.inr h)
     ·exact .inr h
    ·rintro ((h | h) | h)
     ·exact .inl h
     ·exact .inr (.inl h)
     ·exact .inr (.inr h)
   ·rcases hx' with hx' | rfl
    ·exact hdis x (by simp [hx]) hx'
    ·exact (List.nodup_cons.1 hnod).1 hx
   ·rcases hbef (i::pre) x post (by rw [hp]; rfl) j hj with hj' | hj'
    ·exact .inl (.inl hj')
    ·rcases List.mem_cons.1 hj' with rfl | hj'
     ·exact .inl (.inr rfl)
     ·exact .inr hj'
  by_cases hiv:i∈vd
  ·exact doE_pend hc hdst h ho hiv hnD hready fun a' h'=>nx h'
  ·have hic:i∈c:=(hc.all i).2 hi
   rw [h.split] at hic
   obtain ⟨pre,post,hpp⟩:=List.append_of_mem ((List.mem_append.1 hic).resolve_left hiv)
   have hpre0:∀ x,x∈pre→∀ o,L[x]? = some o→e7 o.op=false:=by
    intro x hx o hox
    cases hd:e7 o.op with
    | false=>rfl
    | true =>
     exfalso
     obtain ⟨p1,p2,hp2⟩:=List.append_of_mem hx
     have:=(hc.pair (vd++p1) x (p2++i::post) i o L[i] (by rw [h.split,hpp,hp2]; simp) qP hox ho).2 (.inr (.inr (.inl hd)))
     have hDx:=(tP this).closed h.clos hready
     have hxv:=h.sub x hDx
     have hn:=hc.nodup
     rw [h.split,List.nodup_append] at hn
     exact hn.2.2 x hxv x (by rw [hpp]; simp [hx]) rfl
   have np:∀ x,x<L.length→(∀ o,L[x]? = some o→e7 o.op=false)→inL p1 x=false:=fun x hx hd=>by
    cases e:inL p1 x with
    | false=>rfl
    | true =>
     have h1:=hp x L[x] e (by simp [hx])
     rw [hd L[x] (by simp [hx])] at h1; cases h1
   have hpre:∀ x,x∈pre→inL p1 x=false∧∀ o,L[x]? = some o→e7 o.op=false:=fun x hx =>
    ⟨np x ((hc.all x).1 (by rw [h.split,hpp]; simp [hx])) (hpre0 x hx),hpre0 x hx⟩
   rw [hpp] at h
   obtain ⟨val1,vf1,fs1,h1⟩:=catchE_up hc pre h hpre
   cases hdyn:e7 L[i].op with
   | false =>
    obtain ⟨val2,vf2,fs2,h2⟩:=virtE_step hc h1 ho hdyn (np i hi fun o hox=>by rw [ho] at hox; obtain rfl:=Option.some.inj hox; exact hdyn)
    exact doE_pend hc hdst h2 ho qP hnD hready fun a' h'=>nx h'
   | true=>exact doE_dyn hc hdst h1 ho hdyn hnD hready fun _ _ _ _ _ _ h'=>nx h'
end
def p1OK (L:List Oper) (p1:List Nat):Bool :=
 p1.all fun x=>match vK L x with
  | some o=>e7 o.op
  | none=>true
theorem cC {P:Program} {N:Nat} {L:List Oper} {f:Fr} {os:List Own} {fs:List bD} {K:lJ} (E:List Own) (fl p1 sl c:List Nat) (hok:ordEOK L fl p1 sl c=true) (hp1:p1OK L p1=true) (hdst:gN N L=true)
  (k:VCE P L E fl p1 sl c f os fs K):OrdK P N L f os fs K:=by
 refine ⟨fun G Q hQ l hord a w hk hw=>?_⟩
 have hc:=ordEOK_sound hok
 have hp:∀ x o,inL p1 x=true→L[x]? = some o→e7 o.op=true:=fun x o h ho=>by
  obtain ⟨y,hy,hb⟩:=List.any_eq_true.1 h
  have:=Nat.eq_of_beq_eq_true hb
  subst this
  have h2:=List.all_eq_true.1 hp1 x hy
  rw [j7,ho] at h2
  exact h2
 refine simE (E:=E) (f0:=f) hc hp hdst hQ _ (fun _=>False) (vd:=[]) (c':=c) (val:=fun _=>undef) (vf:=f) (os:=os) (fs:=fs) ?_ (fun i=>by simpa using (hord.all i).symm) hord.nodup (fun _ _ h=>h) (fun pre i post hp j hj=>.inr (hord.before pre i post hp j hj))
 exact ⟨rfl,fun _ h=>h.elim,fun _ h=>h.elim,hk.defers,hk.size,fun t v ht=>hk.holds t v (by
  rcases ht with ⟨_,_,h,_⟩ | h
  ·exact h.elim
  ·exact h.1),fun t v ht=>.inr ⟨ht,fun j o hj=>by simp at hj⟩,fun k o hk=>by simp at hk,fun k o hk=>by simp at hk,fun k hk=>by simp at hk,hw,k⟩
theorem lookD {P:Program} {E:List Own} {f:Fr} {o:Oper} {os:List Own} {fs:List bD} {K:bZ} {v:Value} (hE:InO E os) (hd:e7 o.op=false)
  (hl:∀ (os:List Own) (fs:List bD),InO E os→DoK P true f o.type os fs (fun u _ _=>u=v) o.op) (k:K v os fs):DoE P E f o os fs K:=by
 refine ⟨v,fun a hk G os fs w hE hw=>?_,hE,k⟩
 obtain ⟨s,hs⟩:=DoK.sem o (hl os fs hE)
 obtain ⟨u,fs',h1,h2,_⟩:=hs.det hd G w hw
 subst h2
 rw [hs.same a hk]
 exact h1 w (Below.refl _ _)
theorem eGo {p q:Prop} (h:p) (k:q):p∧q:=⟨h,k⟩
theorem draw_sl {P:Program} {N id:Nat} {L:List Oper} {f:Fr} {os:List Own} {fs:List bD} {K:lJ} {v:Value} {size n:Nat} {el:Nat→Dat} (hm:(v,.sl size n el)∈fs)
  (k:(∃ a c,v=.slice a n c)→DrawK P N id L f os fs K):DrawK P N id L f os fs K:=by
 refine ⟨fun G Q hQ a w hk hw=>?_⟩
 obtain ⟨b,c,e,_⟩:=(hw.facts _ hm).sl
 exact (k ⟨b,c,e⟩).out G Q hQ a w hk hw
theorem qL {E:Own} {os:List Own} (h:E∈os):∃ pos,a8 os pos=some E:=by
 induction os with
 | nil=>cases h
 | cons x r ih =>
  rcases List.mem_cons.1 h with rfl | h
  ·exact ⟨0,rfl⟩
  ·obtain ⟨p,hp⟩:=ih h
   exact ⟨p+1,hp⟩
theorem lookE4 {P:Program} {t:TypeId} {r o:Nat} {a b c d:Value} [ht:mJ P t] (k:Nat) (ho:o=k) (hk:k<4) (os:List Own) (fs:List bD) (h:InO [jG (eD r 0) a b c d] os):kE P t (eD r o) os fs fun u _ _=>u=nth4 a b c d k:=by
 obtain ⟨pos,hp⟩:=qL h.1
 exact load4 pos k hp ho hk rfl
theorem cn0:cn 0=z0:=by simp [cn,bR,z0]
def rawJ (a:List Row):Jx:=fun i c=>(a.getD i []).getD c z0
def uniJ:Jx:=fun i c=>if c=i then cn 1 else z0
def ltb (m:Nat) (b:Mx) (i j:Nat):Mx:=fun a t=>if t<a∧(a<i∨t<j) then lm m b a t else 0
theorem len_eq {P:Program} {t e ty:TypeId} {size n c:Nat} {a:Option Addr} {v:Value} {os:List Own} {fs:List bD} {K:bZ} [ht:TSl P t e size]
  (h:v=.slice a n c) (k:K (.int .i64 n) os fs):LenK P [t] ty v os fs K:=by
 subst h
 exact len_val k
set_option maxHeartbeats 4000000 in
theorem lmade_meets (v:Value) (a:List Row) (k:Nat) (hf:Fits k a) (hr:right a) (hk:k≤1048576) (ln:a.length≤1024) (lc:(a.getD 0 []).length≤1048576) :
  Meets Tryz.prog 71 [v] [(v,W a)] (fun r os fs=>(¬ Ind (a.getD 0 []).length a.length (rvm a)∧r=.pointer none∧os=[]∧fs=[]) ∨
   (Ind (a.getD 0 []).length a.length (rvm a)∧∃ s:BS,s.ok a.length∧r=eD s.r 0∧os=bas s (a.getD 0 []).length a.length (rawJ a) uniJ (dm (a.getD 0 []).length (rvm a)) (ltb (a.getD 0 []).length (rvm a) a.length 0) []∧fs=[])):=by
 have hlen:∀ i,i<a.length→(a.getD i []).length=(a.getD 0 []).length:=fun i hi=>(hr.get hi).2
 have hrx:∀ i c,Lim (rawJ a i c).2∧(rawJ a i c).2.length≤k:=fun i c=>(hf.get i).get c
 have hn1:=hr.1
 have hgz:∀ i j,sz (gr (a.getD 0 []).length (rvm a) i j) (k+k+1):=gmx_sz hf lc
 have e0:∀ i j,ip (a.getD 0 []).length (fun c=>jv (rawJ a i c)) (fun c=>jv (rawJ a j c))=mi (gr (a.getD 0 []).length (rvm a)) 0 i j:=fun i j=>by rw [mi_none]; rfl
 have hsymm:=j8 (a.getD 0 []).length (rvm a)
 have hww:=wv_wv (a.getD 0 []).length (rvm a)
 have hnn:∀ t,0≤dm (a.getD 0 []).length (rvm a) t*dm (a.getD 0 []).length (rvm a) (t+1):=fun t=>by
  have:=hww t
  unfold dm
  rw [← this]
  exact ip_nn _ _
 have hlm:∀ t i,lm (a.getD 0 []).length (rvm a) i t=mi (gr (a.getD 0 []).length (rvm a)) t i t:=fun _ _=>rfl
 have hdm:∀ t,dm (a.getD 0 []).length (rvm a) t=dG (gr (a.getD 0 []).length (rvm a)) t:=fun _=>rfl
 generalize hC:(a.getD 0 []).length=C at *
 generalize hG:gr C (rvm a)=G at *
 have hmz:∀ t i j,t≤a.length→sz (mi G t i j) 2252349569:=fun t i j ht=>by
  refine (det_sz (t+1) qN (k:=k+k+1) (fun x y _ _=>hgz _ _)).mono ?_
  have:(k+k+1+1)*(t+1)≤2097154*1025:=Nat.mul_le_mul qN qN
  omega
 have hdz:∀ t,t≤a.length→sz (dG G t) 2252349569:=fun t ht=>by
  cases t with
  | zero=>exact (sz_num 1 qE).mono qE
  | succ t=>rw [eW]; exact hmz t t t qN
 have hstep:∀ t i j,dG G t≠0→(dG G (t+1)*mi G t i j - mi G t i t*mi G t j t)/dG G t=mi G (t+1) i j:=fun t i j h=>by
  rw [kU hsymm t j t,← iY h,Int.mul_ediv_cancel_left _ h]
 refine mV Tryz.func71 ?_
 refine cG (dN 1 qE qE) fun one=>?_
 refine fL (size:=2) (n:=1) [one] [zd 1] rfl rfl qE qE ⟨aC qM,rfl,trivial⟩ fun vd hvd=>?_
 refine build_bas hvd.one ?_
 refine bA (Reads.bag hvd.one) fun p hp=>?_
 obtain ⟨r0,rfl⟩:=hp
 refine aT qM fun _=>?_
 refine aO (X:=Nat×BS) (fun x=>([(0,v),(3,eD x.2.r 0),(15,.int .i64 (a.length:Nat)),(16,.int .i64 (x.1:Nat))],bak x.2 C a.length x.1 (x.1+1) (rawJ a) uniJ (dG G) (ltb C (rvm a) x.1 0) [],[(v,W a)]))
  (fun x=>x.1≤a.length∧x.2.ok x.1∧∀ t,t≤x.1→0<dG G t) (fun x=>a.length - x.1) rfl ?_ ?_
 ·refine aU (0,⟨r0,.slice none 0 0,.slice none 0 0,vd,.slice none 0 0,fun _=>undef,fun _=>undef,fun _=>undef⟩) ⟨Nat.zero_le _,⟨fZ,fZ,hvd,fZ,fun i hi=>absurd hi (Nat.not_lt_zero _),fun i hi=>absurd hi (Nat.not_lt_zero _),fun i hi=>absurd hi (Nat.not_lt_zero _)⟩,fun t ht=>?_⟩ trivial qF ?_
  ·have:t=0:=by simp only at ht; omega
   subst this
   rw [sF]; decide
  ·refine aA (cB _ _ 1 (fun i=>.one undef)) (aA (Seals.none (famZ (fun _=>undef) 0 a.length (ltb C (rvm a) 0 0)) rfl) (aA (cB _ _ 1 (fun i=>.one undef)) (aA (Seals.none (wI (fun _=>undef) 0 a.length uniJ) rfl) (aA (cB _ _ 1 (fun i=>.one undef)) (aA (Seals.none (wI (fun _=>undef) 0 C (rawJ a)) rfl)
    (aA (Seals.own_cong (os:=[_,_,_,_,_,_,_,bE vd 2 1 _]) 7 (fun i=>zd (dG G i)) rfl rfl (fun y hy=>?_)) (aA (Seals.pick [6,0,1,2,3,7,4,5] 8 rfl qE) (aB qS))))))))
   have:y=0:=by omega
   subst this
   rw [sF]; rfl
 ·rintro ⟨i,s⟩ ⟨hi,hs,hpos⟩
  simp only at hi hs hpos ⊢
  refine aD _ rfl (fun hc=>?_) (fun hc=>?_)
  ·have hin:i<a.length:=by omega
   have hfl:(a.getD i []).length=C:=hlen i hin
   refine aQ (v:=v) qM i rfl hin fun a1=>?_
   refine aX (d:=V (a.getD i [])) qM (iZ _) fun x1=>?_
   refine aT qM fun _=>?_
   refine eF (t:=22) (d:=I false []) C (by rw [hfl]) (by rw [hfl]) qN qN fun row hrow=>?_
   refine aQ (v:=v) qM i rfl hin fun a2=>?_
   refine aX (d:=V (a.getD i [])) qM (iZ _) fun x2=>?_
   refine copy_rule (size:=2) (n:=C) (m:=C) (el':=fun c=>J ((a.getD i []).getD c z0)) 0 rfl hrow (Knw.cast (bC (d:=V (a.getD i [])) qM) (by unfold V LD; rw [hfl])) (Nat.le_refl _) ?_
   refine aT (v:=v) (n:=a.length) qM fun _=>?_
   refine eF (t:=22) (d:=I false []) a.length rfl rfl qN qN fun on hone=>?_
   refine cG (dN 1 qE qE) fun o1=>?_
   refine aE 0 rfl hone i rfl hin ?_
   refine bL (d:=zd 1) 0 rfl i hin rfl qK (aC qM) ?_
   obtain ⟨sb',e1,e2⟩:∃ f:Nat→Value,f i=row∧∀ y,y<i→f y=s.sb y:=⟨fun y=>if y=i then row else s.sb y,if_pos rfl,fun y hy=>if_neg qN⟩
   obtain ⟨su',e3,e4⟩:∃ f:Nat→Value,f i=on∧∀ y,y<i→f y=s.su y:=⟨fun y=>if y=i then on else s.su y,if_pos rfl,fun y hy=>if_neg qN⟩
   subst e1 e3
   have eb:∀ y,y<i+1→Dat.one (sb' y)=if y<i then Dat.one (s.sb y) else [Dat.one (sb' i)].getD 0 (.one undef):=fun y hy=>by
    by_cases e:y<i
    ·rw [if_pos e,e2 y e]
    ·rw [if_neg e,show y=i by omega]; rfl
   have eu:∀ y,y<i+1→Dat.one (su' y)=if y<i then Dat.one (s.su y) else [Dat.one (su' i)].getD 0 (.one undef):=fun y hy=>by
    by_cases e:y<i
    ·rw [if_pos e,e4 y e]
    ·rw [if_neg e,show y=i by omega]; rfl
   refine draw_sl (v:=v) (n:=a.length) qM fun hsv=>?_
   obtain ⟨sv1,sv2,hsv⟩:=hsv
   refine k7 (X:=Value×Value×Value×Value) (fun z=>([(0,v),(3,eD s.r 0),(4,.int .i64 (i:Nat)),(5,sb' i),(6,su' i),(15,.int .i64 (a.length:Nat)),(16,.int .i64 (i:Nat))],
     bE z.1 2 a.length (fun _=>I false [])::bE (su' i) 2 a.length (upd (fun _=>I false []) i (zd 1))::bE (sb' i) 2 C (fun c=>if c<C then J ((a.getD i []).getD c z0) else I false []) ::
     jG (eD s.r 0) z.2.1 z.2.2.1 s.vd z.2.2.2::wI s.sb i C (rawJ a)::bE z.2.1 1 (i+1) (fun y=>.one (sb' y))::wI s.su i a.length uniJ::bE z.2.2.1 1 (i+1) (fun y=>.one (su' y)) ::
     bE s.vd 2 (i+1) (fun i=>zd (dG G i))::famZ s.sl i a.length (ltb C (rvm a) i 0)::bE z.2.2.2 1 (i+1) (fun y=>.one (if y<i then s.sl y else z.1))::[],[(v,W a)])) (fun z=>isSl z.1∧isSl z.2.1∧isSl z.2.2.1∧isSl z.2.2.2) ?_ ?_
   ·
    refine gO [0,3,4,5,6,7,8,9,10,11,12,13,14,15,16,17,18,19,20,21,22,23,24,25,26,27,28,29,30,31,1,32,33,34,35,2,36,37,38] qK ?_
    refine a9 9 17 qK qK qK (a9 9 25 qK qK qK (a9 10 17 qK qK qK (a9 10 25 qK qK qK (a9 17 25 qK qK qK (a9 18 25 qK qK qK (cC [jG (eD s.r 0) s.vb s.vu s.vd s.vl] [7,15,22,24] [9,10,17,18,25,26,27] [] [0,1,2,3,4,5,6,7,8,11,12,13,14,15,16,19,20,21,22,23,24,9,10,17,18,25,26,27,28,29,30,31,32,33,34,35,36,37,38] qK qK qK ?_) (a9 18 26 qK qK qK (cC [jG (eD s.r 0) s.vb s.vu s.vd s.vl] [7,15,22,24] [9,10,17,18,25,26,27] [] [0,1,2,3,4,5,6,7,8,11,12,13,14,15,16,19,20,21,22,23,24,9,10,17,25,18,26,27,28,29,30,31,32,33,34,35,36,37,38] qK qK qK ?_) (cC [jG (eD s.r 0) s.vb s.vu s.vd s.vl] [7,15,22,24] [9,10,17,18,25,26,27] [] [0,1,2,3,4,5,6,7,8,11,12,13,14,15,16,19,20,21,22,23,24,9,10,17,25,26,18,27,28,29,30,31,32,33,34,35,36,37,38] qK qK qK ?_))) (a9 17 26 qK qK qK (a9 18 26 qK qK qK (cC [jG (eD s.r 0) s.vb s.vu s.vd s.vl] [7,15,22,24] [9,10,17,18,25,26,27] [] [0,1,2,3,4,5,6,7,8,11,12,13,14,15,16,19,20,21,22,23,24,9,10,25,17,18,26,27,28,29,30,31,32,33,34,35,36,37,38] qK qK qK ?_) (cC [jG (eD s.r 0) s.vb s.vu s.vd s.vl] [7,15,22,24] [9,10,17,18,25,26,27] [] [0,1,2,3,4,5,6,7,8,11,12,13,14,15,16,19,20,21,22,23,24,9,10,25,17,26,18,27,28,29,30,31,32,33,34,35,36,37,38] qK qK qK ?_)) (cC [jG (eD s.r 0) s.vb s.vu s.vd s.vl] [7,15,22,24] [9,10,17,18,25,26,27] [] [0,1,2,3,4,5,6,7,8,11,12,13,14,15,16,19,20,21,22,23,24,9,10,25,26,17,18,27,28,29,30,31,32,33,34,35,36,37,38] qK qK qK ?_))) (a9 10 26 qK qK qK (a9 17 26 qK qK qK (a9 18 26 qK qK qK (cC [jG (eD s.r 0) s.vb s.vu s.vd s.vl] [7,15,22,24] [9,10,17,18,25,26,27] [] [0,1,2,3,4,5,6,7,8,11,12,13,14,15,16,19,20,21,22,23,24,9,25,10,17,18,26,27,28,29,30,31,32,33,34,35,36,37,38] qK qK qK ?_) (cC [jG (eD s.r 0) s.vb s.vu s.vd s.vl] [7,15,22,24] [9,10,17,18,25,26,27] [] [0,1,2,3,4,5,6,7,8,11,12,13,14,15,16,19,20,21,22,23,24,9,25,10,17,26,18,27,28,29,30,31,32,33,34,35,36,37,38] qK qK qK ?_)) (cC [jG (eD s.r 0) s.vb s.vu s.vd s.vl] [7,15,22,24] [9,10,17,18,25,26,27] [] [0,1,2,3,4,5,6,7,8,11,12,13,14,15,16,19,20,21,22,23,24,9,25,10,26,17,18,27,28,29,30,31,32,33,34,35,36,37,38] qK qK qK ?_)) (cC [jG (eD s.r 0) s.vb s.vu s.vd s.vl] [7,15,22,24] [9,10,17,18,25,26,27] [] [0,1,2,3,4,5,6,7,8,11,12,13,14,15,16,19,20,21,22,23,24,9,25,26,10,17,18,27,28,29,30,31,32,33,34,35,36,37,38] qK qK qK ?_))) (a9 10 25 qK qK qK (a9 18 25 qK qK qK (cC [jG (eD s.r 0) s.vb s.vu s.vd s.vl] [7,15,22,24] [9,10,17,18,25,26,27] [] [0,1,2,3,4,5,6,7,8,11,12,13,14,15,16,19,20,21,22,23,24,9,17,10,18,25,26,27,28,29,30,31,32,33,34,35,36,37,38] qK qK qK ?_) (a9 18 26 qK qK qK (cC [jG (eD s.r 0) s.vb s.vu s.vd s.vl] [7,15,22,24] [9,10,17,18,25,26,27] [] [0,1,2,3,4,5,6,7,8,11,12,13,14,15,16,19,20,21,22,23,24,9,17,10,25,18,26,27,28,29,30,31,32,33,34,35,36,37,38] qK qK qK ?_) (cC [jG (eD s.r 0) s.vb s.vu s.vd s.vl] [7,15,22,24] [9,10,17,18,25,26,27] [] [0,1,2,3,4,5,6,7,8,11,12,13,14,15,16,19,20,21,22,23,24,9,17,10,25,26,18,27,28,29,30,31,32,33,34,35,36,37,38] qK qK qK ?_))) (a9 10 26 qK qK qK (a9 17 25 qK qK qK (a9 18 26 qK qK qK (cC [jG (eD s.r 0) s.vb s.vu s.vd s.vl] [7,15,22,24] [9,10,17,18,25,26,27] [] [0,1,2,3,4,5,6,7,8,11,12,13,14,15,16,19,20,21,22,23,24,9,17,25,10,18,26,27,28,29,30,31,32,33,34,35,36,37,38] qK qK qK ?_) (cC [jG (eD s.r 0) s.vb s.vu s.vd s.vl] [7,15,22,24] [9,10,17,18,25,26,27] [] [0,1,2,3,4,5,6,7,8,11,12,13,14,15,16,19,20,21,22,23,24,9,17,25,10,26,18,27,28,29,30,31,32,33,34,35,36,37,38] qK qK qK ?_)) (a9 18 26 qK qK qK (cC [jG (eD s.r 0) s.vb s.vu s.vd s.vl] [7,15,22,24] [9,10,17,18,25,26,27] [] [0,1,2,3,4,5,6,7,8,11,12,13,14,15,16,19,20,21,22,23,24,9,25,17,10,18,26,27,28,29,30,31,32,33,34,35,36,37,38] qK qK qK ?_) (cC [jG (eD s.r 0) s.vb s.vu s.vd s.vl] [7,15,22,24] [9,10,17,18,25,26,27] [] [0,1,2,3,4,5,6,7,8,11,12,13,14,15,16,19,20,21,22,23,24,9,25,17,10,26,18,27,28,29,30,31,32,33,34,35,36,37,38] qK qK qK ?_))) (a9 17 25 qK qK qK (cC [jG (eD s.r 0) s.vb s.vu s.vd s.vl] [7,15,22,24] [9,10,17,18,25,26,27] [] [0,1,2,3,4,5,6,7,8,11,12,13,14,15,16,19,20,21,22,23,24,9,17,25,26,10,18,27,28,29,30,31,32,33,34,35,36,37,38] qK qK qK ?_) (a9 17 26 qK qK qK (cC [jG (eD s.r 0) s.vb s.vu s.vd s.vl] [7,15,22,24] [9,10,17,18,25,26,27] [] [0,1,2,3,4,5,6,7,8,11,12,13,14,15,16,19,20,21,22,23,24,9,25,17,26,10,18,27,28,29,30,31,32,33,34,35,36,37,38] qK qK qK ?_) (cC [jG (eD s.r 0) s.vb s.vu s.vd s.vl] [7,15,22,24] [9,10,17,18,25,26,27] [] [0,1,2,3,4,5,6,7,8,11,12,13,14,15,16,19,20,21,22,23,24,9,25,26,17,10,18,27,28,29,30,31,32,33,34,35,36,37,38] qK qK qK ?_)))))) (a9 9 26 qK qK qK (a9 10 17 qK qK qK (a9 10 26 qK qK qK (a9 17 26 qK qK qK (a9 18 26 qK qK qK (cC [jG (eD s.r 0) s.vb s.vu s.vd s.vl] [7,15,22,24] [9,10,17,18,25,26,27] [] [0,1,2,3,4,5,6,7,8,11,12,13,14,15,16,19,20,21,22,23,24,25,9,10,17,18,26,27,28,29,30,31,32,33,34,35,36,37,38] qK qK qK ?_) (cC [jG (eD s.r 0) s.vb s.vu s.vd s.vl] [7,15,22,24] [9,10,17,18,25,26,27] [] [0,1,2,3,4,5,6,7,8,11,12,13,14,15,16,19,20,21,22,23,24,25,9,10,17,26,18,27,28,29,30,31,32,33,34,35,36,37,38] qK qK qK ?_)) (cC [jG (eD s.r 0) s.vb s.vu s.vd s.vl] [7,15,22,24] [9,10,17,18,25,26,27] [] [0,1,2,3,4,5,6,7,8,11,12,13,14,15,16,19,20,21,22,23,24,25,9,10,26,17,18,27,28,29,30,31,32,33,34,35,36,37,38] qK qK qK ?_)) (cC [jG (eD s.r 0) s.vb s.vu s.vd s.vl] [7,15,22,24] [9,10,17,18,25,26,27] [] [0,1,2,3,4,5,6,7,8,11,12,13,14,15,16,19,20,21,22,23,24,25,9,26,10,17,18,27,28,29,30,31,32,33,34,35,36,37,38] qK qK qK ?_)) (a9 10 26 qK qK qK (a9 18 26 qK qK qK (cC [jG (eD s.r 0) s.vb s.vu s.vd s.vl] [7,15,22,24] [9,10,17,18,25,26,27] [] [0,1,2,3,4,5,6,7,8,11,12,13,14,15,16,19,20,21,22,23,24,25,9,17,10,18,26,27,28,29,30,31,32,33,34,35,36,37,38] qK qK qK ?_) (cC [jG (eD s.r 0) s.vb s.vu s.vd s.vl] [7,15,22,24] [9,10,17,18,25,26,27] [] [0,1,2,3,4,5,6,7,8,11,12,13,14,15,16,19,20,21,22,23,24,25,9,17,10,26,18,27,28,29,30,31,32,33,34,35,36,37,38] qK qK qK ?_)) (a9 17 26 qK qK qK (cC [jG (eD s.r 0) s.vb s.vu s.vd s.vl] [7,15,22,24] [9,10,17,18,25,26,27] [] [0,1,2,3,4,5,6,7,8,11,12,13,14,15,16,19,20,21,22,23,24,25,9,17,26,10,18,27,28,29,30,31,32,33,34,35,36,37,38] qK qK qK ?_) (cC [jG (eD s.r 0) s.vb s.vu s.vd s.vl] [7,15,22,24] [9,10,17,18,25,26,27] [] [0,1,2,3,4,5,6,7,8,11,12,13,14,15,16,19,20,21,22,23,24,25,9,26,17,10,18,27,28,29,30,31,32,33,34,35,36,37,38] qK qK qK ?_)))) (a9 10 17 qK qK qK (cC [jG (eD s.r 0) s.vb s.vu s.vd s.vl] [7,15,22,24] [9,10,17,18,25,26,27] [] [0,1,2,3,4,5,6,7,8,11,12,13,14,15,16,19,20,21,22,23,24,25,26,9,10,17,18,27,28,29,30,31,32,33,34,35,36,37,38] qK qK qK ?_) (cC [jG (eD s.r 0) s.vb s.vu s.vd s.vl] [7,15,22,24] [9,10,17,18,25,26,27] [] [0,1,2,3,4,5,6,7,8,11,12,13,14,15,16,19,20,21,22,23,24,25,26,9,17,10,18,27,28,29,30,31,32,33,34,35,36,37,38] qK qK qK ?_)))) (a9 9 25 qK qK qK (a9 10 25 qK qK qK (a9 18 25 qK qK qK (cC [jG (eD s.r 0) s.vb s.vu s.vd s.vl] [7,15,22,24] [9,10,17,18,25,26,27] [] [0,1,2,3,4,5,6,7,8,11,12,13,14,15,16,19,20,21,22,23,24,17,9,10,18,25,26,27,28,29,30,31,32,33,34,35,36,37,38] qK qK qK ?_) (a9 18 26 qK qK qK (cC [jG (eD s.r 0) s.vb s.vu s.vd s.vl] [7,15,22,24] [9,10,17,18,25,26,27] [] [0,1,2,3,4,5,6,7,8,11,12,13,14,15,16,19,20,21,22,23,24,17,9,10,25,18,26,27,28,29,30,31,32,33,34,35,36,37,38] qK qK qK ?_) (cC [jG (eD s.r 0) s.vb s.vu s.vd s.vl] [7,15,22,24] [9,10,17,18,25,26,27] [] [0,1,2,3,4,5,6,7,8,11,12,13,14,15,16,19,20,21,22,23,24,17,9,10,25,26,18,27,28,29,30,31,32,33,34,35,36,37,38] qK qK qK ?_))) (a9 10 26 qK qK qK (a9 18 26 qK qK qK (cC [jG (eD s.r 0) s.vb s.vu s.vd s.vl] [7,15,22,24] [9,10,17,18,25,26,27] [] [0,1,2,3,4,5,6,7,8,11,12,13,14,15,16,19,20,21,22,23,24,17,9,25,10,18,26,27,28,29,30,31,32,33,34,35,36,37,38] qK qK qK ?_) (cC [jG (eD s.r 0) s.vb s.vu s.vd s.vl] [7,15,22,24] [9,10,17,18,25,26,27] [] [0,1,2,3,4,5,6,7,8,11,12,13,14,15,16,19,20,21,22,23,24,17,9,25,10,26,18,27,28,29,30,31,32,33,34,35,36,37,38] qK qK qK ?_)) (cC [jG (eD s.r 0) s.vb s.vu s.vd s.vl] [7,15,22,24] [9,10,17,18,25,26,27] [] [0,1,2,3,4,5,6,7,8,11,12,13,14,15,16,19,20,21,22,23,24,17,9,25,26,10,18,27,28,29,30,31,32,33,34,35,36,37,38] qK qK qK ?_))) (a9 9 26 qK qK qK (a9 10 26 qK qK qK (a9 17 25 qK qK qK (a9 18 26 qK qK qK (cC [jG (eD s.r 0) s.vb s.vu s.vd s.vl] [7,15,22,24] [9,10,17,18,25,26,27] [] [0,1,2,3,4,5,6,7,8,11,12,13,14,15,16,19,20,21,22,23,24,17,25,9,10,18,26,27,28,29,30,31,32,33,34,35,36,37,38] qK qK qK ?_) (cC [jG (eD s.r 0) s.vb s.vu s.vd s.vl] [7,15,22,24] [9,10,17,18,25,26,27] [] [0,1,2,3,4,5,6,7,8,11,12,13,14,15,16,19,20,21,22,23,24,17,25,9,10,26,18,27,28,29,30,31,32,33,34,35,36,37,38] qK qK qK ?_)) (a9 18 26 qK qK qK (cC [jG (eD s.r 0) s.vb s.vu s.vd s.vl] [7,15,22,24] [9,10,17,18,25,26,27] [] [0,1,2,3,4,5,6,7,8,11,12,13,14,15,16,19,20,21,22,23,24,25,17,9,10,18,26,27,28,29,30,31,32,33,34,35,36,37,38] qK qK qK ?_) (cC [jG (eD s.r 0) s.vb s.vu s.vd s.vl] [7,15,22,24] [9,10,17,18,25,26,27] [] [0,1,2,3,4,5,6,7,8,11,12,13,14,15,16,19,20,21,22,23,24,25,17,9,10,26,18,27,28,29,30,31,32,33,34,35,36,37,38] qK qK qK ?_))) (a9 17 25 qK qK qK (cC [jG (eD s.r 0) s.vb s.vu s.vd s.vl] [7,15,22,24] [9,10,17,18,25,26,27] [] [0,1,2,3,4,5,6,7,8,11,12,13,14,15,16,19,20,21,22,23,24,17,25,9,26,10,18,27,28,29,30,31,32,33,34,35,36,37,38] qK qK qK ?_) (cC [jG (eD s.r 0) s.vb s.vu s.vd s.vl] [7,15,22,24] [9,10,17,18,25,26,27] [] [0,1,2,3,4,5,6,7,8,11,12,13,14,15,16,19,20,21,22,23,24,25,17,9,26,10,18,27,28,29,30,31,32,33,34,35,36,37,38] qK qK qK ?_))) (a9 17 25 qK qK qK (cC [jG (eD s.r 0) s.vb s.vu s.vd s.vl] [7,15,22,24] [9,10,17,18,25,26,27] [] [0,1,2,3,4,5,6,7,8,11,12,13,14,15,16,19,20,21,22,23,24,17,25,26,9,10,18,27,28,29,30,31,32,33,34,35,36,37,38] qK qK qK ?_) (a9 17 26 qK qK qK (cC [jG (eD s.r 0) s.vb s.vu s.vd s.vl] [7,15,22,24] [9,10,17,18,25,26,27] [] [0,1,2,3,4,5,6,7,8,11,12,13,14,15,16,19,20,21,22,23,24,25,17,26,9,10,18,27,28,29,30,31,32,33,34,35,36,37,38] qK qK qK ?_) (cC [jG (eD s.r 0) s.vb s.vu s.vd s.vl] [7,15,22,24] [9,10,17,18,25,26,27] [] [0,1,2,3,4,5,6,7,8,11,12,13,14,15,16,19,20,21,22,23,24,25,26,17,9,10,18,27,28,29,30,31,32,33,34,35,36,37,38] qK qK qK ?_)))))
    all_goals
     refine aV ?_
     refine aV ?_
     refine lookD (v:=s.vb) ⟨qM,trivial⟩ rfl (lookE4 0 rfl qE) ?_
     refine aV ?_
     refine aV ?_
     refine lookD (v:=s.vu) ⟨qM,trivial⟩ rfl (lookE4 1 rfl qE) ?_
     refine aV ?_
     refine lookD (v:=s.vl) ⟨qM,trivial⟩ rfl (lookE4 3 rfl qE) ?_
     refine lookD (v:=.int .i64 a.length) ⟨qM,trivial⟩ rfl (fun _ _ _=>len_eq hsv rfl) ?_
     iterate 6
      first
       |
        refine cZ (size:=1) (n:=1) [sb' i] [.one (sb' i)] rfl rfl qE qE ⟨bW hrow.one,rfl,trivial⟩ fun q1=>?_
        refine eGo ⟨qM,trivial⟩ ?_
       |
        first | refine iO (size:=1) (n:=i) (el':=fun y=>[Dat.one (sb' i)].getD y (.one undef)) (e':=fun y=>.one (sb' y)) 4 rfl hs.vb (bC qM) eb qN qN fun vb' hvb'=>?_ | refine iO (size:=1) (n:=i) (el':=fun y=>[Dat.one (sb' i)].getD y (.one undef)) (e':=fun y=>.one (sb' y)) 5 rfl hs.vb (bC qM) eb qN qN fun vb' hvb'=>?_
        refine eGo ⟨qM,trivial⟩ ?_
       |
        refine cZ (size:=1) (n:=1) [su' i] [.one (su' i)] rfl rfl qE qE ⟨bW hone.one,rfl,trivial⟩ fun q2=>?_
        refine eGo ⟨qM,trivial⟩ ?_
       |
        first | refine iO (size:=1) (n:=i) (el':=fun y=>[Dat.one (su' i)].getD y (.one undef)) (e':=fun y=>.one (su' y)) 6 rfl hs.vu (bC qM) eu qN qN fun vu' hvu'=>?_ | refine iO (size:=1) (n:=i) (el':=fun y=>[Dat.one (su' i)].getD y (.one undef)) (e':=fun y=>.one (su' y)) 7 rfl hs.vu (bC qM) eu qN qN fun vu' hvu'=>?_
        refine eGo ⟨qM,trivial⟩ ?_
       |
        refine eF (t:=22) (d:=I false []) a.length rfl rfl qN qN fun lr hlr=>?_
        refine eGo ⟨qM,trivial⟩ ?_
       |
        refine cZ (size:=1) (n:=1) [lr] [.one lr] rfl rfl qE qE ⟨bW hlr.one,rfl,trivial⟩ fun q3=>?_
        refine eGo ⟨qM,trivial⟩ ?_
     refine iO (size:=1) (n:=i) (el':=fun y=>[Dat.one lr].getD y (.one undef)) (e':=fun y=>.one (if y<i then s.sl y else lr)) 10 rfl hs.vl (bC qM) (fun y _=>by by_cases e:y<i <;> simp [e]) qN qN fun vl' hvl'=>?_
     refine eGo ⟨qM,trivial⟩ ?_
     refine aV ?_
     refine aV ?_
     refine store4 3 0 rfl rfl qE hvb'.one qK ?_
     refine aV ?_
     refine aV ?_
     refine store4 3 1 rfl rfl qE hvu'.one qK ?_
     refine aV ?_
     refine store4 3 3 rfl rfl qE hvl'.one qK ?_
     exact aU (lr,vb',vu',vl') ⟨hlr,hvb',hvu',hvl'⟩ trivial qF (aB qD)
   rintro ⟨lr,vb',vu',vl'⟩ ⟨hlr,hvb',hvu',hvl'⟩
   simp only at hlr hvb' hvu' hvl' ⊢
   obtain ⟨sl',e5,e6⟩:∃ f:Nat→Value,f i=lr∧∀ y,y<i→f y=s.sl y:=⟨fun y=>if y=i then lr else s.sl y,if_pos rfl,fun y hy=>if_neg qN⟩
   subst e5
   have hsn:BS.ok ⟨s.r,vb',vu',s.vd,vl',sb',su',sl'⟩ (i+1):=⟨hvb',hvu',hs.vd,hvl',fun y hy=>by
     by_cases e:y<i
     ·show isSl (sb' y); rw [e2 y e]; exact hs.sb y e
     ·show isSl (sb' y); rw [show y=i by omega]; exact hrow,fun y hy=>by
     by_cases e:y<i
     ·show isSl (su' y); rw [e4 y e]; exact hs.su y e
     ·show isSl (su' y); rw [show y=i by omega]; exact hone,fun y hy=>by
     by_cases e:y<i
     ·show isSl (sl' y); rw [e6 y e]; exact hs.sl y e
     ·show isSl (sl' y); rw [show y=i by omega]; exact hlr⟩
   refine ar rfl qI ?_
   refine aO (X:=Nat×Nat×BS) (fun x=>([(0,v),(3,eD x.2.2.r 0),(4,.int .i64 (i:Nat)),(5,x.2.2.sb i),(15,.int .i64 (a.length:Nat)),(16,.int .i64 (i:Nat)),(75,.int .i64 ((i+1:Nat):Nat)),(76,.int .i64 (x.1:Nat))],
     bak x.2.2 C a.length (i+1) x.2.1 (rawJ a) uniJ (dG G) (ltb C (rvm a) i x.1) [],[(v,W a)]))
    (fun x=>x.1≤i+1∧x.2.1=i+1+(x.1 - i)∧x.2.2.ok (i+1)∧∀ t,t<x.2.1→0<dG G t) (fun x=>i+1 - x.1) rfl ?_ ?_
   ·refine aU (0,i+1,⟨s.r,vb',vu',s.vd,vl',sb',su',sl'⟩) ⟨Nat.zero_le _,by simp only; omega,hsn,fun t ht=>hpos t (by simp only at ht; omega)⟩ trivial qF ?_
    refine aA (Seals.own_cong (os:=[_,_,_,_,_,_,_,_,_,_,_]) 10 (fun y=>.one (sl' y)) rfl rfl (fun y hy=>?_)) (aA (Seals.pick [2,4,0,1,3,5,6,7,8,9,10] 11 rfl qE)
     (aA (Seals.join (F':=wI sb' (i+1) C (rawJ a)) rfl rfl rfl (fun y hy=>⟨e2 y hy,rfl,fun _ _=>rfl⟩) ⟨rfl,rfl,fun c hc=>?_⟩) (aA (Seals.pick [2,5,0,1,3,4,6,7,8,9] 10 rfl qE)
     (aA (Seals.join (F':=wI su' (i+1) a.length uniJ) rfl rfl rfl (fun y hy=>⟨e4 y hy,rfl,fun _ _=>rfl⟩) ⟨rfl,rfl,fun c hc=>?_⟩) (aA (Seals.pick [2,7,0,1,3,4,5,6,8] 9 rfl qE)
     (aA (Seals.join (F':=famZ sl' (i+1) a.length (ltb C (rvm a) i 0)) rfl rfl rfl (fun y hy=>⟨e6 y hy,rfl,fun _ _=>rfl⟩) ⟨rfl,rfl,fun c hc=>?_⟩) (aA (Seals.pick [3,2,4,1,5,6,0,7] 8 rfl qE) (aB qS))))))))
    ·by_cases e:y<i
     ·rw [if_pos e,e6 y e]
     ·rw [if_neg e,show y=i by omega]
    ·show J (rawJ a i c)=if c<C then _ else _
     rw [if_pos hc]; rfl
    ·show J (uniJ i c)=upd (fun _=>I false []) i (zd 1) c
     unfold uniJ upd
     split <;> rfl
    ·show J (cn (ltb C (rvm a) i 0 i c))=I false []
     unfold ltb
     rw [if_neg qN,cn0]; rfl
   ·rintro ⟨j,dn,s⟩ ⟨hj,hdn,hs,hps⟩
    simp only at hj hdn hs hps ⊢
    refine aD _ rfl (fun hc=>?_) (fun hc=>?_)
    ·have hji:j≤i:=by omega
     refine aV ?_
     refine aV ?_
     refine ld4b 0 rfl rfl ?_
     refine aE 2 rfl hs.vb j rfl qN ?_
     refine aG 2 rfl j qN (u:=s.sb j) rfl ?_
     refine dot_call 1 i j rfl qN qN hs.sb (k:=k) (fun x c _ _=>hrx x c) qN qN fun x1=>?_
     refine aM (d:=I false []) fun xb hxb=>?_
     refine aI (d:=zd (mi G 0 i j)) 0 rfl hxb rfl qK (by rw [← e0 i j]; exact aC qM) ?_
     refine aO (X:=Nat) (fun t=>([(0,v),(3,eD s.r 0),(4,.int .i64 (i:Nat)),(5,s.sb i),(7,.int .i64 (j:Nat)),(8,xb),(15,.int .i64 (a.length:Nat)),(16,.int .i64 (i:Nat)),(75,.int .i64 ((i+1:Nat):Nat)),(76,.int .i64 (j:Nat)),(89,.int .i64 (j:Nat)),(90,.int .i64 (t:Nat))],
       bE xb 2 1 (fun _=>zd (mi G t i j))::bak s C a.length (i+1) dn (rawJ a) uniJ (dG G) (ltb C (rvm a) i j) [],[(v,W a)])) (fun t=>t≤j) (fun t=>j - t) rfl ?_ ?_
     ·exact aU 0 (Nat.zero_le _) trivial qF (aA (bJ rfl) (aB (fs':=[(v,W a)]) qS))
     ·rintro t ht
      refine aD _ rfl (fun hlt=>?_) (fun hlt=>?_)
      ·have htj:t<j:=by omega
       have g0:=hdz t qN
       have g1:=hdz (t+1) qN
       have m1:=hmz t i j qN
       have m2:=hmz t i t qN
       have m3:=hmz t j t qN
       have n0:dG G t≠0:=by have:=hps t qN; omega
       have hq:=fun z y=>gQ z y (dG G (t+1)*mi G t i j - mi G t i t*mi G t j t) (dG G t) _ _ (iL (g1.mul m1) (m2.mul m3)) g0 qE qE n0
       rw [hstep t i j n0] at hq
       refine aY [0,1,2,3,4,5,6,7,8,10,11,12,13,14,15,16,17,18,19,20,21,22,23,24,25,26,27,28,29,32,33,34,35,36,37,38,9,30,31,39,40] [0,1,2,3,4,5,6,7,8,9,10,11,12,13,14,15,16,17,18,19,20,21,22,23,24,25,26,27,28,29,30,31,32,33,34,35,36,37,38,39,40] qK qK ?_
       refine aV ?_
       refine nZ 1 rfl rfl ?_
       refine ar rfl qI ?_
       refine aE 6 rfl hs.vd (t+1) qN qN ?_
       refine bK (d:=zd (dG G (t+1))) 6 rfl (t+1) qN rfl (aN _ _) fun y1=>?_
       refine aF (d:=zd (mi G t i j)) 0 rfl hxb rfl (aN _ _) fun y2=>?_
       refine aV ?_
       refine rK 1 rfl rfl ?_
       refine aE 8 rfl hs.vl (i) qN qN ?_
       refine aG 8 rfl (i) qN (u:=s.sl (i)) rfl ?_
       refine bY 7 (i) rfl qN (hs.sl (i) qN) (t) qN qN ?_
       refine fX 7 i t rfl qN qN (cn (mi G t i t)) (by unfold ltb; rw [if_pos qN,hlm]) fun y3=>?_
       refine aV ?_
       refine rK 1 rfl rfl ?_
       refine aE 8 rfl hs.vl (j) qN qN ?_
       refine aG 8 rfl (j) qN (u:=s.sl (j)) rfl ?_
       refine bY 7 (j) rfl qN (hs.sl (j) qN) (t) qN qN ?_
       refine fX 7 j t rfl qN qN (cn (mi G t j t)) (by unfold ltb; rw [if_pos qN,hlm]) fun y4=>?_
       refine aV ?_
       refine nZ 1 rfl rfl ?_
       refine aE 6 rfl hs.vd t qN qN ?_
       refine bK (d:=zd (dG G t)) 6 rfl t qN rfl (aN _ _) fun y5=>?_
       refine cG (fQ y1 y2 (dG G (t+1)) (mi G t i j) _ _ g1 m1 qE qE) fun z1=>?_
       refine cG (fQ y3 y4 (mi G t i t) (mi G t j t) _ _ m2 m3 qE qE) fun z2=>?_
       refine cG (zSubZ z1 z2 _ _ _ _ (g1.mul m1) (m2.mul m3) qE qE) fun z3=>?_
       refine cG (hq z3 y5) fun z4=>?_
       refine aI (d:=zd (mi G (t+1) i j)) 0 rfl hxb rfl qK ?_ ?_; exact aC qM
       refine ar rfl qI ?_
       exact aU (t+1) qN (by simp only; omega) qF (aA (bJ rfl) (aB (fs':=[(v,W a)]) qS))
      ·have htj:t=j:=by omega
       subst htj
       refine aD _ rfl (fun hlt2=>?_) (fun hlt2=>?_)
       ·have hti:t<i:=by omega
        refine aY [0,1,2,3,4,5,6,7,8,9,10] [0,1,2,3,4,5,6,7,8,9,10] qK qK ?_
        refine aV ?_
        refine rK 1 rfl rfl ?_
        refine aE 8 rfl hs.vl (i) qN qN ?_
        refine aG 8 rfl (i) qN (u:=s.sl (i)) rfl ?_
        refine aF (d:=zd (mi G t i t)) 0 rfl hxb rfl (aN _ _) fun y2=>?_
        refine bY 7 (i) rfl qN (hs.sl (i) qN) (t) qN qN ?_
        refine iU 7 i t rfl qN qN (cn (mi G t i t)) (fun x y=>cn (ltb C (rvm a) i (t+1) x y)) (aC (d:=zd (mi G t i t)) qM) (fun x y hx hy=>?_) ?_
        ·by_cases e:x=i∧y=t
         ·rw [if_pos e,e.1,e.2]; unfold ltb; rw [if_pos qN,hlm]
         ·rw [if_neg e]; unfold ltb
          by_cases e2:y<x∧(x<i∨y<t)
          ·rw [if_pos e2,if_pos qN]
          ·rw [if_neg e2,if_neg qN]
        refine ar rfl qI ?_
        exact aU (t+1,dn,s) ⟨by simp only; omega,by simp only; omega,hs,hps⟩ (by simp only; omega) qF (dS (aB (fs':=[(v,W a)]) qS))
       ·have hti:t=i:=by omega
        subst hti
        have hms:=hmz t t t qN
        refine aF (d:=zd (mi G t t t)) 0 rfl hxb rfl (aN _ _) fun y2=>?_
        refine cH (uG y2 _ _ hms qE) ?_
        refine aD _ rfl (fun h0=>?_) (fun h0=>?_)
        ·have h0':mi G t t t=0:=Int.sign_eq_zero_iff_zero.1 h0
         refine fin (.inl ⟨fun hI=>?_,rfl,rfl,rfl⟩) (by repeat (first | exact aH _ _ | refine aA (aW 0 _ _) ?_))
         have h9:=hI (t+1) qN
         rw [hdm,eW,h0'] at h9
         omega
        ·have h0':mi G t t t≠0:=fun e=>h0 (by rw [e]; rfl)
         have hp1:0<dG G (t+1):=by
          have h8:=hnn t
          rw [hdm,hdm] at h8
          have h7:=hps t qN
          have h6:dG G (t+1)≠0:=by rw [eW]; exact h0'
          by_cases h5:dG G (t+1)<0
          ·have:=Int.mul_neg_of_pos_of_neg h7 h5
           omega
          ·omega
         refine aY [0,1,2,3,4,5,6,7,8,9,10] [0,1,2,3,4,5,6,7,8,9,10] qK qK ?_
         refine aV ?_
         refine nZ 1 rfl rfl ?_
         refine aF (d:=zd (mi G t t t)) 0 rfl hxb rfl (aN _ _) fun y3=>?_
         refine mE (size:=2) J z0 (cn (mi G t t t)) qE (aC (d:=zd (mi G t t t)) qM) rfl fun l1=>?_
         refine iO (size:=2) (n:=dn) (el':=fun y=>J ([cn (mi G t t t)].getD y z0)) (e':=fun y=>zd (dG G y)) 6 rfl hs.vd (bC qM) (fun y hy=>?_) qN qN fun vd2 hvd2=>?_
         ·by_cases hyj:y<dn
          ·rw [if_pos hyj]
          ·rw [if_neg hyj,show y=t+1 by omega,eW]; rfl
         refine aV ?_
         refine store4 1 2 rfl rfl qE hvd2.one qK ?_
         refine ar rfl qI ?_
         refine aU (t+1,dn+1,{ s with vd:=vd2 }) ⟨by simp only; omega,by simp only; omega,⟨hs.vb,hs.vu,hvd2,hs.vl,hs.sb,hs.su,hs.sl⟩,fun y hy=>by
          by_cases e:y<dn
          ·exact hps y e
          ·rw [show y=t+1 by simp only at hy; omega]; exact hp1⟩ (by simp only; omega) qF (dS (aA (Seals.fjcong (vs:=s.sl) (vs':=s.sl) (x:=fun x y=>cn (ltb C (rvm a) t t x y)) (x':=fun x y=>cn (ltb C (rvm a) t (t+1) x y)) (os:=[_,_,_,_,_,_,_,_]) 6 rfl (fun x=>x) (fun x hx=>⟨hx,rfl,fun y hy=>?_⟩) (fun _ _ _ _ e=>e)) (aB qS)))
         show cn _=cn _
         congr 1
         unfold ltb
         by_cases e:y<x
         ·rw [if_pos qN,if_pos qN]
         ·rw [if_neg (fun h=>e h.1),if_neg (fun h=>e h.1)]
    ·have hji:j=i+1:=by omega
     subst hji
     have hd2:dn=i+1+1:=by omega
     subst hd2
     refine ar rfl qI ?_
     refine aU (i+1,s) ⟨by simp only; omega,hs,fun t ht=>hps t (by simp only at ht; omega)⟩ (by simp only; omega) qF (aA (Seals.fjcong (vs:=s.sl) (vs':=s.sl) (x:=fun x y=>cn (ltb C (rvm a) i (i+1) x y)) (x':=fun x y=>cn (ltb C (rvm a) (i+1) 0 x y)) (os:=[_,_,_,_,_,_,_,_]) 6 rfl (fun x=>x) (fun x hx=>⟨hx,rfl,fun y hy=>?_⟩) (fun _ _ _ _ e=>e)) (aB qS))
     show cn _=cn _
     congr 1
     unfold ltb
     by_cases e:y<x
     ·rw [if_pos qN,if_pos qN]
     ·rw [if_neg (fun h=>e h.1),if_neg (fun h=>e h.1)]
  ·have hin:i=a.length:=by omega
   subst hin
   subst hG
   exact fin (.inr ⟨fun t ht=>hpos t ht,s,hs,rfl,rfl,rfl⟩) (aB (fs':=[]) qS)
theorem len_famR {t e' ty:TypeId} {size':Nat} {vs:Nat→Value} {m:List Row} {os:List Own} {fs:List bD} {K:bZ} [ht:TSl Tryz.prog t e' size'] (pos i:Nat)
  (h:a8 os pos=some (o8 vs m)) (hi:i<m.length) (hs:isSl (vs i)) (k:(m.getD i []).length≤9223372036854775807→K (.int .i64 (m.getD i []).length) os fs):LenK Tryz.prog [t] ty (vs i) os fs K:=by
 obtain ⟨a,n,c,hv⟩:=hs
 refine ⟨fun G w hw=>?_⟩
 generalize hC:(m.getD i []).length=C at *
 have key:∃ (a':Option Addr) (c':Nat),vs i=.slice a' C c'∧C≤9223372036854775807:=by
  rcases hw.own _ (bF h) i hi with ⟨h1,h2⟩ | ⟨r,cap,h1,b1,b2,b3,_⟩ | ⟨r,h1,_⟩ | ⟨_,_,_,_,_,_,⟨r,_,_,h1,_⟩ | ⟨r,_,_,_,_,_,_,h1,_⟩⟩
  rotate_right
  ·have h1':vs i=_:=h1
   rw [hv] at h1'; simp at h1'
  rotate_right
  ·have h1':vs i=_:=h1
   rw [hv] at h1'; simp at h1'
  ·have h2':(m.getD i []).length=0:=h2
   exact ⟨none,0,by rw [← hC,h2']; exact h1,by omega⟩
  ·have b2':(m.getD i []).length≤cap:=b2
   exact ⟨some ⟨r,0,none⟩,cap,by rw [← hC]; exact h1,by unfold maxLen at b3; omega⟩
  ·have h1':vs i=_:=h1
   rw [hv] at h1'; simp at h1'
 obtain ⟨a',c',e,hC'⟩:=key
 rw [e]
 exact (len_val (P:=Tryz.prog) (t:=t) (ty:=ty) (a:=a') (n:=C) (c:=c') (os:=os) (fs:=fs) (K:=K) (k hC')).out G w hw
def gFs (s:List (Nat×Nat)) (T Y:Int) (R:List Int):Nat→Nat→Nat→Int
 | 0,_,_=>0
 | k+1,u,v=>if s.getD k (0,0)=(u,v) then R.getD k 0/jE T Y (u,v) else gFs s T Y R k u v
def lI (s:List (Nat×Nat)) (T Y:Int) (R:List Int):List (List Int):=gof (gFs s T Y R s.length) 101 101
theorem gFs_out {s:List (Nat×Nat)} {T Y:Int} {R:List Int} {u v:Nat}:∀ k,(∀ j,j<k→s.getD j (0,0)≠(u,v))→gFs s T Y R k u v=0
 | 0,_=>rfl
 | k+1,h=>by
  rw [gFs,if_neg (h k qN)]
  exact gFs_out k fun j hj=>h j qN
theorem gridV_gn (s:List (Nat×Nat)) (T Y:Int) (R:List Int):Gn (lI s T Y R):=gof_gn _ _ _
theorem uC {s:List (Nat×Nat)} {T Y:Int} {R:List Int} (hb:∀ p,p∈s→p.1≤100∧p.2≤100) (u v:Nat):gv (lI s T Y R) u v=gFs s T Y R s.length u v:=by
 unfold lI
 rw [gof_gv]
 split
 ·rfl
 ·rename_i h
  refine (gFs_out _ fun j hj e=>h ?_).symm
  have:=hb _ (dT (0,0) hj)
  rw [e] at this
  simp only at this; omega
def oI:List Int→Int
 | []=>0
 | x::l=>x.natAbs+oI l
theorem sz_abs {x:Int} {a:Nat} (h:sz x a):sz ((x.natAbs:Nat):Int) a:=by unfold sz at *; simpa using h
theorem asum_snoc (l:List Int) (x:Int):oI (l++[x])=oI l+x.natAbs:=by
 induction l with
 | nil=>simp [oI]
 | cons y l ih=>simp only [List.cons_append,oI,ih]; omega
theorem asum_nn (l:List Int):0≤oI l:=by
 induction l with
 | nil=>simp [oI]
 | cons y l ih=>simp only [oI]; omega
theorem asum_sz {l:List Int} {a:Nat} (h:szR a l) (hl:l.length≤1000):sz (oI l) (a+1):=by
 have key:∀ l:List Int,szR a l→(oI l).natAbs≤l.length*18446744073709551616^a:=fun l=>by
  induction l with
  | nil=>intro _; simp [oI]
  | cons y l ih =>
   intro h
   have h1:=ih fun x hx=>h x (List.mem_cons_of_mem _ hx)
   have h2:=h y (List.mem_cons_self ..)
   unfold sz at h2
   have h3:=asum_nn l
   simp only [oI,List.length_cons,Nat.succ_mul]
   omega
 have h1:=key l h
 unfold sz
 rw [Nat.pow_succ]
 have h2:0<18446744073709551616^a:=Nat.pow_pos qE
 have h3:l.length*18446744073709551616^a≤1000*18446744073709551616^a:=Nat.mul_le_mul_right _ hl
 omega
theorem gv_more (m:List Row) (u v:Nat):gv (ww (m++[[]])) u v=gv (ww m) u v:=by
 rw [gv_ww,gv_ww]
 by_cases h:u<m.length
 ·simp [gE,List.getElem?_append_left h]
 ·rw [cW (l:=m) qN]
  by_cases h2:u=m.length
  ·subst h2; simp [gE]
  ·rw [cW (l:=m++[[]]) (by simp; omega)]
theorem gv_app {m:List Row} {i:Nat} (h:i<m.length) (u v:Nat):gv (ww (m.set i (m.getD i []++[z0]))) u v=gv (ww m) u v:=by
 rw [gv_ww,gv_ww,oE h]
 split
 ·subst_vars
  by_cases h2:v<(m.getD u []).length
  ·simp only [gE] at h2 ⊢
   rw [List.getElem?_append_left h2]
  ·rw [cW (l:=m.getD u []) qN]
   by_cases h3:v=(m.getD u []).length
   ·subst h3; simp [gE]
   ·rw [cW (l:=m.getD u []++[z0]) (by simp only [List.length_append,List.length_cons,List.length_nil]; omega)]
 ·rfl
theorem gv_set {m:List Row} {i j:Nat} (h:i<m.length) (hj:j<(m.getD i []).length) (x:Bool×List Nat) (u v:Nat):gv (ww (m.set i ((m.getD i []).set j x))) u v=if i=u∧j=v then jv x else gv (ww m) u v:=by
 rw [gv_ww,gv_ww,oE h]
 by_cases e:u=i
 ·subst e
  rw [if_pos rfl,wD hj]
  by_cases e2:v=j
  ·subst e2; rw [if_pos rfl,if_pos ⟨rfl,rfl⟩]
  ·rw [if_neg e2,if_neg (fun h=>e2 h.2.symm)]
 ·rw [if_neg e,if_neg (fun h=>e h.1.symm)]
theorem set_mem {m:List Row} {i:Nat} {r x:Row} (h:x∈m.set i r):x∈m∨x=r:=by
 rcases List.mem_or_eq_of_mem_set h with h | h
 ·exact .inl h
 ·exact .inr h
theorem z0_lim:Lim z0.2:=fun x hx=>by simp [z0] at hx
theorem Lg.more {m:List Row} {G:List (List Int)} {a n:Nat} (h:Lg m G a n) (hn:m.length+1≤n):Lg (m++[[]]) (ww (m++[[]])) a n :=
 ⟨rfl,by simp; omega,fun r hr=>by
  rcases List.mem_append.1 hr with hr | hr
  ·exact h.row r hr
  ·rw [List.mem_singleton.1 hr]; exact ⟨Nat.zero_le _,fun x hx=>by simp at hx⟩⟩
theorem Lg.setR {m:List Row} {G:List (List Int)} {a n i:Nat} {r:Row} (h:Lg m G a n) (hr:r.length≤n) (hf:Fit a r):Lg (m.set i r) (ww (m.set i r)) a n :=
 ⟨rfl,by rw [List.length_set]; exact h.len,fun x hx=>by
  rcases set_mem hx with hx | rfl
  ·exact h.row x hx
  ·exact ⟨hr,hf⟩⟩
theorem Fit.app {a:Nat} {r:Row} (h:Fit a r):Fit a (r++[z0]):=fun x hx=>by
 rcases List.mem_append.1 hx with hx | hx
 ·exact h x hx
 ·rw [List.mem_singleton.1 hx]; exact ⟨z0_lim,Nat.zero_le _⟩
theorem Fit.set {a j:Nat} {r:Row} {x:Bool×List Nat} (h:Fit a r) (hx:Lim x.2∧x.2.length≤a):Fit a (r.set j x):=fun y hy=>by
 rcases List.mem_or_eq_of_mem_set hy with hy | hy
 ·exact h y hy
 ·rw [hy]; exact hx
theorem lookNum {P:Program} {t:TypeId} {v u:Value} {size off:Nat} {e:Nat→Dat} [ht:mJ P t] (hp:Part off (e 0) (.one u)) (os:List Own) (fs:List bD) (h:InO [bE v size 1 e] os):kE P t (k6 v off) os fs fun x _ _=>x=u:=by
 obtain ⟨pos,hpos⟩:=qL h.1
 exact aJ pos hpos hp rfl
structure GdOk (s:List (Nat×Nat)) (T Y:Int) (R:List Int) (a i:Nat) (ov:Value) (vs:Nat→Value) (m:List Row):Prop where
 ov:isSl ov
 vs:∀ j,j<m.length→isSl (vs j)
 lg:Lg m (ww m) a 200
 gv:∀ u v,Go.Proofs.YtjebljkoiaojaaaGreat.gv (ww m) u v=gFs s T Y R i u v
set_option maxHeartbeats 4000000 in
theorem p3 (v w:Value) (s:List (Nat×Nat)) (T Y M:Int) (R:List Int) (a b c:Nat) (hb:∀ p,p∈s→p.1≤100∧p.2≤100) (ls:s.length≤100) (lR:R.length=s.length) (hR:szR a R) (ha:a≤100000000)
  (hz:∀ p,p∈s→sz (jE T Y p) b∧jE T Y p≠0) (hbb:b≤100000000) (hM:sz M c) (hc:c≤100000000) :
  Meets Tryz.prog 110 [v,w] [(v,jH s T Y M),(w,vd R)] (fun r os fs=>os=[]∧∃ q,r=.tuple #[q,.bool (decide (oI R<M))]∧fs=[(q,wd (lI s T Y R))]):=by
 have hsl:∀ i,i<s.length→((s.map (jE T Y)).map cn).getD i z0=cn (jE T Y (s.getD i (0,0))):=fun i hi=>by
  simp [gE,hi]
 have hml:((s.map (jE T Y)).map cn).length=s.length:=by simp
 have hRl:(R.map cn).length=s.length:=by rw [List.length_map,lR]
 have hRg:∀ i,i<s.length→(R.map cn).getD i z0=cn (R.getD i 0):=fun i hi=>fE qN
 have hsum:∀ i,i≤s.length→sz (oI (R.take i)) (a+1):=fun i hi=>asum_sz (hR.take i) (by rw [List.length_take]; omega)
 refine mV Tryz.func110 ?_
 refine bA (aC (d:=jH s T Y M) qM) fun bp hbp=>?_
 refine empty_L (size:=1) (α:=Value) Dat.one undef qE fun g0 hg0=>?_
 refine lE (da:=.one (.bool false)) (db:=U (bT 0)) (fun S w=>⟨[.bool false],[.slice none 0 0],rfl,eJ S w,by rw [bR]; exact gM S w 1 _⟩) fun z=>?_
 refine aM (d:=I false []) fun sb hsb=>?_
 refine aI (d:=zd 0) 0 rfl hsb rfl qK (aC (v:=z) qM) ?_
 refine aS 2 rfl hbp ?_
 refine aP (d:=ShD s) 2 rfl (aZ (aK _)) (load_Sh _) fun q=>?_
 refine aT (v:=q) (n:=s.length) qM fun _=>?_
 refine aO (X:=Nat×Value×(Nat→Value)×List Row) (fun x=>([(1,w),(2,bp),(6,x.2.1),(7,sb),(13,q),(14,.int .i64 (s.length:Nat)),(15,.int .i64 (x.1:Nat))],
   [o8 x.2.2.1 x.2.2.2,gJ x.2.1 x.2.2.2.length x.2.2.1,bE sb 2 1 (fun _=>zd (oI (R.take x.1))),bE bp 5 1 (fun _=>jH s T Y M)],[(q,ShD s),(w,vd R)]))
  (fun x=>x.1≤s.length∧GdOk s T Y R a x.1 x.2.1 x.2.2.1 x.2.2.2) (fun x=>s.length - x.1) rfl ?_ ?_
 ·refine aU (0,g0,fun _=>undef,[]) ⟨Nat.zero_le _,hg0,fun j hj=>absurd hj (Nat.not_lt_zero _),⟨rfl,Nat.zero_le _,fun r hr=>by simp at hr⟩,fun u v=>by simp [gv,ww,gFs]⟩ trivial qF ?_
  refine aA (bJ (d:=zd (oI (R.take 0))) rfl) (aA (Seals.none (o8 (fun _=>undef) []) (by simp [o8])) ?_)
  refine aA (Seals.perm (List.Perm.cons _ (List.Perm.swap _ _ _))) ?_
  exact aB qS
 rintro ⟨i,ov,vs,m⟩ ⟨hi,hg⟩
 simp only at hi hg ⊢
 refine aD _ rfl (fun hlt=>?_) (fun hlt=>?_)
 ·have his:i<s.length:=by omega
  have hpb:=hb _ (dT (0,0) his)
  have hpz:=hz _ (dT (0,0) his)
  have hgs:∀ u v,gFs s T Y R (i+1) u v=if s.getD i (0,0)=(u,v) then R.getD i 0/jE T Y (s.getD i (0,0)) else gFs s T Y R i u v:=fun u v=>by
   rw [gFs]; split
   ·rename_i e; rw [e]
   ·rfl
  have htk:R.take (i+1)=R.take i++[R.getD i 0]:=by
   rw [List.take_add_one,List.getElem?_eq_getElem qN,gE,List.getElem?_eq_getElem qN]; rfl
  have hsi:=hsum i qN
  have hsi2:=hsl i his
  have hRi:=hRg i his
  have zR:=hR.get i
  refine aQ (v:=q) qM i rfl his fun a1=>?_
  refine aX (d:=spE (s.getD i (0,0))) qM (load_sp _) fun a2=>?_
  generalize s.getD i (0,0)=pp at *
  obtain ⟨p1,p2⟩:=pp
  simp only [Prod.mk.injEq] at hpb hgs
  refine aM (d:=jD 0 0) fun bq hbq=>?_
  refine aI (d:=jD (p1:Nat) (p2:Nat)) 0 rfl hbq rfl qK (aC (d:=spE (p1,p2)) qM) ?_
  refine aO (X:=Value×(Nat→Value)×List Row) (fun x=>([(1,w),(2,bp),(6,x.1),(7,sb),(8,.int .i64 (i:Nat)),(9,bq),(13,q),(14,.int .i64 (s.length:Nat)),(15,.int .i64 (i:Nat))],
    [bE bq 2 1 (fun _=>jD (p1:Nat) (p2:Nat)),o8 x.2.1 x.2.2,gJ x.1 x.2.2.length x.2.1,bE sb 2 1 (fun _=>zd (oI (R.take i))),bE bp 5 1 (fun _=>jH s T Y M)],[(q,ShD s),(w,vd R)]))
   (fun x=>GdOk s T Y R a i x.1 x.2.1 x.2.2) (fun x=>p1+1 - x.2.2.length) rfl ?_ ?_
  ·exact aU (ov,vs,m) hg trivial qF (aA (bJ rfl) (aB qS))
  clear hg
  rintro ⟨ov,vs,m⟩ hg
  simp only at hg ⊢
  have hml:=hg.lg.len
  refine cS 2 rfl hg.ov fun _=>?_
  refine fA hbq 0 rfl qE ?_
  refine aJ 0 rfl (aZ (aK _)) ?_
  refine aD _ rfl (fun hl1=>?_) (fun hl1=>?_)
  ·refine mE (size:=1) Dat.one undef nilV qE (bW rfl) rfl fun l1=>?_
   refine iO (size:=1) (n:=m.length) (el':=fun y=>Dat.one ([nilV].getD y undef)) (e':=fun y=>.one (upv vs m.length nilV y)) 2 rfl hg.ov (bC qM) (fun y hy=>?_) qN qN fun ov2 hov2=>?_
   ·unfold upv
    by_cases e:y<m.length
    ·rw [if_pos e,if_neg qN]
    ·have:y=m.length:=by omega
     subst this
     simp
   refine aU (ov2,upv vs m.length nilV,m++[[]]) ⟨hov2,fun j hj=>?_,hg.lg.more qN,fun u v=>by rw [gv_more]; exact hg.gv u v⟩ (by simp only [List.length_append,List.length_cons,List.length_nil]; omega) qF ?_
   ·show isSl (upv vs m.length nilV j)
    unfold upv
    split
    ·exact fZ
    ·exact hg.vs j (by simp only [List.length_append,List.length_cons,List.length_nil] at hj; omega)
   ·refine aA (Seals.perm (List.Perm.swap _ _ _)) (aA Seals.more (aA (Seals.perm (List.Perm.swap _ _ _)) ?_))
    simp only [List.length_append,List.length_cons,List.length_nil]
    exact aB qS
  have hp1:p1<m.length:=by omega
  clear hl1
  refine aO (X:=(Nat→Value)×List Row) (fun x=>([(1,w),(2,bp),(6,ov),(7,sb),(8,.int .i64 (i:Nat)),(9,bq),(13,q),(14,.int .i64 (s.length:Nat)),(15,.int .i64 (i:Nat))],
    [bE bq 2 1 (fun _=>jD (p1:Nat) (p2:Nat)),o8 x.1 x.2,gJ ov x.2.length x.1,bE sb 2 1 (fun _=>zd (oI (R.take i))),bE bp 5 1 (fun _=>jH s T Y M)],[(q,ShD s),(w,vd R)]))
   (fun x=>GdOk s T Y R a i ov x.1 x.2∧p1<x.2.length) (fun x=>p2+1 - (x.2.getD p1 []).length) rfl ?_ ?_
  ·exact aU (vs,m) ⟨hg,hp1⟩ trivial qF (aB qS)
  clear hg hp1 hml
  rintro ⟨vs,m⟩ ⟨hg,hp1⟩
  simp only at hg hp1 ⊢
  have hml:=hg.lg.len
  have hrw:=hg.lg.row _ (dT [] hp1)
  refine aY [0,1,2,3,4,5,6,7,8] [0,1,2,3,4,5,6,7,8] qK qK ?_
  refine fA hbq 0 rfl qE ?_
  refine aJ 0 rfl (aZ (aK _)) ?_
  refine aE 2 rfl hg.ov p1 rfl hp1 ?_
  refine aG 2 rfl p1 hp1 (u:=vs p1) rfl ?_
  refine len_famR 1 p1 rfl hp1 (hg.vs p1 hp1) fun _=>?_
  refine fA hbq 1 rfl qE ?_
  refine aJ 0 rfl (aR (aK _)) ?_
  refine aD _ rfl (fun hl2=>?_) (fun hl2=>?_)
  ·refine gO [0,1,2,3,4,5,6,7,8,9,10,11,12] qK ?_
   refine cC [bE bq 2 1 (fun _=>jD (p1:Nat) (p2:Nat))] [1,2] [9,10] [] [0,1,2,3,4,5,6,7,8,9,10,11,12] qK qK qK ?_
   refine lookD (v:=k6 bq 0) ⟨qM,trivial⟩ rfl (fun _ _ _=>fA hbq 0 rfl qE rfl) ?_
   refine lookD (v:=.int .i64 (p1:Nat)) ⟨qM,trivial⟩ rfl (lookNum (aZ (aK _))) ?_
   refine fA hbq 0 rfl qE ?_
   refine aJ 0 rfl (aZ (aK _)) ?_
   refine aE 2 rfl hg.ov p1 rfl hp1 ?_
   refine aG 2 rfl p1 hp1 (u:=vs p1) rfl ?_
   refine lE (da:=.one (.bool false)) (db:=U []) (fun S w=>⟨[.bool false],[.slice none 0 0],rfl,eJ S w,gM S w 1 _⟩) fun z=>?_
   refine mE (size:=2) J z0 z0 qE (aC (v:=z) (d:=J z0) qM) rfl fun l1=>?_
   refine eGo ⟨qM,trivial⟩ ?_
   refine w8 (x:=[z0]) 1 p1 rfl hp1 (hg.vs p1 hp1) qM (by simp only [List.length_cons,List.length_nil]; omega) (by simp only [List.length_cons,List.length_nil]; omega) fun v2 hv2=>?_
   refine eGo ⟨qM,trivial⟩ ?_
   refine aE 2 rfl hg.ov p1 rfl hp1 ?_
   refine bL (d:=.one v2) 2 rfl p1 hp1 rfl qK (bW hv2.one) ?_
   refine aU (upv vs p1 v2,m.set p1 (m.getD p1 []++[z0])) ⟨⟨hg.ov,fun j hj=>?_,hg.lg.setR (by simp only [List.length_append,List.length_cons,List.length_nil]; omega) hrw.2.app,fun u v=>by rw [gv_app hp1]; exact hg.gv u v⟩,by rw [List.length_set]; exact hp1⟩ (by simp only [oE hp1,if_pos,List.length_append,List.length_cons,List.length_nil]; omega) qF ?_
   ·simp only [List.length_set] at hj
    show isSl (upv vs p1 v2 j)
    unfold upv
    split
    ·exact hv2
    ·exact hg.vs j hj
   ·rw [List.length_set]
    refine aA (Seals.own_cong (os:=[_,_,_,_,_]) 2 (fun y=>.one (upv vs p1 v2 y)) rfl rfl fun y _=>?_) (aB qS)
    unfold upd upv
    split <;> rfl
  have hp2:p2<(m.getD p1 []).length:=by omega
  clear hl2
  refine aY [0,1,2,3,4,5,6,7,8,9,10,11,12,13,14,15,16,17,18,19,20,21,22] [0,1,2,3,4,5,6,7,8,9,10,11,12,13,14,15,16,17,18,21,22,19,20] qK qK ?_
  refine fA hbq 0 rfl qE ?_
  refine aJ 0 rfl (aZ (aK _)) ?_
  refine aE 2 rfl hg.ov p1 rfl hp1 ?_
  refine aG 2 rfl p1 hp1 (u:=vs p1) rfl ?_
  refine fA hbq 1 rfl qE ?_
  refine aJ 0 rfl (aR (aK _)) ?_
  refine aQ (v:=w) qM i rfl (by rw [hRl]; exact his) fun a3=>?_
  refine aX (d:=J ((R.map cn).getD i z0)) qM (bM _) fun y1=>?_
  refine aS 4 rfl hbp ?_
  refine aP (d:=vd (s.map (jE T Y))) 4 rfl (aR (aR (aZ (aK _)))) (iZ _) fun y2=>?_
  refine aQ (v:=y2) qM i rfl (by rw [List.length_map,List.length_map]; exact his) fun a4=>?_
  refine aX (d:=J (((s.map (jE T Y)).map cn).getD i z0)) qM (bM _) fun y3=>?_
  rw [hRi,hsi2]
  refine cF (gK y1 y3 (R.getD i 0) (jE T Y (p1,p2)) a b zR hpz.1 qN qN hpz.2) ?_
  rintro _ _ _ ⟨rfl,q1,r1,rfl,rfl⟩
  refine index_famR 1 p1 rfl hp1 (hg.vs p1 hp1) p2 rfl hp2 ?_
  refine store_R 1 p1 p2 rfl hp1 hp2 (cn (R.getD i 0/jE T Y (p1,p2))) (aC (d:=zd (R.getD i 0/jE T Y (p1,p2))) qM) ?_
  refine aY [0,1,2,3,4,5,6,7] [0,1,2,3,4,5,6,7] qK qK ?_
  refine aF (d:=zd (oI (R.take i))) 3 rfl hsb rfl (aN _ _) fun y4=>?_
  refine aQ (v:=w) qM i rfl (by rw [hRl]; exact his) fun a5=>?_
  refine aX (d:=J ((R.map cn).getD i z0)) qM (bM _) fun y5=>?_
  rw [hRi]
  refine cG (zAbsZ y5 (R.getD i 0) a zR qN) fun y6=>?_
  refine cG (nH y4 y6 _ _ (a+1) a hsi (sz_abs zR) qN qN) fun y7=>?_
  refine aI (d:=zd (oI (R.take i)+((R.getD i 0).natAbs:Nat))) 3 rfl hsb rfl qK (aC qM) ?_
  refine ar rfl qI ?_
  refine aU (i+1,ov,vs,m.set p1 ((m.getD p1 []).set p2 (cn (R.getD i 0/jE T Y (p1,p2))))) ⟨by simp only; omega,hg.ov,fun j hj=>hg.vs j (by rw [List.length_set] at hj; exact hj),hg.lg.setR (by rw [List.length_set]; exact hrw.1) (hrw.2.set ⟨a0 _,(pW zR).len⟩),fun u v=>?_⟩ (by simp only; omega) qF ?_
  ·rw [gv_set hp1 hp2,eR,hgs,hg.gv]
  ·rw [htk,asum_snoc,List.length_set]
   exact dS (aA (Seals.boxAt 2 rfl rfl) (aB qS))
 ·have hil:i=s.length:=by omega
  subst hil
  rw [show R.take s.length=R by rw [← lR,List.take_length]]
  have hs1:=hsum s.length (Nat.le_refl _)
  rw [show R.take s.length=R by rw [← lR,List.take_length]] at hs1
  have hN:=xgNorm ov hg.lg qN qE
  have hge:gn (ww m)=lI s T Y R:=(gn_gn _).ext (gridV_gn _ _ _ _) fun u v=>by rw [gn_gv,hg.gv,uC hb]
  rw [hge] at hN
  refine aY [0,2,3,4,1,5,6,7,8] [0,1,2,3,4,5,7,6,8] qK qK ?_
  refine aF (d:=zd (oI R)) 2 rfl hsb rfl (aN _ _) fun y1=>?_
  refine aS 3 rfl hbp ?_
  refine aP (d:=zd M) 3 rfl (aR (aR (aR (aK _)))) (aN _ _) fun y2=>?_
  refine dK hN (Seals.madeR' rfl hg.ov hg.vs) qS ?_
  rintro r _ _ ⟨rfl,rfl⟩
  refine cH (zCmpSZ y1 y2 _ _ (a+1) c hs1 hM qN qN) ?_
  refine aD _ rfl (fun hl=>?_) (fun hl=>?_)
  ·rw [decide_eq_true (show oI R<M by have:=kG.1 hl; omega)]
   exact fin ⟨rfl,r,rfl,rfl⟩ (dS (dS (aB qS)))
  ·rw [decide_eq_false (show ¬ oI R<M from fun h=>hl (kG.2 qN))]
   exact fin ⟨rfl,r,rfl,rfl⟩ (dS (dS (aB qS)))
theorem shp_big (d n:Nat):d*n+1≤(shp d n).length:=by
 unfold shp
 rw [List.range_succ_eq_map,List.flatMap_cons,List.length_append,List.length_map,List.length_range]
 have:d*(n - 0)=d*n:=by rw [Nat.sub_zero]
 omega
def glJ:Row→List Row
 | []=>[]
 | c::l=>[c,cn (-1)]::l.map fun c=>[c]
theorem glJ_len (L:Row):(glJ L).length=L.length:=by cases L <;> simp [glJ]
theorem glJ_ww (l:List Int):ww (glJ (l.map cn))=j9 l:=by
 cases l with
 | nil=>rfl
 | cons c l =>
  simp only [List.map_cons,glJ,ww,j9,vv,List.map_nil,eR,List.map_map]
  congr 1
  refine List.map_congr_left fun x _=>?_
  simp [vv,eR]
theorem glJ_step {L:Row} {i:Nat} (hi:i<L.length) (h0:i≠0):glJ (L.take (i+1))=glJ (L.take i)++[[L.getD i z0]]:=by
 obtain ⟨j,rfl⟩:∃ j,i=j+1:=⟨i - 1,by omega⟩
 cases L with
 | nil=>simp at hi
 | cons c l =>
  simp only [List.length_cons] at hi
  have e:l.take (j+1)=l.take j++[(c::l).getD (j+1) z0]:=by
   rw [List.take_add_one,List.getElem?_eq_getElem (show j<l.length by omega)]
   simp [gE,List.getElem?_eq_getElem (show j<l.length by omega)]
  simp only [List.take_succ_cons,glJ,e,List.map_append,List.map_cons,List.map_nil,List.cons_append]
theorem glJ_one {L:Row} (h:0<L.length):glJ (L.take 1)=[[L.getD 0 z0,cn (-1)]]:=by
 cases L with
 | nil=>simp at h
 | cons c l=>simp [glJ]
theorem glJ_row {L:Row} {r:Row} (h:r∈glJ L):∃ c,c∈L∧(r=[c]∨r=[c,cn (-1)]):=by
 cases L with
 | nil=>simp [glJ] at h
 | cons c l =>
  rcases List.mem_cons.1 h with rfl | h
  ·exact ⟨c,List.mem_cons_self .., .inr rfl⟩
  ·obtain ⟨x,hx,rfl⟩:=List.mem_map.1 h
   exact ⟨x,List.mem_cons_of_mem _ hx,.inl rfl⟩
theorem glJ_lg {l:List Int} {k n:Nat} (hl:szR k l) (h1:1≤k) (hn:l.length≤n) (h2:2≤n):Lg (glJ (l.map cn)) (j9 l) k n :=
 ⟨glJ_ww l,by rw [glJ_len,List.length_map]; exact hn,fun r hr=>by
  obtain ⟨c,hc,h⟩:=glJ_row hr
  obtain ⟨x,hx,rfl⟩:=List.mem_map.1 hc
  have h3:Lim (cn x).2∧(cn x).2.length≤k:=⟨a0 _,(hl x hx).len⟩
  have h4:Lim (cn (-1)).2∧(cn (-1)).2.length≤k:=⟨a0 _,((jS (-1) qE).mono h1).len⟩
  rcases h with rfl | rfl
  ·exact ⟨by simp only [List.length_cons,List.length_nil]; omega,fun y hy=>by rw [List.mem_singleton.1 hy]; exact h3⟩
  ·refine ⟨by simp only [List.length_cons,List.length_nil]; omega,fun y hy=>?_⟩
   rcases List.mem_cons.1 hy with rfl | hy
   ·exact h3
   ·rw [List.mem_singleton.1 hy]; exact h4⟩
theorem LD_wd (m:List (List Int)):LD 1 vd [] m=wd m:=by
 unfold wd W LD
 rw [List.length_map]
 congr 1
 funext i
 show V ((m.getD i []).map cn)=V ((m.map fun l=>l.map cn).getD i [])
 congr 1
 by_cases h:i<m.length
 ·simp [gE,h]
 ·simp [gE,h]
def matG (P:List Int) (m:Int) (n:Nat) (s:Nat×Nat):List (List Int):=gpw (j9 (nrm P)) (tH (m^(n - s.2)) s.1) s.2
def matR (P:List Int) (m t y n:Int):List (List Int)×Int :=
 if sT P m t y n then ((shp (dg P - 1) n.toNat).map fun s=>rowV (shp (dg P - 1) n.toNat) (fP t) (fP y) (matG P m n.toNat s),0) else ([],1)
theorem gone_lg {c:Int} {i k n:Nat} (hc:sz c k) (hi:i+1≤n):Lg (toW (tH c i)) (tH c i) k n :=
 Lg.told (by simp [tH]; omega) fun r hr=>by
  unfold tH at hr
  rcases List.mem_append.1 hr with hr | hr
  ·rw [(List.mem_replicate.1 hr).2]; exact ⟨Nat.zero_le _,fun x hx=>by simp at hx⟩
  ·rw [List.mem_singleton.1 hr]
   exact ⟨by simp only [List.length_cons,List.length_nil]; omega,fun x hx=>by rw [List.mem_singleton.1 hx]; exact hc⟩
theorem gpw_lg {L G:List (List Int)} {k j n n':Nat} (hL:Lg (toW L) L j n') (hG:Lg (toW G) G k n) (hn':n'≤1024):∀ i,n+i*n'≤1024→Lg (toW (gpw L G i)) (gpw L G i) (k+i*(j+1)) (n+i*n')
 | 0,_=>by rw [Nat.zero_mul,Nat.zero_mul]; exact hG
 | i+1,h=>by
  have h1:n+i*n'≤1024:=by rw [Nat.succ_mul] at h; omega
  have:=(gpw_lg hL hG hn' i h1).mul hL h1 hn'
  rw [Nat.succ_mul,Nat.succ_mul,← Nat.add_assoc,← Nat.add_assoc,← Nat.add_assoc]
  exact this
theorem sclV_sz {T Y:Int} {a n:Nat} {p:Nat×Nat} (hT:sz T a) (hY:sz Y a) (hp:p.1≤n∧p.2≤n):sz (jE T Y p) (2*(n*a+1)):=by
 have h1:=(lP hT p.1).mono (Nat.succ_le_succ (Nat.mul_le_mul_right a hp.1))
 have h2:=(lP hY p.2).mono (Nat.succ_le_succ (Nat.mul_le_mul_right a hp.2))
 exact (h1.mul h2).mono qN
theorem lst1_sz {x:Int} {a:Nat} (h:sz x a) (h1:1≤a):sz (fP x) a:=by
 unfold fP; split
 ·exact (jS 1 qE).mono h1
 ·exact h
theorem lst1_ne (x:Int):fP x≠0:=by unfold fP; split <;> omega
theorem sclV_ne {T Y:Int} (hT:T≠0) (hY:Y≠0) (p:Nat×Nat):jE T Y p≠0:=Int.mul_ne_zero (Int.pow_ne_zero hT) (Int.pow_ne_zero hY)
set_option maxHeartbeats 4000000 in
theorem kP (v w u z:Value) (p:Row) (m t y:Bool×List Nat) (n:Int) (k a:Nat) (hp:Fit k p) (lp:p.length≤1000) (h1k:1≤k) (hk:k≤10000) (hm:Lim m.2) (hma:m.2.length≤a) (ht:Lim t.2) (hta:t.2.length≤a) (hy:Lim y.2) (hya:y.2.length≤a) (h1a:1≤a) (ha:a≤10000) (hn:inK .i64 n) :
  Meets Tryz.prog 17 [v,w,u,z,.int .i64 n] [(v,V p),(w,J m),(u,J t),(z,J y)] (fun r os fs=>os=[]∧∃ q,r=.tuple #[q,.int .i64 (matR (vv p) (jv m) (jv t) (jv y) n).2]∧fs=[(q,wd (matR (vv p) (jv m) (jv t) (jv y) n).1)]):=by
 have hpl:=fun y1 y2 y3=>m8 v y1 y2 y3 p m t y n k a hp lp qN hm hma ht hta hy hya ha hn
 have hnm:=fH v p (hp.mono qN) qN
 by_cases hok:sT (vv p) (jv m) (jv t) (jv y) n
 case neg =>
  rw [show planR (vv p) (jv m) (jv t) (jv y) n=(fC,1) from if_neg hok] at hpl
  refine mV Tryz.func17 ?_
  refine bA (aC (d:=J m) qM) fun b1 h1=>?_
  refine bA (aC (d:=J t) qM) fun b2 h2=>?_
  refine bA (aC (d:=J y) qM) fun b3 h3=>?_
  refine aF (d:=J m) 2 rfl h1 rfl (bM _) fun y1=>?_
  refine aF (d:=J t) 1 rfl h2 rfl (bM _) fun y2=>?_
  refine aF (d:=J y) 0 rfl h3 rfl (bM _) fun y3=>?_
  refine cF (hpl y1 y2 y3) ?_
  rintro _ _ _ ⟨rfl,q,rfl,rfl⟩
  refine aM (d:=fC) fun bp hbp=>?_
  refine aI (d:=fC) 0 rfl hbp rfl qK (aC qM) ?_
  refine dI rfl qE ?_
  rw [show matR (vv p) (jv m) (jv t) (jv y) n=([],1) from if_neg hok]
  exact fin ⟨rfl,.slice none 0 0,rfl,rfl⟩ (dS (dS (dS (dS (a7 (dM 1 _) (aH _ _))))))
 rw [show planR (vv p) (jv m) (jv t) (jv y) n=(jH (shp (dg (vv p) - 1) n.toNat) (fP (jv t)) (fP (jv y)) (jv m^n.toNat),0) from if_pos hok] at hpl
 have hres:matR (vv p) (jv m) (jv t) (jv y) n=((shp (dg (vv p) - 1) n.toNat).map fun s=>rowV (shp (dg (vv p) - 1) n.toNat) (fP (jv t)) (fP (jv y)) (matG (vv p) (jv m) n.toNat s),0):=if_pos hok
 rw [hres]
 clear hres
 have hdl:dg (vv p)≤1000:=by have:=dY (vv p); rw [cV] at this; omega
 obtain ⟨k1,k2,k3,k4⟩:=hok
 obtain ⟨j1,j2,j3,j4,j5,j6⟩:=shpR_ok k1
 obtain ⟨n,rfl⟩:∃ k:Nat,n=(k:Int):=⟨n.toNat,by omega⟩
 rw [Int.toNat_natCast] at *
 rw [show (((dg (vv p):Nat) - 1:Int)).toNat=dg (vv p) - 1 by omega] at j5
 clear j6 k1
 have hpd:(nrm (vv p)).length=dg (vv p):=rfl
 obtain ⟨d,hd⟩:∃ d,dg (vv p)=d+1:=⟨dg (vv p) - 1,by omega⟩
 rw [hd,Nat.add_sub_cancel] at hpl j5 ⊢
 have hbig:=shp_big d n
 have hnd:=shp_nodup d n
 have hmemS:∀ s,s∈shp d n→s.1≤23∧s.2≤n∧s.1≤d*(n - s.2):=fun s hs=>by
  obtain ⟨x,y⟩:=s
  have h1:=uT.1 hs
  have h2:d*(n - y)≤d*n:=Nat.mul_le_mul_left _ qN
  exact ⟨by simp only; omega,h1⟩
 have hlg:Lg (glJ ((nrm (vv p)).map cn)) (j9 (nrm (vv p))) k 24:=glJ_lg hp.szR.nrm h1k qN qE
 have hm2:sz (jv m) a:=gY hm hma
 have hshape:∀ s,s∈shp d n→∀ u v,gv (matG (vv p) (jv m) n s) u v≠0→(u,v)∈shp d n:=fun s hs u v h=>by
  have:=hmemS s hs
  exact gpw_shape (d:=d) (n:=n) (by rw [hpd]; omega) this.2.2 this.2.1 qN h
 have hgl:∀ s,s∈shp d n→∀ j,j≤s.2→Lg (toW (gpw (j9 (nrm (vv p))) (tH (jv m^(n - s.2)) s.1) j)) (gpw (j9 (nrm (vv p))) (tH (jv m^(n - s.2)) s.1) j) (23*a+1+23*(k+1)) 576:=fun s hs j hj=>by
  have h1:=hmemS s hs
  have h2:sz (jv m^(n - s.2)) (23*a+1):=(lP hm2 (n - s.2)).mono (Nat.succ_le_succ (Nat.mul_le_mul_right a qN))
  have h3:j*24≤23*24:=Nat.mul_le_mul_right _ qN
  have h4:j*(k+1)≤23*(k+1):=Nat.mul_le_mul_right _ qN
  exact (gpw_lg hlg.toW (gone_lg (n:=24) h2 qN) qE j qN).mono qN qN
 have hscl:∀ s,s∈shp d n→sz (jE (fP (jv t)) (fP (jv y)) s) (2*(23*a+1)):=fun s hs=>by
  have:=hmemS s hs
  exact sclV_sz (lst1_sz (gY ht hta) h1a) (lst1_sz (gY hy hya) h1a) ⟨this.1,by omega⟩
 have hrow:∀ s,s∈shp d n→∀ x1 x2,Meets Tryz.prog 59 [x1,x2] [(x1,jH (shp d n) (fP (jv t)) (fP (jv y)) (jv m^n)),(x2,wd (matG (vv p) (jv m) n s))] (fun r os fs=>os=[]∧fs=[(r,vd (rowV (shp d n) (fP (jv t)) (fP (jv y)) (matG (vv p) (jv m) n s)))]):=fun s hs x1 x2=>by
  have h1:Lg (toW (matG (vv p) (jv m) n s)) (matG (vv p) (jv m) n s) _ _:=hgl s hs s.2 (Nat.le_refl _)
  have h2:=slzrow_meets x1 x2 (shp d n) (fP (jv t)) (fP (jv y)) (jv m^n) (toW (matG (vv p) (jv m) n s)) _ _ hnd (fun p hp=>by have:=hmemS p hp; omega) qN (fun r hr=>⟨by have:=(h1.row r hr).1; omega,(h1.row r hr).2⟩) (by have:=h1.len; omega)
   (by rw [uI]; exact hshape s hs) qN hscl qN
  rw [uI] at h2
  exact h2
 have hpw:=fun (i:Nat) (hi:i≤n) y1=>jN y1 m i a hm hma qN qN
 have hmu:∀ s,s∈shp d n→∀ j,j<s.2→∀ x1 x2,Meets Tryz.prog 58 [x1,x2] [(x1,wd (gpw (j9 (nrm (vv p))) (tH (jv m^(n - s.2)) s.1) j)),(x2,W (glJ ((nrm (vv p)).map cn)))] (fun r os fs=>os=[]∧fs=[(r,wd (gpw (j9 (nrm (vv p))) (tH (jv m^(n - s.2)) s.1) (j+1)))]):=fun s hs j hj x1 x2 =>
  xgMul x1 x2 (hgl s hs j qN) hlg qN qE qE
 clear hgl hscl hm2 k2 k3 k4 hbig j1 hk hdl hshape hp hlg
 have hmG:∀ s,gpw (j9 (nrm (vv p))) (tH (jv m^(n - s.2)) s.1) s.2=matG (vv p) (jv m) n s:=fun _=>rfl
 generalize nrm (vv p)=L at *
 generalize hT:fP (jv t)=T at *
 generalize hY:fP (jv y)=Y at *
 generalize hMM:jv m^n=M at *
 generalize hS:shp d n=S at *
 generalize hGG:matG (vv p) (jv m) n=GG at *
 have hLl:(L.map cn).length=d+1:=by rw [List.length_map,hpd,hd]
 refine mV Tryz.func17 ?_
 refine bA (aC (d:=J m) qM) fun b1 h1=>?_
 refine bA (aC (d:=J t) qM) fun b2 h2=>?_
 refine bA (aC (d:=J y) qM) fun b3 h3=>?_
 refine aF (d:=J m) 2 rfl h1 rfl (bM _) fun y1=>?_
 refine aF (d:=J t) 1 rfl h2 rfl (bM _) fun y2=>?_
 refine aF (d:=J y) 0 rfl h3 rfl (bM _) fun y3=>?_
 refine cF (hpl y1 y2 y3) ?_
 rintro _ _ _ ⟨rfl,q,rfl,rfl⟩
 refine aM (d:=fC) fun bp hbp=>?_
 refine aI (d:=jH S T Y M) 0 rfl hbp rfl qK (aC qM) ?_
 refine cX rfl (fun h=>h rfl) ?_
 refine empty_L (size:=1) (α:=Value) Dat.one undef qE fun g0 hg0=>?_
 refine cG hnm fun pv=>?_
 refine aT (v:=pv) (n:=(L.map cn).length) qM fun _=>?_
 refine aO (X:=Nat×Value×(Nat→Value)) (fun x=>([(4,.int .i64 (n:Nat)),(6,b1),(12,bp),(14,x.2.1),(35,pv),(36,.int .i64 ((L.map cn).length:Nat)),(37,.int .i64 (x.1:Nat))],
   [o8 x.2.2 (glJ ((L.map cn).take x.1)),gJ x.2.1 x.1 x.2.2,bE bp 5 1 (fun _=>jH S T Y M),bE b1 2 1 (fun _=>J m)],[(pv,vd L)]))
  (fun x=>x.1≤(L.map cn).length∧isSl x.2.1∧∀ j,j<x.1→isSl (x.2.2 j)) (fun x=>(L.map cn).length - x.1) rfl ?_ ?_
 ·refine aU (0,g0,fun _=>undef) ⟨Nat.zero_le _,hg0,fun j hj=>absurd hj (Nat.not_lt_zero _)⟩ trivial qF ?_
  refine aA (Seals.boxAt 1 (d:=jH S T Y M) rfl rfl) (aA (aW 2 _ _) (aA (aW 2 _ _) (aA (Seals.none (o8 (fun _=>undef) []) (by simp [o8])) ?_)))
  exact aB qS
 ·rintro ⟨i,ov,vs⟩ ⟨hi,hov,hvs⟩
  simp only at hi hov hvs ⊢
  refine aD _ rfl (fun hlt=>?_) (fun hlt=>?_)
  ·have hil:i<(L.map cn).length:=by omega
   have hml:(glJ ((L.map cn).take i)).length=i:=by rw [glJ_len,List.length_take]; omega
   refine aQ (v:=pv) qM i rfl hil fun a1=>?_
   refine aX (d:=J ((L.map cn).getD i z0)) qM (bM _) fun y4=>?_
   refine aM (d:=I false []) fun bc hbc=>?_
   refine aI (d:=J ((L.map cn).getD i z0)) 0 rfl hbc rfl qK (aC qM) ?_
   refine aF (d:=J ((L.map cn).getD i z0)) 0 rfl hbc rfl (bM _) fun y5=>?_
   refine fL (size:=2) (n:=1) [y5] [J ((L.map cn).getD i z0)] rfl rfl qE qE ⟨aC qM,rfl,trivial⟩ fun r0 hr0=>?_
   refine mE (size:=1) Dat.one undef r0 qE (bW hr0.one) rfl fun l1=>?_
   have hjoin:∀ {os:List Own} {fs:List bD} (m:List Row),m.length=i→Seals (bE r0 2 1 (fun j=>[J ((L.map cn).getD i z0)].getD j (.one undef))::o8 vs m::os) fs (o8 (upv vs i r0) (m++[[(L.map cn).getD i z0]])::os) fs:=fun m hm=>by
    refine Seals.join (F:=o8 vs m) (F':=o8 (upv vs i r0) (m++[[(L.map cn).getD i z0]])) (by simp [o8]) rfl rfl (fun b (hb:b<m.length)=>⟨?_,?_,fun j _=>?_⟩) ⟨?_,?_,fun j hj=>?_⟩
    ·exact if_neg qN
    ·show ((m++[[(L.map cn).getD i z0]]).getD b []).length=(m.getD b []).length
     simp [gE,List.getElem?_append_left hb]
    ·show J (((m++[[(L.map cn).getD i z0]]).getD b []).getD j z0)=J ((m.getD b []).getD j z0)
     simp [gE,List.getElem?_append_left hb]
    ·show upv vs i r0 m.length=r0
     rw [hm]; exact if_pos rfl
    ·show ((m++[[(L.map cn).getD i z0]]).getD m.length []).length=1
     simp [gE]
    ·have hj0:j=0:=by omega
     subst hj0
     show J (((m++[[(L.map cn).getD i z0]]).getD m.length []).getD 0 z0)=_
     simp [gE]
   refine iO (size:=1) (n:=i) (el':=fun y=>Dat.one ([r0].getD y undef)) (e':=fun y=>.one (upv vs i r0 y)) 3 rfl hov (bC qM) (fun y hy=>?_) qN qN fun ov2 hov2=>?_
   ·unfold upv
    by_cases e:y<i
    ·rw [if_pos e,if_neg qN]
    ·rw [if_neg e,if_pos qN]; rfl
   by_cases h0:i=0
   ·subst h0
    refine dI rfl rfl ?_
    refine aY [0,1,2,3,4,5,6,7,8] [0,1,2,3,4,5,6,7,8] qK qK ?_
    refine aE 3 rfl hov2 0 rfl (Nat.lt_succ_self _) ?_
    refine aG 3 rfl 0 (Nat.lt_succ_self _) (u:=r0) rfl ?_
    refine dK (dN (-1) qE qE) (aA (Seals.perm (List.Perm.swap _ _ _)) (dS (hjoin [] rfl))) qS ?_
    rintro y6 _ _ ⟨rfl,rfl⟩
    refine mE (size:=2) J z0 (cn (-1)) qE (aC (v:=y6) (d:=zd (-1)) qM) rfl fun l2=>?_
    refine w8 (vs:=upv vs 0 r0) (m:=[]++[[(L.map cn).getD 0 z0]]) (x:=[cn (-1)]) 0 0 rfl (Nat.lt_succ_self _) hr0 qM qP qP fun v2 hv2=>?_
    refine aE 1 rfl hov2 0 rfl (Nat.lt_succ_self _) ?_
    refine bL (d:=.one v2) 1 rfl 0 (Nat.lt_succ_self _) rfl qK (bW hv2.one) ?_
    refine ar rfl qI ?_
    refine aU (1,ov2,upv (upv vs 0 r0) 0 v2) ⟨by simp only; omega,hov2,fun j hj=>?_⟩ (by simp only; omega) qF ?_
    ·have hj0:j=0:=by simp only at hj; omega
     subst hj0
     exact hv2
    ·rw [glJ_one qN]
     refine aA (Seals.own_cong (os:=[_,_,_,_]) 1 (fun y=>.one (upv (upv vs 0 r0) 0 v2 y)) rfl rfl fun y hy=>?_) (aB qS)
     have hy0:y=0:=by omega
     subst hy0
     rfl
   ·refine cX rfl qN ?_
    refine ar rfl qI ?_
    refine aU (i+1,ov2,upv vs i r0) ⟨by simp only; omega,hov2,fun j hj=>?_⟩ (by simp only; omega) qF ?_
    ·show isSl (upv vs i r0 j)
     unfold upv; split
     ·exact hr0
     ·exact hvs j (by simp only at hj; omega)
    ·rw [glJ_step hil h0]
     exact aA (Seals.perm (List.Perm.swap _ _ _)) (dS (aA (hjoin _ hml) (aB qS)))
  ·have hil:i=(L.map cn).length:=by omega
   subst hil
   rw [List.take_length]
   refine aS 2 rfl hbp ?_
   refine aP (d:=ShD S) 2 rfl (aZ (aK _)) (load_Sh _) fun q=>?_
   refine aT (v:=q) (n:=S.length) qM fun _=>?_
   refine aO (X:=Nat×Value) (fun x=>([(4,.int .i64 (n:Nat)),(6,b1),(12,bp),(14,ov),(17,x.2),(59,q),(60,.int .i64 (S.length:Nat)),(61,.int .i64 (x.1:Nat))],
     [jY 1 vd [] x.2 ((S.take x.1).map fun s=>rowV S T Y (GG s)),bE bp 5 1 (fun _=>jH S T Y M),bE b1 2 1 (fun _=>J m)],[(q,ShD S),(ov,W (glJ (L.map cn)))]))
    (fun x=>x.1≤S.length∧isSl x.2) (fun x=>S.length - x.1) rfl ?_ ?_
   ·refine aU (0,.slice none 0 0) ⟨Nat.zero_le _,fZ⟩ trivial qF ?_
    exact aA (Seals.madeR' (by rw [glJ_len]) hov hvs) (aA (cB _ _ 1 fun i=>vd (([]:List (List Int)).getD i [])) (aB qS))
   rintro ⟨i,xo⟩ ⟨hi,hxo⟩
   simp only at hi hxo ⊢
   refine aD _ rfl (fun hlt=>?_) (fun hlt=>?_)
   ·have his:i<S.length:=by omega
    have hin:S.getD i (0,0)∈S:=dT (0,0) his
    have hb:=hmemS _ hin
    have hmu':=hmu _ hin
    have hrow':=hrow _ hin
    have hmG':=hmG (S.getD i (0,0))
    have htk:(S.take (i+1)).map (fun s=>rowV S T Y (GG s))=(S.take i).map (fun s=>rowV S T Y (GG s))++[rowV S T Y (GG (S.getD i (0,0)))]:=by
     rw [List.take_add_one,List.getElem?_eq_getElem his,List.map_append,gE,List.getElem?_eq_getElem his]; rfl
    have htl:((S.take i).map fun s=>rowV S T Y (GG s)).length=i:=by rw [List.length_map,List.length_take]; omega
    refine aQ (v:=q) qM i rfl his fun a1=>?_
    refine aX (d:=spE (S.getD i (0,0))) qM (load_sp _) fun a2=>?_
    generalize hRR:rowV S T Y (GG (S.getD i (0,0)))=RR at *
    generalize hgs:GG (S.getD i (0,0))=gs at *
    generalize S.getD i (0,0)=pp at *
    obtain ⟨p1,p2⟩:=pp
    simp only at hb hmu' hmG'
    refine aM (d:=jD 0 0) fun bq hbq=>?_
    refine aI (d:=jD (p1:Nat) (p2:Nat)) 0 rfl hbq rfl qK (aC (d:=spE (p1,p2)) qM) ?_
    refine fA hbq 0 rfl qE ?_
    refine aJ 0 rfl (aZ (aK _)) ?_
    refine ar (n:=((p1+1:Nat):Int)) (by simp [arZ]) qI ?_
    have tz22:m4 Tryz.prog 22 (vd []):=inferInstanceAs (m4 _ _ (.sl 2 0 fun i=>J (([]:Row).getD i z0)))
    refine eF (t:=56) (d:=vd []) (p1+1) rfl rfl qN qN fun gv0 hgv0=>?_
    refine aY [0,1,2,3,4,5,6,7,8,9,10,11] [0,1,2,3,4,5,6,7,8,9,10,11] qK qK ?_
    refine fA hbq 0 rfl qE ?_
    refine aJ 1 rfl (aZ (aK _)) ?_
    refine aF (d:=J m) 4 rfl h1 rfl (bM _) fun y4=>?_
    refine fA hbq 1 rfl qE ?_
    refine aJ 1 rfl (aR (aK _)) ?_
    refine ar (n:=((n - p2:Nat):Int)) (by simp only [arZ,Option.some.injEq]; omega) qI ?_
    refine cG (hpw (n - p2) qN y4) fun y5=>?_
    refine mE (size:=2) J z0 (cn (jv m^(n - p2))) qE (aC (v:=y5) (d:=zd (jv m^(n - p2))) qM) rfl fun l2=>?_
    refine aE 0 rfl hgv0 p1 rfl (Nat.lt_succ_self _) ?_
    refine bL (d:=vd [jv m^(n - p2)]) 0 rfl p1 (Nat.lt_succ_self _) rfl qK (aC qM) ?_
    refine fA hbq 1 rfl qE ?_
    refine aJ 1 rfl (aR (aK _)) ?_
    refine aO (X:=Nat×Value) (fun x=>([(4,.int .i64 (n:Nat)),(6,b1),(12,bp),(14,ov),(17,xo),(20,x.2),(59,q),(60,.int .i64 (S.length:Nat)),(61,.int .i64 (i:Nat)),(81,.int .i64 (p2:Nat)),(82,.int .i64 (x.1:Nat))],
      [jY 1 vd [] xo ((S.take i).map fun s=>rowV S T Y (GG s)),bE bp 5 1 (fun _=>jH S T Y M),bE b1 2 1 (fun _=>J m)],[(x.2,wd (gpw (j9 L) (tH (jv m^(n - p2)) p1) x.1)),(q,ShD S),(ov,W (glJ (L.map cn)))]))
     (fun x=>x.1≤p2) (fun x=>p2 - x.1) rfl ?_ ?_
    ·refine aU (0,gv0) (Nat.zero_le _) trivial qF ?_
     have hgl:(tH (jv m^(n - p2)) p1).length=p1+1:=by simp [tH]
     refine aA (Seals.own_cong (os:=[_,_,_,_,_]) 0 (n':=(tH (jv m^(n - p2)) p1).length) (fun y=>vd ((tH (jv m^(n - p2)) p1).getD y [])) rfl hgl.symm fun y hy=>?_) ?_
     ·unfold upd
      by_cases e:y=p1
      ·subst e
       rw [if_pos rfl]
       simp [tH,gE]
      ·rw [if_neg e]
       have hlt:y<p1:=by omega
       have:(tH (jv m^(n - p2)) p1).getD y []=[]:=by
        unfold tH
        rw [gE,List.getElem?_append_left (by simpa using hlt)]; simp [hlt]
       rw [this]
     ·refine aA (Seals.L (f:=vd) (z:=[]) (l:=tH (jv m^(n - p2)) p1) 0 rfl hgv0) ?_
      refine aA (aW 0 _ _) ?_
      exact a7 (Knw.cast (bC (List.Mem.head _)) (LD_wd _)) (aB qS)
    rintro ⟨j,gx⟩ hj
    simp only at hj ⊢
    refine aD _ rfl (fun hlt2=>?_) (fun hlt2=>?_)
    ·refine cG (hmu' j qN gx ov) fun y6=>?_
     refine ar rfl qI ?_
     exact aU (j+1,y6) (by simp only; omega) (by simp only; omega) qF (aB qS)
    ·have hjp:j=p2:=by omega
     subst hjp
     rw [hmG']
     refine aF (d:=jH S T Y M) 1 rfl hbp rfl (qW _ _ _ _) fun y7=>?_
     refine cG (hrow' y7 gx) fun y8=>?_
     refine mE (size:=1) (e:=22) vd [] RR qE (aC (v:=y8) (d:=vd RR) qM) rfl fun l3=>?_
     refine gX (size:=1) (e:=22) (f:=vd) (z:=[]) (l:=(S.take i).map fun s=>rowV S T Y (GG s)) (m:=[RR]) 0 rfl hxo (bC qM) (by rw [htl]; simp only [List.length_cons,List.length_nil]; omega) (by rw [htl]; simp only [List.length_cons,List.length_nil]; omega) fun xo2 hxo2=>?_
     refine ar rfl qI ?_
     refine aU (i+1,xo2) ⟨by simp only; omega,hxo2⟩ (by simp only; omega) qF ?_
     simp only
     rw [htk]
     exact aB qS
   ·have his:i=S.length:=by omega
    subst his
    rw [List.take_length]
    refine fin ⟨rfl,xo,rfl,rfl⟩ (aA (Seals.L (f:=vd) (z:=[]) 0 rfl hxo) (dS (aA (aW 0 _ _) ?_)))
    exact a7 (Knw.cast (bC (List.Mem.head _)) (LD_wd _)) (aH _ _)
def gL (x:Int):Int×Bool:=if -9223372036854775808≤x∧x<9223372036854775808 then (x,true) else (0,false)
theorem wrapI64 (n:Int):IntKind.i64.wrap n=(n+9223372036854775808)%18446744073709551616 - 9223372036854775808:=by
 simp [IntKind.wrap,IntKind.bits,IntKind.signed]
 split <;> omega
theorem lims_get0 {n:Nat} (h:n≠0):(bT n).getD 0 0=n%18446744073709551616:=by rw [i8 h]; rfl
theorem lims_big {n:Nat} (h:n≠0):(1<(bT n).length)↔18446744073709551616≤n:=by
 rw [i8 h,List.length_cons]
 constructor
 ·intro h1
  refine Nat.not_lt.1 fun h2=>?_
  rw [Nat.div_eq_of_lt h2,bR] at h1
  simp at h1
 ·intro h1
  have:n/18446744073709551616≠0:=by omega
  rw [i8 this]; simp
theorem zSmall_meets (v:Value) (x:Bool×List Nat) (hx:Lim x.2) (lx:x.2.length≤137438953472) :
  Meets Tryz.prog 65 [v] [(v,J x)] (fun r os fs=>os=[]∧fs=[]∧r=.tuple #[.int .i64 (gL (jv x)).1,.bool (gL (jv x)).2]):=by
 have hnm:=fun y=>iM y x.2 hx qN
 have hjv:jv x=if x.1 then -(nv x.2:Int) else (nv x.2:Int):=rfl
 generalize hN:nv x.2=N at *
 obtain ⟨b,hb⟩:∃ b,x.1=b:=⟨_,rfl⟩
 rw [hb] at hjv
 refine mV Tryz.func65 ?_
 refine bA (aC (d:=J x) qM) fun b1 h1=>?_
 refine aS 0 rfl h1 ?_
 refine aP (d:=U x.2) 0 rfl (aR (aK _)) (dH _) fun y1=>?_
 refine cG (hnm y1) fun y2=>?_
 refine aT (v:=y2) (n:=(bT N).length) qM fun _=>?_
 refine aD _ rfl (fun h0=>?_) (fun h0=>?_)
 ·have hN0:N=0:=iI.1 (List.length_eq_zero_iff.1 qN)
  have:jv x=0:=by rw [hjv,hN0]; cases b <;> rfl
  rw [this]
  exact fin ⟨rfl,rfl,rfl⟩ (dS (aH _ _))
 have hN0:N≠0:=fun e=>h0 (by rw [e,bR]; rfl)
 have hbig:=lims_big hN0
 have hg0:=lims_get0 hN0
 have hll:0<(bT N).length:=by rw [i8 hN0]; simp
 refine aQ (v:=y2) qM 0 rfl hll fun a1=>?_
 refine bO (u:=.int .u64 ((bT N).getD 0 0:Nat)) qM ?_
 rw [hg0]
 obtain ⟨w1,hw1⟩:∃ w1,w1=IntKind.i64.wrap ((N%18446744073709551616:Nat):Int):=⟨_,rfl⟩
 refine dW ⟨_,Tryz.underlying122⟩ Tryz.underlying2 w1 hw1.symm ?_
 rw [wrapI64] at hw1
 refine aS 0 rfl h1 ?_
 refine aJ 0 rfl (aZ (aK _)) ?_
 rw [hb]
 have hfin:∀ w2:Int,(b=true→w2=(-w1+9223372036854775808)%18446744073709551616 - 9223372036854775808)→(b=false→w2=w1) →
   ((gL (jv x)).2=false→(gL (jv x)).1=0)∧((gL (jv x)).2=true→(gL (jv x)).1=w2)∧((gL (jv x)).2=false↔1<(bT N).length∨(decide (w2<0))≠b):=fun w2 e1 e2=>by
  rw [hbig,hjv]
  unfold gL
  cases b
  ·have e2:=e2 rfl
   simp only [Bool.false_eq_true,if_false]
   split
   ·rename_i h
    refine ⟨fun h=>by simp at h,fun _=>by simp only; omega,⟨fun h=>by simp at h,fun h=>?_⟩⟩
    rcases h with h | h
    ·omega
    ·rw [Ne,decide_eq_false_iff_not] at h; omega
   ·rename_i h
    refine ⟨fun _=>rfl,fun h=>by simp at h,⟨fun _=>?_,fun _=>rfl⟩⟩
    by_cases g:18446744073709551616≤N
    ·exact .inl g
    ·refine .inr ?_
     rw [Ne,decide_eq_false_iff_not]; omega
  ·have e1:=e1 rfl
   simp only [if_true]
   split
   ·rename_i h
    refine ⟨fun h=>by simp at h,fun _=>by simp only; omega,⟨fun h=>by simp at h,fun h=>?_⟩⟩
    rcases h with h | h
    ·omega
    ·rw [Ne,decide_eq_true_iff] at h; omega
   ·rename_i h
    refine ⟨fun _=>rfl,fun h=>by simp at h,⟨fun _=>?_,fun _=>rfl⟩⟩
    by_cases g:18446744073709551616≤N
    ·exact .inl g
    ·refine .inr ?_
     rw [Ne,decide_eq_true_iff]; omega
 cases b
 ·obtain ⟨f1,f2,f3⟩:=hfin w1 (fun h=>by simp at h) fun _=>rfl
  refine aT (v:=y2) (n:=(bT N).length) qM fun _=>?_
  refine aD _ rfl (fun hl=>?_) (fun hl=>?_)
  ·
   have hs:(gL (jv x)).2=false:=f3.2 (.inl qN)
   rw [f1 hs,hs]
   exact fin ⟨rfl,rfl,rfl⟩ (dS (aH _ _))
  refine aD _ rfl (fun hs1=>?_) (fun hs1=>?_)
  ·refine aS 0 rfl h1 ?_
   refine aJ 0 rfl (aZ (aK _)) ?_
   rw [hb]
   refine iD (fun hne=>?_) (fun hne=>?_)
   ·
    have hs:(gL (jv x)).2=false:=f3.2 (.inr fun e=>hne ((decide_eq_true hs1).symm.trans e))
    rw [f1 hs,hs]
    exact fin ⟨rfl,rfl,rfl⟩ (dS (aH _ _))
   ·
    have hs:(gL (jv x)).2=true:=by
     cases e:(gL (jv x)).2 with
     | true=>rfl
     | false=>exact absurd (f3.1 e) (fun h=>h.elim (fun h=>hl qN) fun h=>h ((decide_eq_true hs1).trans hne))
    rw [f2 hs,hs]
    exact fin ⟨rfl,rfl,rfl⟩ (dS (aH _ _))
  ·refine aS 0 rfl h1 ?_
   refine aJ 0 rfl (aZ (aK _)) ?_
   rw [hb]
   refine iD (fun hne=>?_) (fun hne=>?_)
   ·
    have hs:(gL (jv x)).2=false:=f3.2 (.inr fun e=>hne ((decide_eq_false hs1).symm.trans e))
    rw [f1 hs,hs]
    exact fin ⟨rfl,rfl,rfl⟩ (dS (aH _ _))
   ·
    have hs:(gL (jv x)).2=true:=by
     cases e:(gL (jv x)).2 with
     | true=>rfl
     | false=>exact absurd (f3.1 e) (fun h=>h.elim (fun h=>hl qN) fun h=>h ((decide_eq_false hs1).trans hne))
    rw [f2 hs,hs]
    exact fin ⟨rfl,rfl,rfl⟩ (dS (aH _ _))
 ·refine un_neg (m:=(-w1+9223372036854775808)%18446744073709551616 - 9223372036854775808) (by rw [wrapI64,Int.zero_sub]) ?_
  obtain ⟨f1,f2,f3⟩:=hfin ((-w1+9223372036854775808)%18446744073709551616 - 9223372036854775808) (fun _=>rfl) fun h=>by simp at h
  generalize (-w1+9223372036854775808)%18446744073709551616 - 9223372036854775808=w2 at *
  refine aT (v:=y2) (n:=(bT N).length) qM fun _=>?_
  refine aD _ rfl (fun hl=>?_) (fun hl=>?_)
  ·
   have hs:(gL (jv x)).2=false:=f3.2 (.inl qN)
   rw [f1 hs,hs]
   exact fin ⟨rfl,rfl,rfl⟩ (dS (aH _ _))
  refine aD _ rfl (fun hs1=>?_) (fun hs1=>?_)
  ·refine aS 0 rfl h1 ?_
   refine aJ 0 rfl (aZ (aK _)) ?_
   rw [hb]
   refine iD (fun hne=>?_) (fun hne=>?_)
   ·
    have hs:(gL (jv x)).2=false:=f3.2 (.inr fun e=>hne ((decide_eq_true hs1).symm.trans e))
    rw [f1 hs,hs]
    exact fin ⟨rfl,rfl,rfl⟩ (dS (aH _ _))
   ·
    have hs:(gL (jv x)).2=true:=by
     cases e:(gL (jv x)).2 with
     | true=>rfl
     | false=>exact absurd (f3.1 e) (fun h=>h.elim (fun h=>hl qN) fun h=>h ((decide_eq_true hs1).trans hne))
    rw [f2 hs,hs]
    exact fin ⟨rfl,rfl,rfl⟩ (dS (aH _ _))
  ·refine aS 0 rfl h1 ?_
   refine aJ 0 rfl (aZ (aK _)) ?_
   rw [hb]
   refine iD (fun hne=>?_) (fun hne=>?_)
   ·
    have hs:(gL (jv x)).2=false:=f3.2 (.inr fun e=>hne ((decide_eq_false hs1).symm.trans e))
    rw [f1 hs,hs]
    exact fin ⟨rfl,rfl,rfl⟩ (dS (aH _ _))
   ·
    have hs:(gL (jv x)).2=true:=by
     cases e:(gL (jv x)).2 with
     | true=>rfl
     | false=>exact absurd (f3.1 e) (fun h=>h.elim (fun h=>hl qN) fun h=>h ((decide_eq_false hs1).trans hne))
    rw [f2 hs,hs]
    exact fin ⟨rfl,rfl,rfl⟩ (dS (aH _ _))
theorem gFs_get {s:List (Nat×Nat)} {T Y:Int} {R:List Int} {u v:Nat}:∀ k,(∃ j,j<k∧gFs s T Y R k u v=R.getD j 0/jE T Y (u,v)∧s.getD j (0,0)=(u,v))∨gFs s T Y R k u v=0
 | 0=>.inr rfl
 | k+1=>by
  rw [gFs]
  split
  ·rename_i h
   exact .inl ⟨k,by omega,rfl,h⟩
  ·rcases gFs_get (s:=s) (T:=T) (Y:=Y) (R:=R) (u:=u) (v:=v) k with ⟨j,h1,h2,h3⟩ | h
   ·exact .inl ⟨j,by omega,h2,h3⟩
   ·exact .inr h
theorem gridV_eq {s:List (Nat×Nat)} {T Y:Int} {R:List Int} {n:Nat} (hb:∀ p,p∈s→p.1<n∧p.2<n) (hn:n≤101):lI s T Y R=gof (gFs s T Y R s.length) n n :=
 (gridV_gn _ _ _ _).ext (gof_gn _ _ _) fun u v=>by
  rw [uC fun p hp=>by have:=hb p hp; omega,gof_gv]
  split
  ·rfl
  ·rename_i h
   refine gFs_out _ fun j hj e=>h ?_
   have:=hb _ (dT (0,0) hj)
   rw [e] at this
   exact this
theorem gridV_lg {s:List (Nat×Nat)} {T Y:Int} {R:List Int} {n c:Nat} (hb:∀ p,p∈s→p.1<n∧p.2<n) (hn:n≤101) (hR:szR c R):Lg (toW (lI s T Y R)) (lI s T Y R) c n:=by
 rw [gridV_eq hb hn]
 refine Lg.gof (fun i j=>?_) (Nat.le_refl _) (Nat.le_refl _)
 rcases gFs_get (s:=s) (T:=T) (Y:=Y) (R:=R) (u:=i) (v:=j) s.length with ⟨j,_,h2,_⟩ | h
 ·rw [h2]; exact pW (hR.get j)
 ·rw [h]; exact jZ _
theorem asum_mem {R:List Int} {x:Int} (h:x∈R):(x.natAbs:Int)≤oI R:=by
 induction R with
 | nil=>simp at h
 | cons y l ih =>
  have h1:=asum_nn l
  simp only [oI]
  rcases List.mem_cons.1 h with rfl | h
  ·omega
  ·have:=ih h; omega
theorem short_szR {R:List Int} {M:Int} {c:Nat} (h:oI R<M) (hM:sz M c):szR c R:=fun x hx=>by
 have:=asum_mem hx
 unfold sz at *
 omega
def tJ (s:List (Nat×Nat)) (T Y M:Int) (R:List (List Int)):List Int×Bool :=
 if oI (R.getD 0 [])<M∧oI (R.getD 1 [])<M then (gel (lI s T Y (R.getD 0 [])) (lI s T Y (R.getD 1 [])),decide (0<dg (gel (lI s T Y (R.getD 0 [])) (lI s T Y (R.getD 1 []))))) else ([],false)
theorem slzfound_meets (v w:Value) (s:List (Nat×Nat)) (T Y M:Int) (R:List (List Int)) (a b c:Nat) (hb:∀ p,p∈s→p.1<24∧p.2<24) (ls:s.length≤100) (h2:2≤R.length) (lR:∀ i,i<2→(R.getD i []).length=s.length∧szR a (R.getD i [])) (ha:a≤100000000)
  (hz:∀ p,p∈s→sz (jE T Y p) b∧jE T Y p≠0) (hbb:b≤100000000) (hM:sz M c) (hc:c≤100000) :
  Meets Tryz.prog 66 [v,w] [(v,jH s T Y M),(w,wd R)] (fun r os fs=>os=[]∧∃ q,r=.tuple #[q,.bool (tJ s T Y M R).2]∧fs=[(q,vd (tJ s T Y M R).1)]):=by
 have hg0:=fun x1 x2=>p3 x1 x2 s T Y M (R.getD 0 []) a b c (fun p hp=>by have:=hb p hp; omega) ls (lR 0 qN).1 (lR 0 qN).2 ha hz hbb hM qN
 have hg1:=fun x1 x2=>p3 x1 x2 s T Y M (R.getD 1 []) a b c (fun p hp=>by have:=hb p hp; omega) ls (lR 1 qN).1 (lR 1 qN).2 ha hz hbb hM qN
 refine mV Tryz.func66 ?_
 refine bA (aC (d:=jH s T Y M) qM) fun bp hbp=>?_
 refine aY [0,1,2,3,4,5,6,7,8,9] [0,1,2,3,4,5,6,8,7,9] qK qK ?_
 refine aF (d:=jH s T Y M) 0 rfl hbp rfl (qW _ _ _ _) fun y1=>?_
 refine uA qM 0 rfl qN fun a1=>?_
 refine aX (d:=vd (R.getD 0 [])) qM (iZ _) fun y2=>?_
 refine cF (hg0 y1 y2) ?_
 rintro _ _ _ ⟨rfl,q1,rfl,rfl⟩
 refine aY [0,1,2,3,4,5,6,7,8,9] [0,1,2,3,4,5,6,8,7,9] qK qK ?_
 refine aF (d:=jH s T Y M) 0 rfl hbp rfl (qW _ _ _ _) fun y1=>?_
 refine uA qM 1 rfl qN fun a1=>?_
 refine aX (d:=vd (R.getD 1 [])) qM (iZ _) fun y2=>?_
 refine cF (hg1 y1 y2) ?_
 rintro _ _ _ ⟨rfl,q2,rfl,rfl⟩
 by_cases k1:oI (R.getD 0 [])<M
 case neg =>
  rw [decide_eq_false k1]
  rw [show tJ s T Y M R=([],false) from if_neg fun h=>k1 h.1]
  exact fin ⟨rfl,.slice none 0 0,rfl,rfl⟩ (dS (a7 (dM 2 _) (aH _ _)))
 by_cases k2:oI (R.getD 1 [])<M
 case neg =>
  rw [decide_eq_true k1,decide_eq_false k2]
  rw [show tJ s T Y M R=([],false) from if_neg fun h=>k2 h.2]
  exact fin ⟨rfl,.slice none 0 0,rfl,rfl⟩ (dS (a7 (dM 2 _) (aH _ _)))
 rw [decide_eq_true k1,decide_eq_true k2]
 have l0:=gridV_lg (T:=T) (Y:=Y) (n:=24) hb qE (short_szR k1 hM)
 have l1:=gridV_lg (T:=T) (Y:=Y) (n:=24) hb qE (short_szR k2 hM)
 have hel:=fun y1 y2=>xgElim y1 y2 l0 l1 qN qE qE qE (by unfold pdB pdk; omega)
 have hsz:=(l0.el l1 qE).sz
 have hdd:=fun y1=>tY y1 ((gel (lI s T Y (R.getD 0 [])) (lI s T Y (R.getD 1 []))).map cn) (hsz.fit.mono (by unfold pdk; omega))
 rw [fR] at hdd
 rw [show tJ s T Y M R=_ from if_pos ⟨k1,k2⟩]
 generalize gel (lI s T Y (R.getD 0 [])) (lI s T Y (R.getD 1 []))=E at *
 refine cG (hel q1 q2) fun e1=>?_
 refine cH (hdd e1) ?_
 refine aD _ rfl (fun hl=>?_) (fun hl=>?_)
 ·rw [decide_eq_true (show 0<dg E by omega)]
  exact fin ⟨rfl,e1,rfl,rfl⟩ (dS (aB qS))
 ·rw [decide_eq_false (show ¬ 0<dg E by omega)]
  exact fin ⟨rfl,e1,rfl,rfl⟩ (dS (aB qS))
def allL (P:List Int) (m t y:Int) (n:Nat):List Int:=(lst n fun i=>(i:Int) - t).filter fun x=>near (pev P x) m y
def allR (P:List Int) (m t y:Int):List Int×Int:=if m<1∨t<0∨y<0 then ([],1) else if 4096<t then ([],3) else (allL P m t y (2*t.toNat+1),0)
theorem allL_succ (P:List Int) (m t y:Int) (n:Nat):allL P m t y (n+1)=if near (pev P ((n:Int) - t)) m y=true then allL P m t y n++[(n:Int) - t] else allL P m t y n:=by
 unfold allL
 rw [lst_snoc,List.filter_append]
 split
 ·rename_i h; simp [h]
 ·rename_i h; simp [h]
theorem allL_len (P:List Int) (m t y:Int) (n:Nat):(allL P m t y n).length≤n:=Nat.le_trans (List.length_filter_le _ _) (by rw [eC]; omega)
theorem sgn_lt1 {x:Int}:x.sign<1↔x<1:=by
 rcases Int.lt_trichotomy x 0 with g | g | g
 ·rw [eO g]; omega
 ·rw [g]; simp
 ·rw [eN g]; omega
theorem slzAll_meets (v w u z:Value) (p:Row) (m t y:Bool×List Nat) (k a:Nat) (hp:Fit k p) (lp:p.length≤1000) (hk:k≤1000000) (hm:Lim m.2) (hma:m.2.length≤a) (ht:Lim t.2) (hta:t.2.length≤a) (hy:Lim y.2) (hya:y.2.length≤a) (ha:a≤1000000) :
  Meets Tryz.prog 24 [v,w,u,z] [(v,V p),(w,J m),(u,J t),(z,J y)] (fun r os fs=>os=[]∧∃ q,r=.tuple #[q,.int .i64 (allR (vv p) (jv m) (jv t) (jv y)).2]∧fs=[(q,vd (allR (vv p) (jv m) (jv t) (jv y)).1)]):=by
 have hsm:∀ z,Meets Tryz.prog 51 [z] [(z,J m)] (fun r os fs=>os=[]∧fs=[]∧r=.int .i64 (jv m).sign):=fun z=>cY z m.1 m.2 hm qN
 have hst:∀ z,Meets Tryz.prog 51 [z] [(z,J t)] (fun r os fs=>os=[]∧fs=[]∧r=.int .i64 (jv t).sign):=fun z=>cY z t.1 t.2 ht qN
 have hsy:∀ z,Meets Tryz.prog 51 [z] [(z,J y)] (fun r os fs=>os=[]∧fs=[]∧r=.int .i64 (jv y).sign):=fun z=>cY z y.1 y.2 hy qN
 have hsl:=fun z=>zSmall_meets z t ht qN
 refine mV Tryz.func24 ?_
 refine bA (aC (d:=J m) qM) fun b1 h1=>?_
 refine bA (aC (d:=J t) qM) fun b2 h2=>?_
 refine bA (aC (d:=J y) qM) fun b3 h3=>?_
 refine aF (d:=J m) 2 rfl h1 rfl (bM _) fun y1=>?_
 refine cH (hsm y1) ?_
 refine aD _ rfl (fun g1=>?_) (fun g1=>?_)
 ·
  rw [show allR (vv p) (jv m) (jv t) (jv y)=([],1) from if_pos (.inl (sgn_lt1.1 g1))]
  exact fin ⟨rfl,.slice none 0 0,rfl,rfl⟩ (dS (dS (dS (a7 (dM 2 _) (aH _ _)))))
 refine aF (d:=J t) 1 rfl h2 rfl (bM _) fun y2=>?_
 refine cH (hst y2) ?_
 refine aD _ rfl (fun g2=>?_) (fun g2=>?_)
 ·
  rw [show allR (vv p) (jv m) (jv t) (jv y)=([],1) from if_pos (.inr (.inl (kG.1 g2)))]
  exact fin ⟨rfl,.slice none 0 0,rfl,rfl⟩ (dS (dS (dS (a7 (dM 2 _) (aH _ _)))))
 refine aF (d:=J y) 0 rfl h3 rfl (bM _) fun y3=>?_
 refine cH (hsy y3) ?_
 refine aD _ rfl (fun g3=>?_) (fun g3=>?_)
 ·
  rw [show allR (vv p) (jv m) (jv t) (jv y)=([],1) from if_pos (.inr (.inr (kG.1 g3)))]
  exact fin ⟨rfl,.slice none 0 0,rfl,rfl⟩ (dS (dS (dS (a7 (dM 2 _) (aH _ _)))))
 have hok:¬ (jv m<1∨jv t<0∨jv y<0):=fun h=>h.elim (fun h=>g1 (sgn_lt1.2 h)) fun h=>h.elim (fun h=>g2 (kG.2 h)) fun h=>g3 (kG.2 h)
 clear g1 g2 g3 hsm hst hsy
 refine aF (d:=J t) 1 rfl h2 rfl (bM _) fun y4=>?_
 refine cH (hsl y4) ?_
 by_cases hsmall : -9223372036854775808≤jv t∧jv t<9223372036854775808
 case neg =>
  rw [show gL (jv t)=(0,false) from if_neg hsmall]
  rw [show allR (vv p) (jv m) (jv t) (jv y)=([],3) from by rw [allR,if_neg hok,if_pos qN]]
  exact fin ⟨rfl,.slice none 0 0,rfl,rfl⟩ (dS (dS (dS (a7 (dM 2 _) (aH _ _)))))
 rw [show gL (jv t)=(jv t,true) from if_pos hsmall]
 refine aD _ rfl (fun g1=>?_) (fun g1=>?_)
 ·
  rw [show allR (vv p) (jv m) (jv t) (jv y)=([],3) from by rw [allR,if_neg hok,if_pos g1]]
  exact fin ⟨rfl,.slice none 0 0,rfl,rfl⟩ (dS (dS (dS (a7 (dM 2 _) (aH _ _)))))
 rw [show allR (vv p) (jv m) (jv t) (jv y)=(allL (vv p) (jv m) (jv t) (jv y) (2*(jv t).toNat+1),0) by rw [allR,if_neg hok,if_neg g1]]
 obtain ⟨n,hn⟩:∃ n:Nat,jv t=n:=⟨(jv t).toNat,by omega⟩
 rw [hn] at hsmall g1 hok ⊢
 rw [Int.toNat_natCast]
 have zx:∀ i:Nat,i<2*n+1→sz ((i:Int) - n) 1:=fun i hi=>sz_num _ qN
 have hv:=fun (i:Nat) (hi:i<2*n+1) z=>pValueJ v z p (cn ((i:Int) - n)) k 1 hp (a0 _) (zx i hi).len qN qN
 have zv:∀ i:Nat,i<2*n+1→sz (pev (vv p) ((i:Int) - n)) 1073741824:=fun i hi=>(ev_sz hp.szR (zx i hi)).mono (by rw [cV]; omega)
 have hwi:=fun (i:Nat) (hi:i<2*n+1) y1 y2 y3=>kO y1 y2 y3 _ m y _ (zv i hi) qE hm qN hy qN qN
 have hal:=fun i=>allL_len (vv p) (jv m) (n:Int) (jv y) i
 refine ar (n:=((2*n:Nat):Int)) (by simp only [arZ,Option.some.injEq]; omega) qI ?_
 refine ar (n:=((2*n+1:Nat):Int)) (by simp only [arZ,Option.some.injEq]; omega) qI ?_
 refine aO (X:=Nat×Value) (fun x=>([(0,v),(5,b1),(7,b3),(10,.int .i64 (n:Nat)),(12,x.2),(41,.int .i64 ((2*n+1:Nat):Int)),(42,.int .i64 (x.1:Nat))],
   [jY 2 J z0 x.2 ((allL (vv p) (jv m) (n:Int) (jv y) x.1).map cn),bE b3 2 1 (fun _=>J y),bE b1 2 1 (fun _=>J m)],[(v,V p)]))
  (fun x=>x.1≤2*n+1∧isSl x.2) (fun x=>2*n+1 - x.1) rfl ?_ ?_
 ·refine aU (0,.slice none 0 0) ⟨Nat.zero_le _,fZ⟩ trivial qF ?_
  exact aA (aW 1 _ _) (aA (cB _ _ 2 fun i=>J (([]:Row).getD i z0)) (aB qS))
 rintro ⟨i,ov⟩ ⟨hi,hov⟩
 simp only at hi hov ⊢
 have hli:((allL (vv p) (jv m) (n:Int) (jv y) i).map cn).length≤i:=by rw [List.length_map]; exact hal i
 refine aD _ rfl (fun hlt=>?_) (fun hlt=>?_)
 ·have hin:i<2*n+1:=by omega
  have hsu:=allL_succ (vv p) (jv m) (n:Int) (jv y) i
  have hv':=hv i hin
  have hw':=hwi i hin
  rw [eR] at hv'
  refine ar rfl qI ?_
  refine cG (dN ((i:Int) - n) qN qN) fun y5=>?_
  generalize pev (vv p) ((i:Int) - n)=Z at *
  generalize (i:Int) - n=X at *
  refine aM (d:=I false []) fun bx hbx=>?_
  refine aI (d:=zd X) 0 rfl hbx rfl qK (aC (v:=y5) qM) ?_
  refine aY [0,1,3,4,2,5] [0,1,2,3,4,5] qK qK ?_
  refine aF (d:=zd X) 0 rfl hbx rfl (aN _ _) fun y6=>?_
  refine aF (d:=J m) 3 rfl h1 rfl (bM _) fun y7=>?_
  refine aF (d:=J y) 2 rfl h3 rfl (bM _) fun y8=>?_
  refine cG (hv' y6) fun y9=>?_
  refine cH (hw' y9 y7 y8) ?_
  cases hne:near Z (jv m) (jv y) with
  | true =>
   rw [if_pos hne] at hsu
   refine aF (d:=zd X) 0 rfl hbx rfl (aN _ _) fun y10=>?_
   refine mE (size:=2) J z0 (cn X) qE (aC (v:=y10) (d:=zd X) qM) rfl fun l1=>?_
   refine gX 1 rfl hov (bC qM) (by simp only [List.length_cons,List.length_nil]; omega) (by simp only [List.length_cons,List.length_nil]; omega) fun o2 ho2=>?_
   refine ar rfl qI ?_
   refine aU (i+1,o2) ⟨by simp only; omega,ho2⟩ (by simp only; omega) qF ?_
   simp only [hsu,List.map_append,List.map_cons,List.map_nil]
   exact dS (aB qS)
  | false =>
   rw [if_neg (by rw [hne]; simp)] at hsu
   refine ar rfl qI ?_
   refine aU (i+1,ov) ⟨by simp only; omega,hov⟩ (by simp only; omega) qF ?_
   simp only [hsu]
   exact dS (aB qS)
 ·have hin:i=2*n+1:=by omega
  subst hin
  refine fin ⟨rfl,ov,rfl,rfl⟩ (aA (dC hov) (dS (dS (aB qS))))
instance (l:List Int):Decidable (Nm l):=inferInstanceAs (Decidable (_=_))
instance (G:List (List Int)):Decidable (Gn G):=inferInstanceAs (Decidable (_∧_))
section
variable {A B:List Row} {G H:List (List Int)} {k n:Nat}
end
theorem rAbsZ (v:Value) (x:Int) (a:Nat) (hx:sz x a) (ha:a≤137438953472) :
  Meets Tryz.prog 40 [v] [(v,zd x)] (fun r os fs=>os=[]∧fs=[(r,zd (x.natAbs:Nat))]):=by
 have h:=rAbs_meets v (decide (x<0)) (bT x.natAbs) (a0 _) (Nat.le_trans hx.len qN)
 rw [nC] at h
 exact h
theorem ev_repl (d:Nat) (l:List Int) (x:Int):pev (List.replicate d 0++l) x=x^d*pev l x:=by
 induction d with
 | zero=>simp
 | succ d ih=>rw [List.replicate_succ,List.cons_append,pev,ih,Int.pow_succ]; grind
theorem sS (v:Value) (x:Bool×List Nat) (a:Nat) (hx:Lim x.2) (hxa:x.2.length≤a) (ha:a≤1000000) :
  Meets Tryz.prog 90 [v] [(v,J x)] (fun r os fs=>os=[]∧fs=[(r,J (oR x))]):=by
 have hs:∀ z,Meets Tryz.prog 44 [z] [(z,J x)] (fun r os fs=>os=[]∧fs=[]∧r=.int .i64 (jv x).sign):=fun z=>uY z x.1 x.2 hx qN
 refine mV Tryz.func90 ?_
 refine bA (aC (d:=J x) qM) fun b1 h1=>?_
 refine aM (d:=I false []) fun o ho=>?_
 refine aF (d:=J x) 1 rfl h1 rfl (bM _) fun y1=>?_
 refine cH (hs y1) ?_
 refine aD _ rfl (fun h0=>?_) (fun h0=>?_)
 ·rw [show oR x=cn 1 from if_pos (sgn0.1 h0)]
  refine cG (p8 1 qE qE) fun y2=>?_
  refine aI (d:=zd 1) 0 rfl ho rfl qK (aC (v:=y2) qM) ?_
  refine aF (d:=zd 1) 0 rfl ho rfl (aN _ _) fun r=>?_
  exact fin ⟨rfl,rfl⟩ (dS (dS (aB (fs':=[(r,zd 1)]) qS)))
 ·rw [show oR x=x from if_neg fun h=>h0 (sgn0.2 h)]
  refine aF (d:=J x) 1 rfl h1 rfl (bM _) fun y2=>?_
  refine aI (d:=J x) 0 rfl ho rfl qK (aC (v:=y2) qM) ?_
  refine aF (d:=J x) 0 rfl ho rfl (bM _) fun r=>?_
  exact fin ⟨rfl,rfl⟩ (dS (dS (aB (fs':=[(r,J x)]) qS)))
theorem rPowerJ (v:Value) (xj:Bool×List Nat) (n a:Nat) (hx:Lim xj.2) (hxa:xj.2.length≤a) (hk:(n+1)*(a+1)≤137438953472) :
  Meets Tryz.prog 42 [v,.int .i64 (n:Nat)] [(v,J xj)] (fun r os fs=>os=[]∧fs=[(r,zd (jv xj^n))]):=by
 have zx:=gY hx hxa
 have hm1:(n+1)*(a+1)=n*(a+1)+(a+1):=Nat.succ_mul _ _
 have hm2:n≤n*(a+1):=Nat.le_mul_of_pos_right _ qN
 have hp:∀ i,i≤n→sz (jv xj^i) (n*(a+1)+1):=fun i hi=>(lP zx i).mono (by
  have h2:i*a≤n*(a+1):=Nat.mul_le_mul hi qN
  omega)
 refine mV Tryz.func42 ?_
 refine mX (aC (d:=J xj) qM) fun px=>?_
 refine aM (d:=I false []) fun o ho=>?_
 refine cG (p8 1 qE qE) fun y0=>?_
 refine aM (d:=I false []) fun s hs=>?_
 refine aI (d:=zd 1) 0 rfl hs rfl qK ?_ ?_; exact aC qM
 refine aO (X:=Nat) (fun i=>([(1,.int .i64 (n:Nat)),(2,px),(4,o),(5,s),(6,.int .i64 (i:Nat))],[bE s 2 1 (fun _=>zd (jv xj^i)),bE o 2 1 (fun _=>I false [])],[(px,.ptr (J xj))])) (fun i=>i≤n) (fun i=>n - i) rfl ?_ ?_
 ·exact aU 0 (Nat.zero_le _) trivial qF (aA (bJ (by rw [Int.pow_zero]; rfl)) (aB qS))
 ·rintro i hi
  refine aD _ rfl (fun hlt=>?_) (fun hlt=>?_)
  ·have hnx:=fun u u'=>rMulZJ u u' (jv xj^i) xj (n*(a+1)+1) (hp i hi) qN hx qN
   rw [← Int.pow_succ] at hnx
   refine aF (d:=zd (jv xj^i)) 0 rfl hs rfl (aN _ _) fun y1=>?_
   refine aX (d:=J xj) qM (bM _) fun y2=>?_
   refine cG (hnx y1 y2) fun y3=>?_
   refine aI (d:=zd (jv xj^(i+1))) 0 rfl hs rfl qK ?_ ?_; exact aC qM
   refine ar rfl qI ?_
   exact aU (i+1) qN (by simp only; omega) qF (aA (bJ rfl) (aB qS))
  ·have hin:i=n:=by omega
   subst hin
   refine aF (d:=zd (jv xj^i)) 0 rfl hs rfl (aN _ _) fun y1=>?_
   refine aI (d:=zd (jv xj^i)) 1 rfl ho rfl qK ?_ ?_; exact aC qM
   refine aF (d:=zd (jv xj^i)) 1 rfl ho rfl (aN _ _) fun r=>?_
   exact fin ⟨rfl,rfl⟩ (dS (dS (aB (fs':=[(r,zd (jv xj^i))]) qS)))
theorem rScale_meets (v w u:Value) (t y:Bool×List Nat) (s:Nat×Nat) (a:Nat) (ht:Lim t.2) (hta:t.2.length≤a) (hy:Lim y.2) (hya:y.2.length≤a) (ha:a≤100000) (hs:s.1≤1000∧s.2≤1000) :
  Meets Tryz.prog 45 [v,w,u] [(v,J t),(w,J y),(u,spE s)] (fun r os fs=>os=[]∧fs=[(r,zd (jE (fP (jv t)) (fP (jv y)) s))]):=by
 have zt:=t8 ht hta
 have zy:=t8 hy hya
 have h1t:=fun z=>sS z t a ht hta qN
 have h1y:=fun z=>sS z y a hy hya qN
 have hb:∀ i,i≤1000→(i+1)*(a+1+1)≤1001*(a+2):=fun i hi=>Nat.mul_le_mul qN qN
 have hpt:=fun z=>rPowerJ z (oR t) s.1 (a+1) zt.1 zt.2 (by have:=hb s.1 hs.1; omega)
 have hpy:=fun z=>rPowerJ z (oR y) s.2 (a+1) zy.1 zy.2 (by have:=hb s.2 hs.2; omega)
 have z1:sz (jv (oR t)^s.1) (1000*(a+1)+1):=(lP (gY zt.1 zt.2) _).mono (Nat.succ_le_succ (Nat.mul_le_mul_right _ hs.1))
 have z2:sz (jv (oR y)^s.2) (1000*(a+1)+1):=(lP (gY zy.1 zy.2) _).mono (Nat.succ_le_succ (Nat.mul_le_mul_right _ hs.2))
 have hmu:=fun z z'=>rMulZZ' z z' _ _ _ z1 z2 qN
 have e:jE (fP (jv t)) (fP (jv y)) s=jv (oR t)^s.1*jv (oR y)^s.2:=by unfold jE; rw [jv_lstJ,jv_lstJ]
 rw [e]
 obtain ⟨s1,s2⟩:=s
 simp only at hpt hpy hmu ⊢
 refine mV Tryz.func45 ?_
 refine bA (aC (d:=J t) qM) fun b1 h1=>?_
 refine bA (aC (d:=J y) qM) fun b2 h2=>?_
 refine bA (aC (d:=spE (s1,s2)) qM) fun b3 h3=>?_
 refine aM (d:=I false []) fun o ho=>?_
 refine aY [0,2,3,5,7,8,1,4,6,9,10,11] [0,1,2,3,4,5,6,7,8,9,10,11] qK qK ?_
 refine aF (d:=J t) 3 rfl h1 rfl (bM _) fun y1=>?_
 refine fA h3 0 rfl qE ?_
 refine aJ 1 rfl (aZ (aK _)) ?_
 refine aF (d:=J y) 2 rfl h2 rfl (bM _) fun y2=>?_
 refine fA h3 1 rfl qE ?_
 refine aJ 1 rfl (aR (aK _)) ?_
 refine cG (h1t y1) fun y3=>?_
 refine cG (hpt y3) fun y4=>?_
 refine cG (h1y y2) fun y5=>?_
 refine cG (hpy y5) fun y6=>?_
 refine cG (hmu y4 y6) fun y7=>?_
 refine aI (d:=zd (jv (oR t)^s1*jv (oR y)^s2)) 0 rfl ho rfl qK (aC qM) ?_
 refine aF (d:=zd (jv (oR t)^s1*jv (oR y)^s2)) 0 rfl ho rfl (aN _ _) fun r=>?_
 exact fin ⟨rfl,rfl⟩ (dS (dS (dS (dS (aB qS)))))
theorem qZ {P:Program} {t:TypeId} [ht:TArr2 P t] {v:Value} {kk:IntKind} {x:Int} {d e:Dat} {os:List Own} {fs:List bD} {K:bZ} (hm:(v,.ptr d)∈fs) (j:Nat) (hj:x=(j:Int)) (hlt:j<2) (hp:Part j d e) (k:∀ q,K q os ((q,.ptr e)::fs)) :
  eM P t v (.int kk x) os fs K:=by
 obtain ⟨e',h1,h2,h3,h4,h5⟩:=ht.und
 subst hj
 refine ⟨fun G w hw=>?_⟩
 obtain ⟨r,o,cs,rfl,g2,g3⟩:=(hw.facts _ hm).ptr
 obtain ⟨pre,cs',post,rfl,rfl,e3⟩:=hp _ _ _ g2
 refine ⟨.pointer (some ⟨r,o+pre.length,none⟩),_,fun w' _=>c9 ?_,k _,hw.put (Rd.mk_ptr e3 g3.part)⟩
 have h0:(0:Int)≤(pre.length:Int)∧(pre.length:Int)<2:=by omega
 simp [Instr.indexAt,asIntOf,run_underlying h1,Instr.sureAddr,bQ h3,h0,eX]
 intro h; omega
theorem tT (v w:Value) (a b:List (Nat×Nat)) :
  Meets Tryz.prog 19 [v,w] [(v,ShD a),(w,ShD b)] (fun r os fs=>os=[]∧fs=[]∧r=.bool (decide (a=b))):=by
 refine mV Tryz.func19 ?_
 refine aT (v:=v) (n:=a.length) qM fun _=>?_
 refine aT (v:=w) (n:=b.length) qM fun _=>?_
 refine aD _ rfl (fun hne=>?_) (fun hne=>?_)
 ·rw [decide_eq_false (show ¬ a=b from fun h=>hne (by rw [h]))]
  exact fin ⟨rfl,rfl,rfl⟩ (aH _ _)
 have hlen:a.length=b.length:=by omega
 refine aO (X:=Nat) (fun i=>([(0,v),(1,w),(5,.int .i64 (i:Nat))],[],[(v,ShD a),(w,ShD b)])) (fun i=>i≤a.length∧∀ j,j<i→a.getD j (0,0)=b.getD j (0,0)) (fun i=>a.length - i) rfl ?_ ?_
 ·exact aU 0 ⟨Nat.zero_le _,fun j hj=>absurd hj (Nat.not_lt_zero _)⟩ trivial qF (aB qS)
 rintro i ⟨hi,hij⟩
 simp only at hi hij ⊢
 refine aT (v:=v) (n:=a.length) qM fun _=>?_
 refine aD _ rfl (fun hlt=>?_) (fun hlt=>?_)
 ·have hia:i<a.length:=by omega
  have hsa:a.getD i (0,0)=b.getD i (0,0)→∀ j,j<i+1→a.getD j (0,0)=b.getD j (0,0):=fun e j hj=>by
   by_cases g:j=i
   ·rw [g]; exact e
   ·exact hij j qN
  have no:a.getD i (0,0)≠b.getD i (0,0)→¬ a=b:=fun h e=>h (by rw [e])
  refine aY [0,1,2,3,4,5,6,7,8,9,10,11,12,13,14,15,16,17,18,19,20,21,22,23] [0,1,2,3,4,5,6,7,8,9,10,11,12,13,14,15,16,17,18,19,20,21,22,23] qK qK ?_
  refine aQ (v:=v) qM i rfl qN fun a1=>?_
  refine qZ (v:=a1) (d:=spE ((a).getD i (0,0))) qM 0 rfl qE (aZ (aK _)) fun a2=>?_
  refine bO (p:=a2) qM ?_
  refine aQ (v:=w) qM i rfl qN fun a1=>?_
  refine qZ (v:=a1) (d:=spE ((b).getD i (0,0))) qM 0 rfl qE (aZ (aK _)) fun a2=>?_
  refine bO (p:=a2) qM ?_
  refine aD _ rfl (fun h1=>?_) (fun h1=>?_)
  ·rw [decide_eq_false (no fun e=>h1 (by rw [e]))]
   exact fin ⟨rfl,rfl,rfl⟩ (aH _ _)
  refine aQ (v:=v) qM i rfl qN fun a1=>?_
  refine qZ (v:=a1) (d:=spE ((a).getD i (0,0))) qM 1 rfl qE (aR (aK _)) fun a2=>?_
  refine bO (p:=a2) qM ?_
  refine aQ (v:=w) qM i rfl qN fun a1=>?_
  refine qZ (v:=a1) (d:=spE ((b).getD i (0,0))) qM 1 rfl qE (aR (aK _)) fun a2=>?_
  refine bO (p:=a2) qM ?_
  refine aD _ rfl (fun h2=>?_) (fun h2=>?_)
  ·rw [decide_eq_false (no fun e=>h2 (by rw [e]))]
   exact fin ⟨rfl,rfl,rfl⟩ (aH _ _)
  refine ar rfl qI ?_
  exact aU (i+1) ⟨by omega,hsa (Prod.ext qN qN)⟩ (by simp only; omega) qF (aB qS)
 ·have hia:i=a.length:=by omega
  subst hia
  rw [decide_eq_true (show a=b from gI (0,0) hlen hij)]
  exact fin ⟨rfl,rfl,rfl⟩ (aH _ _)
section
variable {m n:Nat} {b:Mx}
def nD (g:Nat→Int):Nat→Int
 | 0=>1
 | n+1=>nD g n*g n
theorem vW {g:Nat→Int}:∀ {n:Nat},(∀ i,i<n→0<g i)→0<nD g n
 | 0,_=>by show (0:Int)<1; decide
 | n+1,h=>Int.mul_pos (vW fun i hi=>h i qN) (h n qN)
end
theorem gev_map (G:List (List Int)) (x y:Int):gev G x y=pev (G.map fun r=>pev r y) x:=dL _ _
theorem gev_gone (c:Int) (i:Nat) (x y:Int):gev (tH c i) x y=c*x^i:=by
 rw [gev_map,tH,List.map_append,List.map_replicate]
 show pev (List.replicate i 0++_) x=_
 rw [ev_repl]
 simp [pev]; grind
theorem gev_gless {p:List Int} (h:p≠[]) (x y:Int):gev (j9 p) x y=pev p x - y:=by
 cases p with
 | nil=>exact absurd rfl h
 | cons c l =>
  rw [gev_map,j9,List.map_cons,List.map_map]
  have e:(l.map ((fun r=>pev r y) ∘ fun c=>[c]))=l:=by
   conv=>rhs; rw [← List.map_id l]
   exact List.map_congr_left fun z _=>by simp [pev]
  rw [e]
  simp [pev]; grind
theorem lin_pow (C P:Int):∀ j:Nat,∃ q:List Int,(∀ y,pev q y=C*(P - y)^j)∧(∀ v,j<v→q.getD v 0=0)∧q.getD j 0=C*(-1)^j
 | 0=>⟨[C],fun y=>by simp [pev],fun v hv=>by
   obtain ⟨t,rfl⟩:∃ t,v=t+1:=⟨v - 1,by omega⟩
   simp,by simp⟩
 | j+1=>by
  obtain ⟨q,h1,h2,h3⟩:=lin_pow C P j
  refine ⟨padd (q.map fun z=>P*z) (0::q.map fun z=>(-1)*z),fun y=>?_,fun v hv=>?_,?_⟩
  ·have e1:pev (q.map fun z=>P*z) y=P*pev q y:=by rw [← cL]; exact (dL _ y).symm
   have e2:pev (q.map fun z=>(-1)*z) y=(-1)*pev q y:=by rw [← cL]; exact (dL _ y).symm
   rw [gS,pev,e1,e2,h1,Int.pow_succ]; grind
  ·obtain ⟨t,rfl⟩:∃ t,v=t+1:=⟨v - 1,by omega⟩
   rw [mT,tM,List.getD_cons_succ,tM,h2 _ qN,h2 _ qN]; simp
  ·rw [mT,tM,List.getD_cons_succ,tM,h2 _ qN,h3,Int.pow_succ]; grind
theorem gv_gtu_ev (G:List (List Int)) (x:Int) (v:Nat):gaf G x v=pev ((gtu G).getD v []) x:=gaf_eq G x v
section
variable {P:List Int} {m:Int} {n:Nat}
theorem matG_ev0 {G:List (List Int)} {c:Int} {i j:Nat} (hG:G=gpw (j9 (nrm P)) (tH c i) j) (h:nrm P≠[]) (x y:Int):gev G x y=c*x^i*(pev P x - y)^j:=by
 rw [hG,gpw_ev,gev_gone,gev_gless h,dL]
theorem matG_top0 {G:List (List Int)} {c:Int} {i j:Nat} (hG:G=gpw (j9 (nrm P)) (tH c i) j) (h:nrm P≠[]) (u v:Nat) :
  (j<v→gv G u v=0)∧gv G u j=if u=i then c*(-1)^j else 0:=by
 have key:∀ x,∃ q:List Int,(∀ w,gaf G x w=q.getD w 0)∧(∀ v,j<v→q.getD v 0=0)∧q.getD j 0=c*x^i*(-1)^j:=fun x=>by
  obtain ⟨q,h1,h2,h3⟩:=lin_pow (c*x^i) (pev P x) j
  refine ⟨q,fun w=>?_,h2,h3⟩
  unfold gaf
  exact mH (fun y=>by rw [gax_ev,matG_ev0 hG h,h1]) w
 constructor
 ·intro hv
  have h0:∀ x,pev ((gtu G).getD v []) x=pev [] x:=fun x=>by
   obtain ⟨q,h1,h2,_⟩:=key x
   rw [← gv_gtu_ev,h1,h2 v hv]; rfl
  rw [← wA]
  have:=mH h0 u
  unfold gv
  rw [this]; simp
 ·have h0:∀ x,pev ((gtu G).getD j []) x=pev (List.replicate i 0++[c*(-1)^j]) x:=fun x=>by
   obtain ⟨q,h1,_,h3⟩:=key x
   rw [← gv_gtu_ev,h1,h3,ev_repl]
   simp [pev]; grind
  rw [← wA]
  have:=mH h0 u
  unfold gv
  rw [this]
  by_cases e:u=i
  ·subst e; rw [if_pos rfl]; simp [gE]
  ·rw [if_neg e]
   by_cases g:u<i
   ·rw [gE,List.getElem?_append_left (by simpa using g)]; simp [g]
   ·rw [cW (l:=List.replicate i 0++[c*(-1)^j]) (by simp; omega)]
end
theorem shp_ord (d n:Nat):(shp d n).Pairwise fun a b=>a.2<b.2∨(a.2=b.2∧a.1<b.1):=by
 unfold shp
 generalize n+1=m
 induction m with
 | zero=>exact List.Pairwise.nil
 | succ m ih =>
  rw [List.range_succ,List.flatMap_append]
  refine List.pairwise_append.2 ⟨ih,?_,fun a ha b hb=>?_⟩
  ·simp only [List.flatMap_cons,List.flatMap_nil,List.append_nil]
   refine List.Pairwise.map _ (R:=fun a b=>a<b) (fun a b h=>.inr ⟨rfl,h⟩) List.pairwise_lt_range
  ·simp only [List.mem_flatMap,List.mem_range,List.mem_map] at ha
   simp only [List.flatMap_cons,List.flatMap_nil,List.append_nil,List.mem_map] at hb
   obtain ⟨j,hj,i,_,rfl⟩:=ha
   obtain ⟨i',_,rfl⟩:=hb
   exact .inl hj
theorem shp_lt {d n r c:Nat} (hr:r<c) (hc:c<(shp d n).length):((shp d n).getD r (0,0)).2<((shp d n).getD c (0,0)).2∨(((shp d n).getD r (0,0)).2=((shp d n).getD c (0,0)).2∧((shp d n).getD r (0,0)).1<((shp d n).getD c (0,0)).1):=by
 have:=List.pairwise_iff_getElem.1 (shp_ord d n) r c qN hc hr
 simp only [gE,List.getElem?_eq_getElem hc,List.getElem?_eq_getElem (show r<(shp d n).length by omega),Option.getD_some]
 exact this
theorem det_low:∀ (n:Nat) (A:Mx),(∀ i j,i<j→j<n→A i j=0)→det n A=nD (fun i=>A i i) n
 | 0,_,_=>rfl
 | n+1,A,h=>by
  rw [det_block' n 1 A fun i j h1 h2 h3=>h i j qN qN,det_low n A fun i j h1 h2=>h i j h1 qN,nD]
  congr 1
  simp [det,cM,sg_zero]
section
variable {s:List (Nat×Nat)} {T Y:Int}
end
def amat (P:List Int) (m:Int) (d n:Nat) (T Y:Int):Mx:=fun r c=>gv (matG P m n ((shp d n).getD r (0,0))) ((shp d n).getD c (0,0)).1 ((shp d n).getD c (0,0)).2*jE T Y ((shp d n).getD c (0,0))
structure SzOk (P:List Int) (m:Int) (d n:Nat) (T Y:Int):Prop where
 dg:dg P=d+1
 d1:1≤d
 m1:1≤m
 T1:1≤T
 Y1:1≤Y
 len:(shp d n).length≤24
section
variable {P:List Int} {m:Int} {d n:Nat} {T Y:Int}
theorem SzOk.small (h:SzOk P m d n T Y) {p:Nat×Nat} (hp:p∈shp d n):p.1≤23∧p.2≤n∧p.1≤d*(n - p.2)∧n≤23:=by
 have h1:=shp_big d n
 have h2:=h.len
 have h3:=h.d1
 obtain ⟨x,y⟩:=p
 have h4:=uT.1 hp
 have h5:d*(n - y)≤d*n:=Nat.mul_le_mul_left _ qN
 have h6:1*n≤d*n:=Nat.mul_le_mul_right _ h3
 exact ⟨by simp only; omega,h4.1,h4.2,by omega⟩
theorem SzOk.ne (h:SzOk P m d n T Y):nrm P≠[]:=fun e=>by
 have h1:=h.dg
 unfold Go.Proofs.YtjebljkoiaojaaaGreat.dg at h1
 rw [e] at h1; simp at h1
theorem SzOk.scl (h:SzOk P m d n T Y) (p:Nat×Nat):0<jE T Y p:=by
 have h1:=h.T1
 have h2:=h.Y1
 exact Int.mul_pos (Int.pow_pos qN) (Int.pow_pos qN)
theorem SzOk.top (h:SzOk P m d n T Y) (s:Nat×Nat) (u v:Nat):(s.2<v→gv (matG P m n s) u v=0)∧gv (matG P m n s) u s.2=if u=s.1 then m^(n - s.2)*(-1)^s.2 else 0:=matG_top0 rfl h.ne u v
theorem SzOk.low (h:SzOk P m d n T Y) {r c:Nat} (hr:r<c) (hc:c<(shp d n).length):gv (matG P m n ((shp d n).getD r (0,0))) ((shp d n).getD c (0,0)).1 ((shp d n).getD c (0,0)).2=0:=by
 have h1:=shp_lt hr hc
 have h2:=h.top ((shp d n).getD r (0,0)) ((shp d n).getD c (0,0)).1 ((shp d n).getD c (0,0)).2
 rcases h1 with g | ⟨g,g2⟩
 ·exact h2.1 g
 ·have:=h2.2
  rw [g] at this
  rw [this,if_neg qN]
theorem SzOk.diag (h:SzOk P m d n T Y) (c:Nat):gv (matG P m n ((shp d n).getD c (0,0))) ((shp d n).getD c (0,0)).1 ((shp d n).getD c (0,0)).2=m^(n - ((shp d n).getD c (0,0)).2)*(-1)^((shp d n).getD c (0,0)).2:=by
 rw [(h.top ((shp d n).getD c (0,0)) ((shp d n).getD c (0,0)).1 0).2,if_pos rfl]
theorem SzOk.det (h:SzOk P m d n T Y):det (shp d n).length (amat P m d n T Y)=nD (fun k=>m^(n - ((shp d n).getD k (0,0)).2)*(-1)^((shp d n).getD k (0,0)).2*jE T Y ((shp d n).getD k (0,0))) (shp d n).length:=by
 rw [det_low _ _ fun i j hi hj=>by unfold amat; rw [h.low hi hj,Int.zero_mul]]
 congr 1
 funext k
 unfold amat
 rw [h.diag]
theorem m1pow (j:Nat):((-1:Int)^j).natAbs=1:=by
 induction j with
 | zero=>rfl
 | succ j ih=>rw [Int.pow_succ,Int.natAbs_mul,ih]; rfl
theorem iprod_abs (f g:Nat→Int):∀ {N:Nat},(∀ k,k<N→(f k).natAbs=(g k).natAbs)→(nD f N).natAbs=(nD g N).natAbs
 | 0,_=>rfl
 | N+1,h=>by
  rw [nD,nD,Int.natAbs_mul,Int.natAbs_mul,iprod_abs f g fun k hk=>h k qN,h N qN]
theorem SzOk.det_abs (h:SzOk P m d n T Y):((Go.Proofs.YtjebljkoiaojaaaGreat.det (shp d n).length (amat P m d n T Y)).natAbs:Int)=nD (fun k=>m^(n - ((shp d n).getD k (0,0)).2)*jE T Y ((shp d n).getD k (0,0))) (shp d n).length:=by
 rw [h.det,iprod_abs _ (fun k=>m^(n - ((shp d n).getD k (0,0)).2)*jE T Y ((shp d n).getD k (0,0))) fun k _=>by
  rw [Int.natAbs_mul,Int.natAbs_mul,Int.natAbs_mul,m1pow,Nat.mul_one]]
 have hp:0<nD (fun k=>m^(n - ((shp d n).getD k (0,0)).2)*jE T Y ((shp d n).getD k (0,0))) (shp d n).length:=vW fun k _=>Int.mul_pos (Int.pow_pos (by have:=h.m1; omega)) (h.scl _)
 omega
theorem SzOk.det_ne (h:SzOk P m d n T Y):Go.Proofs.YtjebljkoiaojaaaGreat.det (shp d n).length (amat P m d n T Y)≠0:=by
 have h1:=h.det_abs
 have hp:0<nD (fun k=>m^(n - ((shp d n).getD k (0,0)).2)*jE T Y ((shp d n).getD k (0,0))) (shp d n).length:=vW fun k _=>Int.mul_pos (Int.pow_pos (by have:=h.m1; omega)) (h.scl _)
 omega
variable {U:Nat→Int} {R:List Int}
end
def cbd (M:Nat) (l:List Int):Prop:=∀ i,(l.getD i 0).natAbs≤M
theorem cbd.szR {M k:Nat} {l:List Int} (h:cbd M l) (hm:M<18446744073709551616^k):szR k l:=fun x hx=>by
 obtain ⟨i,hi,rfl⟩:=List.mem_iff_getElem.1 hx
 have:=h i
 rw [gE,List.getElem?_eq_getElem hi] at this
 exact Nat.lt_of_le_of_lt this hm
def dle (D:Int) (l:List Int):Prop:=∀ i:Nat,l.getD i 0≠0→(i:Int)≤D
theorem dle.mono {D E:Int} {l:List Int} (h:dle D l) (hd:D≤E):dle E l:=fun i hi=>Int.le_trans (h i hi) hd
theorem dle.padd {D:Int} {l m:List Int} (h:dle D l) (h':dle D m):dle D (padd l m):=fun i hi=>by
 rw [mT] at hi
 by_cases e:l.getD i 0=0
 ·exact h' i qN
 ·exact h i e
theorem dle.ptim {D c:Int} {l:List Int} (h:dle D l):dle D (ptim c l):=fun i hi=>by
 rw [pQ] at hi
 exact h i fun e=>hi (by rw [e,Int.mul_zero])
theorem co_pmul (l m:List Int) (y:Nat):(pmul l m).getD y 0=0∨(pmul l m).getD y 0=conv (nrm l) (nrm m) (nrm l).length y:=by
 unfold pmul
 simp only
 split
 ·exact .inl qP
 ·rw [gT,qT]
  split
  ·exact .inr rfl
  ·exact .inl rfl
theorem isum_some {g:Nat→Int} {n:Nat} (h:cM g n≠0):∃ t,t<n∧g t≠0:=Classical.byContradiction fun hn=>h (eT fun t ht=>Classical.byContradiction fun e=>hn ⟨t,ht,e⟩)
theorem dle.pmul {D E:Int} {l m:List Int} (h:dle D l) (h':dle E m):dle (D+E) (pmul l m):=fun y hy=>by
 rcases co_pmul l m y with e | e
 ·exact absurd e hy
 ·rw [e] at hy
  obtain ⟨t,_,ht⟩:=isum_some hy
  split at ht
  ·rename_i hty
   rw [gT,gT] at ht
   have h1:=h t fun e=>ht (by rw [e,Int.zero_mul])
   have h2:=h' (y - t) fun e=>ht (by rw [e,Int.mul_zero])
   omega
  ·exact absurd rfl ht
theorem dle.nil (D:Int):dle D []:=fun i hi=>by simp at hi
theorem psumf_dle {D:Int} {f:Nat→List Int}:∀ {n:Nat},(∀ i,i<n→dle D (f i))→dle D (rX f n)
 | 0,_=>dle.nil D
 | n+1,h=>(psumf_dle fun i hi=>h i qN).padd (h n qN)
theorem isum_sk (g:Nat→Int):∀ (n i:Nat),i≤n→cM (fun x=>g (sk i x)) n+g i=cM g (n+1)
 | 0,i,h=>by
  obtain rfl:i=0:=by omega
  simp [cM]
 | n+1,i,h=>by
  show cM (fun x=>g (sk i x)) n+g (sk i n)+g i=cM g (n+1)+g (n+1)
  by_cases e:i=n+1
  ·subst e
   have e1:cM (fun x=>g (sk (n+1) x)) n=cM g n:=bI fun k hk=>by
    have:sk (n+1) k=k:=by unfold sk; rw [if_pos qN]
    rw [this]
   have e2:sk (n+1) n=n:=by unfold sk; rw [if_pos qN]
   rw [e1,e2]; rfl
  ·have e2:sk i n=n+1:=by unfold sk; rw [if_neg qN]
   have:=isum_sk g n i qN
   rw [e2]; omega
theorem pdet_dle:∀ (n:Nat) (A:Px) (α β:Nat→Int),(∀ i j,i<n→j<n→dle (α i+β j) (A i j))→dle (cM α n+cM β n) (kR n A)
 | 0,_,_,_,_=>fun i hi=>by
  cases i with
  | zero=>simp [cM]
  | succ i=>simp [kR] at hi
 | n+1,A,α,β,h=>by
  refine psumf_dle fun i hi=>dle.ptim ?_
  have h1:=pdet_dle n (fun x y=>A (sk i x) (sk 0 y)) (fun x=>α (sk i x)) (fun y=>β (sk 0 y)) fun x y hx hy=>h _ _ (uR hx) (uR hy)
  refine ((h i 0 hi qN).pmul h1).mono ?_
  have e1:=isum_sk α n i qN
  have e2:=isum_sk β n 0 qN
  omega
theorem isum_leC {g:Nat→Int} {C:Nat}:∀ {n:Nat},(∀ t,t<n→(g t).natAbs≤C)→(cM g n).natAbs≤n*C
 | 0,_=>by simp [cM]
 | n+1,h=>by
  have h1:=isum_leC (n:=n) fun t ht=>h t qN
  have h2:=h n qN
  have h3:=Int.natAbs_add_le (cM g n) (g n)
  rw [Nat.succ_mul]
  show (cM g n+g n).natAbs≤_
  omega
theorem cbd.pmul {A B k:Nat} {l m:List Int} (h:cbd A l) (h':cbd B m) (hl:l.length≤k):cbd (k*(A*B)) (pmul l m):=fun y=>by
 rcases co_pmul l m y with e | e
 ·rw [e]; exact Nat.zero_le _
 ·rw [e]
  refine Nat.le_trans (isum_leC (C:=A*B) fun t _=>?_) (Nat.mul_le_mul_right _ (Nat.le_trans (cA l) hl))
  split
  ·rw [gT,gT,Int.natAbs_mul]
   exact Nat.mul_le_mul (h t) (h' _)
  ·exact Nat.zero_le _
theorem psumf_cbd {C:Nat} {f:Nat→List Int}:∀ {n:Nat},(∀ i,i<n→cbd C (f i))→cbd (n*C) (rX f n)
 | 0,_=>fun i=>by simp [rX]
 | n+1,h=>fun i=>by
  have h1:=psumf_cbd (n:=n) (fun i hi=>h i qN) i
  have h2:=h n qN i
  rw [rX,mT,Nat.succ_mul]
  have:=Int.natAbs_add_le ((rX f n).getD i 0) ((f n).getD i 0)
  omega
theorem sg_abs (i:Nat):(sg i).natAbs=1:=by unfold sg; split <;> rfl
def dbd (M k:Nat):Nat→Nat
 | 0=>1
 | n+1=>(n+1)*(k*(M*dbd M k n))
theorem pdet_cbd {M k:Nat}:∀ (n:Nat) (A:Px),(∀ i j,cbd M (A i j))→(∀ i j,(A i j).length≤k)→cbd (dbd M k n) (kR n A)
 | 0,_,_,_=>fun i=>by
  cases i with
  | zero=>simp [kR,dbd]
  | succ i=>simp [kR]
 | n+1,A,h,hl=>by
  refine psumf_cbd fun i _=>?_
  have h1:=pdet_cbd n (fun x y=>A (sk i x) (sk 0 y)) (fun x y=>h _ _) fun x y=>hl _ _
  have h2:=(h i 0).pmul h1 (hl i 0)
  intro y
  rw [pQ,Int.natAbs_mul,sg_abs,Nat.one_mul]
  exact h2 y
section
variable {G H:List (List Int)} {d n:Nat}
theorem supp.dy (h:supp d (d*n) G) (hd:1≤d):dy G≤n:=by
 refine Nat.not_lt.1 fun g=>?_
 have hl:=led_dg (G:=G) (fun e=>by unfold Go.Proofs.YtjebljkoiaojaaaGreat.dy at g; rw [e] at g; simp at g)
 have h1:=nY hl
 have h2:gv (gtu G) (Go.Proofs.YtjebljkoiaojaaaGreat.dy G) (dg (led G) - 1)≠0:=h1
 rw [wA] at h2
 have h3:=h _ _ h2
 have h4:d*(n+1)≤d*Go.Proofs.YtjebljkoiaojaaaGreat.dy G:=Nat.mul_le_mul_left _ qN
 rw [Nat.mul_add] at h4
 omega
theorem supp.row (h:supp d (d*n) G) (v:Nat):dle ((d:Int)*((n:Int) - v)) ((gtu G).getD v []):=fun i hi=>by
 have h2:gv (gtu G) v i≠0:=hi
 rw [wA] at h2
 have h3:=h _ _ h2
 have e:(d:Int)*((n:Int) - v)=((d*n:Nat):Int) - ((d*v:Nat):Int):=by rw [Int.mul_sub,Int.natCast_mul,Int.natCast_mul]
 omega
theorem syRow_dle (h:supp d (d*n) G) (a y:Nat):dle ((d:Int)*((n:Int) - dy G - a)+(d:Int)*y) (tS (gtu G) (dy G) a y):=by
 unfold tS
 split
 ·rename_i hy
  refine (h.row (dy G - (y - a))).mono (Int.le_of_eq ?_)
  rw [← Int.mul_add]
  congr 1
  omega
 ·exact dle.nil _
theorem nm_len {l:List Int} {D:Int} {k:Nat} (hn:Nm l) (h:dle D l) (hk:D<k):l.length≤k:=by
 rw [← eH hn]
 refine jK.2 fun i hi=>Classical.byContradiction fun e=>?_
 have:=h i e
 omega
theorem gel_len9 (hG:supp d (d*n) G) (hH:supp d (d*n) H) (hd:1≤d) (hn:n≤2) (hdn:d*n≤4):(gel G H).length≤9:=by
 have g1:=hG.dy hd
 have g2:=hH.dy hd
 have key:¬ (gtu G=[]∨gtu H=[])→(gel G H).length≤9:=fun h0=>by
  have e:gel G H=kR (dy G+dy H) (syX (gtu G) (gtu H) (dy G) (dy H)):=by unfold gel; rw [if_neg h0]
  refine nm_len (D:=8) (gel_nm _ _) ?_ qE
  rw [e]
  have h1:=pdet_dle (dy G+dy H) (syX (gtu G) (gtu H) (dy G) (dy H)) (fun i=>if i<dy H then (d:Int)*((n:Int) - dy G - i) else (d:Int)*((n:Int) - dy H - ((i - dy H:Nat):Int))) (fun y=>(d:Int)*y) fun i j _ _=>by
   unfold syX
   split
   ·exact syRow_dle hG i j
   ·exact syRow_dle hH (i - dy H) j
  refine h1.mono ?_
  generalize dy G=a at g1 ⊢
  generalize dy H=b at g2 ⊢
  have hn3:n=0∨n=1∨n=2:=by omega
  have ha3:a=0∨a=1∨a=2:=by omega
  have hb3:b=0∨b=1∨b=2:=by omega
  rcases hn3 with rfl | rfl | rfl <;> rcases ha3 with rfl | rfl | rfl <;> rcases hb3 with rfl | rfl | rfl <;> simp only [cM] at * <;> simp <;> omega
 by_cases h0:gtu G=[]∨gtu H=[]
 ·rw [gel_none h0]; simp
 ·exact key h0
theorem syRow_cbd {M k:Nat} {F:List (List Int)} (h:∀ v,cbd M (F.getD v [])∧(F.getD v []).length≤k) (e a y:Nat):cbd M (tS F e a y)∧(tS F e a y).length≤k:=by
 unfold tS
 split
 ·exact h _
 ·exact ⟨fun i=>by simp,Nat.zero_le _⟩
theorem supp.rows {M:Nat} (h:supp d (d*n) G) (hdn:d*n≤4) (hb:∀ u v,(gv G u v).natAbs≤M) (v:Nat):cbd M ((gtu G).getD v [])∧((gtu G).getD v []).length≤5:=by
 refine ⟨fun i=>?_,?_⟩
 ·have:((gtu G).getD v []).getD i 0=gv G i v:=wA G v i
  rw [this]; exact hb _ _
 ·refine nm_len (D:=4) ?_ ((h.row v).mono ?_) qE
  ·by_cases hv:v<(gtu G).length
   ·exact (gtu_gn G).2 _ (dT [] hv)
   ·rw [cW (l:=gtu G) qN]; rfl
  ·have e:(d:Int)*((n:Int) - v)=((d*n:Nat):Int) - ((d*v:Nat):Int):=by rw [Int.mul_sub,Int.natCast_mul,Int.natCast_mul]
   omega
theorem gel_sz9 (hG:supp d (d*n) G) (hH:supp d (d*n) H) (hd:1≤d) (hn:n≤2) (hdn:d*n≤4) {M:Nat} (hM:M<18446744073709551616^2) (bG:∀ u v,(gv G u v).natAbs≤M) (bH:∀ u v,(gv H u v).natAbs≤M):szR 9 (gel G H):=by
 have g1:=hG.dy hd
 have g2:=hH.dy hd
 by_cases h0:gtu G=[]∨gtu H=[]
 ·rw [gel_none h0]; exact fun x hx=>by simp at hx
 have e:gel G H=kR (dy G+dy H) (syX (gtu G) (gtu H) (dy G) (dy H)):=by unfold gel; rw [if_neg h0]
 rw [e]
 have key:∀ i j,cbd M (syX (gtu G) (gtu H) (dy G) (dy H) i j)∧(syX (gtu G) (gtu H) (dy G) (dy H) i j).length≤5:=fun i j=>by
  unfold syX
  split
  ·exact syRow_cbd (hG.rows hdn bG) _ _ _
  ·exact syRow_cbd (hH.rows hdn bH) _ _ _
 refine (pdet_cbd _ _ (fun i j=>(key i j).1) fun i j=>(key i j).2).szR ?_
 have h4:∀ N,N≤4→dbd M 5 N≤15000*18446744073709551616^(2*N):=fun N hN=>by
  have hX:0<18446744073709551616^2:=by decide
  have e0:∀ t,18446744073709551616^(2*t)=(18446744073709551616^2)^t:=fun t=>by rw [Nat.pow_mul]
  rw [e0]
  generalize 18446744073709551616^2=X at *
  have s1:dbd M 5 1≤5*X^1:=by simp only [dbd,Nat.pow_one,Nat.mul_one]; omega
  have step:∀ t a,dbd M 5 t≤a*X^t→dbd M 5 (t+1)≤((t+1)*5*a)*X^(t+1):=fun t a h=>by
   have h1:M*dbd M 5 t≤X*(a*X^t):=Nat.mul_le_mul qN h
   show (t+1)*(5*(M*dbd M 5 t))≤_
   have h2:(t+1)*(5*(M*dbd M 5 t))≤(t+1)*(5*(X*(a*X^t))):=Nat.mul_le_mul_left _ (Nat.mul_le_mul_left _ h1)
   have h3:(t+1)*(5*(X*(a*X^t)))=((t+1)*5*a)*X^(t+1):=by rw [Nat.pow_succ]; grind
   omega
  have s2:=step 1 _ s1
  have s3:=step 2 _ s2
  have s4:=step 3 _ s3
  have hN5:N=0∨N=1∨N=2∨N=3∨N=4:=by omega
  rcases hN5 with rfl | rfl | rfl | rfl | rfl
  ·simp [dbd]
  ·exact Nat.le_trans s1 (Nat.mul_le_mul_right _ qE)
  ·exact Nat.le_trans s2 (Nat.mul_le_mul_right _ qE)
  ·exact Nat.le_trans s3 (Nat.mul_le_mul_right _ qE)
  ·exact s4
 have h5:=h4 (dy G+dy H) qN
 refine Nat.lt_of_le_of_lt h5 ?_
 have h6:18446744073709551616^(2*(dy G+dy H))≤18446744073709551616^8:=Nat.pow_le_pow_right qE qN
 have h7:(18446744073709551616:Nat)^9=18446744073709551616^8*18446744073709551616:=Nat.pow_succ _ _
 have h8:0<18446744073709551616^8:=by decide
 generalize 18446744073709551616^8=X at *
 omega
end
def Rq (R C:Nat) (x:Jx) (B:Mx) (k0:Nat):Prop:=∀ i c,i<R→c<C→jv (x i c)=B i c∧Lim (x i c).2∧((x i c).2.length≤k0∨x i c=cn (B i c))
theorem Rq.rp {R C:Nat} {x:Jx} {B:Mx} {k0 K:Nat} (h:Rq R C x B k0) (hz:∀ i c,i<R→c<C→sz (B i c) K) (hk:k0≤K):Rp R C x B K:=fun i c hi hc=>by
 obtain ⟨h1,h2,h3⟩:=h i c hi hc
 refine ⟨h1,h2,?_⟩
 rcases h3 with h3 | h3
 ·omega
 ·rw [h3]; exact (hz i c hi hc).len
theorem Rq.red {R C:Nat} {x x2:Jx} {B:Mx} {k0 k j:Nat} {q:Int} (h:Rq R C x B k0) (hk:k<R) (hj:j<R) (h2:x2=x∧q=0∨x2=mid x k j q C):Rq R C x2 (redq B k j q) k0:=by
 rcases h2 with ⟨rfl,rfl⟩ | rfl
 ·rw [redq_zero]; exact h
 ·intro i c hi hc
  unfold mid redq
  by_cases e:i=k
  ·rw [if_pos ⟨e,hc⟩,if_pos e,eR,(h k c hk hc).1,(h j c hj hc).1]
   exact ⟨rfl,a0 _,.inr rfl⟩
  ·rw [if_neg (fun h=>e h.1),if_neg e]
   exact h i c hi hc
theorem Rq.swb {R C:Nat} {x:Jx} {B:Mx} {k0 p:Nat} (h:Rq R C x B k0) (hp:p+1<R):Rq R C (fun i c=>x (sx p i) c) (swb B p) k0:=fun i c hi hc=>h (sx p i) c (sx_lt hp hi) hc
structure Sv (m n:Nat) (a:Mx) (D K k0:Nat) (x y:Jx) (d:Nat→Int) (l:Mx) (B U:Mx):Prop where
 lb:LB a m n D K B U
 rb:Rq n m x B k0
 ru:Rq n n y U k0
 hd:∀ t,t≤n→d t=dm m B t
 hl:∀ i t,t<i→i<n→l i t=lm m B i t
section
variable {m n:Nat} {a:Mx} {D K k0 A Z:Nat} {x y:Jx} {d:Nat→Int} {l:Mx} {B U:Mx}
structure Szs (m n:Nat) (a:Mx) (D K k0 A Z:Nat):Prop where
 hm:m≤1048576
 hn:n≤1048575
 ha:∀ i c,i<n→c<m→sz (a i c) A
 hd:dm m a n≠0
 hk:k0≤Z
 hz:D+K+2≤Z∧K+A+1+((A+A+2)*n+1)+1≤Z
 big:Z≤268435456
theorem Sv.mono {K':Nat} (h:Sv m n a D K k0 x y d l B U) (hk:K≤K'):Sv m n a D K' k0 x y d l B U :=
 ⟨⟨h.lb.ind,h.lb.dz,fun i c hi hc=>(h.lb.bz i c hi hc).mono hk,h.lb.ua,h.lb.un⟩,h.rb,h.ru,h.hd,h.hl⟩
theorem Sv.dz (h:Sv m n a D K k0 x y d l B U) (t:Nat) (ht:t≤n):sz (d t) D:=by rw [h.hd t ht]; exact h.lb.dz t ht
theorem Sv.lz (h:Sv m n a D K k0 x y d l B U) (z:Szs m n a D K k0 A Z) (i j:Nat) (hj:j<i) (hi:i<n):sz (l i j) (D+K+1):=by
 rw [h.hl i j hj hi]; exact h.lb.lz (by have:=z.hm; omega) hi hj
theorem Sv.bp (h:Sv m n a D K k0 x y d l B U) (z:Szs m n a D K k0 A Z):Rp n m x B Z:=h.rb.rp (fun i c hi hc=>(h.lb.bz i c hi hc).mono (by have:=z.hz; omega)) z.hk
theorem Sv.uz (h:Sv m n a D K k0 x y d l B U) (z:Szs m n a D K k0 A Z) (i j:Nat) (hi:i<n) (hj:j<n):sz (U i j) Z :=
 (h.lb.uz (by have:=z.hm; omega) (by have:=z.hn; omega) z.ha z.hd hi hj).mono z.hz.2
theorem Sv.up (h:Sv m n a D K k0 x y d l B U) (z:Szs m n a D K k0 A Z):Rp n n y U Z:=h.ru.rp (h.uz z) z.hk
theorem Sv.red {k j:Nat} {x2 y2:Jx} (h:Sv m n a D K k0 x y d l B U) (z:Szs m n a D K k0 A Z) (hk:k<n) (hj:j<k) (hx:x2=x∧rnd (l k j) (d (j+1))=0∨x2=mid x k j (rnd (l k j) (d (j+1))) m) (hy:y2=y∧rnd (l k j) (d (j+1))=0∨y2=mid y k j (rnd (l k j) (d (j+1))) n) :
  Sv m n a D (D+K+K+3) k0 x2 y2 d (lmid l d k j (rnd (l k j) (d (j+1))) j) (redq B k j (rnd (lm m B k j) (dm m B (j+1)))) (redq U k j (rnd (lm m B k j) (dm m B (j+1)))):=by
 have e1:=h.hl k j hj hk
 have e2:=h.hd (j+1) qN
 rw [e1,e2] at hx hy ⊢
 have hm:m<18446744073709551616:=by have:=z.hm; omega
 refine ⟨h.lb.redq hk hj (h.lb.qz hm hk hj),h.rb.red hk qN hx,h.ru.red hk qN hy,fun t ht=>by rw [wQ h.lb.ind hj ht]; exact h.hd t ht,fun i t ht hi=>?_⟩
 rw [lm_redq h.lb.ind hj ht hi]
 unfold lmid
 by_cases ei:i=k
 ·rw [if_pos ei,if_pos ei]
  by_cases et:t=j
  ·rw [if_pos et,if_neg qN,if_pos et,e1,e2]
  ·rw [if_neg et]
   by_cases et2:t<j
   ·rw [if_pos et2,if_pos et2,h.hl k t qN hk,h.hl j t et2 qN]
   ·rw [if_neg et2,if_neg et2,if_neg et,h.hl k t qN hk]
 ·rw [if_neg ei,if_neg ei,h.hl i t ht hi]
theorem Sv.turn {k:Nat} (h:Sv m n a D K k0 x y d l B U) (h1:1≤k) (hk:k<n) (hf:¬ farL m B k) :
  Sv m n a D K k0 (fun i c=>x (sx (k - 1) i) c) (fun i c=>y (sx (k - 1) i) c) (tdd d l k) (trw d l k n) (swb B (k - 1)) (swb U (k - 1)):=by
 obtain ⟨p,rfl⟩:∃ p,k=p+1:=⟨k - 1,by omega⟩
 rw [Nat.add_sub_cancel]
 have hi:=h.lb.ind
 have e0:=h.hd p qN
 have e1:=h.hd (p+1) qN
 have e2:=h.hd (p+2) qN
 have el:=h.hl (p+1) p qN hk
 have n1:dm m B (p+1)≠0:=by have:=hi (p+1) qN; omega
 have n2:dm m B (p+2)≠0:=by have:=hi (p+2) qN; omega
 have hT:tD d l (p+1)=mi (gr m B) p (p+1) (p+1):=by
  unfold tD
  rw [Nat.add_sub_cancel,e0,e1,e2,el,← dd hi hk,Int.mul_ediv_cancel_left _ n1]
 have hlb:=h.lb.swb (k:=p+1) qN hk hf
 rw [Nat.add_sub_cancel] at hlb
 have hN1:∀ i,p+1<i→i<n→tN1 d l (p+1) i=lm m (swb B p) i (p+1):=fun i g1 g2=>by
  unfold tN1
  rw [Nat.add_sub_cancel,e1,e2,el,h.hl i p qN g2,h.hl i (p+1) g1 g2,← lm_swb_one hi hk g1 g2,Int.mul_ediv_cancel_left _ n1]
 refine ⟨hlb,h.rb.swb hk,h.ru.swb hk,fun t ht=>?_,fun i t ht hi'=>?_⟩
 ·unfold tdd
  rw [wP hi hk ht]
  split
  ·exact hT
  ·exact h.hd t ht
 ·unfold trw
  by_cases c1:p+1<i
  ·rw [if_pos ⟨c1,hi'⟩]
   by_cases c2:t=p+1
   ·rw [if_pos c2,hN1 i c1 hi',c2]
   ·rw [if_neg c2,Nat.add_sub_cancel]
    by_cases c3:t=p
    ·rw [if_pos c3]
     unfold tN2
     rw [hN1 i c1 hi',hT,Nat.add_sub_cancel,e2,el,h.hl i (p+1) c1 hi',← lm_swb_two hi hk c1 hi',Int.mul_ediv_cancel_left _ n2,c3]
    ·rw [if_neg c3,tB hi hk ht hi',if_neg qN,if_neg c3,if_neg c2,uN qN,h.hl i t ht hi']
  ·rw [if_neg (fun h=>c1 h.1),Nat.add_sub_cancel]
   unfold tsw
   by_cases c2:i=p+1
   ·subst c2
    by_cases c3:t<p
    ·rw [if_pos ⟨rfl,c3⟩,Nat.add_sub_cancel,tB hi hk ht hi',if_neg qN,if_neg qN,if_neg qN,sx_at',h.hl p t c3 qN]
    ·rw [if_neg (fun h=>c3 h.2),if_neg qN,tB hi hk ht hi',if_pos qN,show t=p by omega,el]
   ·rw [if_neg (fun h=>c2 h.1),Nat.add_sub_cancel]
    by_cases c4:i=p
    ·subst c4
     rw [if_pos qN,tB hi hk ht hi',if_neg qN,if_neg qN,if_neg qN,sx_at,h.hl (i+1) t qN hk]
    ·rw [if_neg (fun h=>c4 h.1),tB hi hk ht hi',if_neg qN,if_neg qN,if_neg qN,sx_low qN,h.hl i t ht hi']
theorem Sv.far {k:Nat} (h:Sv m n a D K k0 x y d l B U) (h1:1≤k) (hk:k<n):decide (farN d l k)=decide (farL m B k):=by
 refine decide_eq_decide.2 ?_
 unfold farN farL
 rw [h.hd k qN,h.hd (k+1) qN,h.hd (k - 1) qN,h.hl k (k - 1) qN hk]
end
def lD (k n:Nat):Nat:=(k+k+2)*n+1
def lK (k n:Nat):Nat:=n*(lD k n+1)+k
theorem mm_one_left {n:Nat} (A:Mx) {i:Nat} (c:Nat) (hi:i<n):mm n one A i c=A i c:=by
 unfold mm
 rw [gW (r:=i) hi fun s _ hs=>by unfold one; rw [if_neg (fun e=>hs e.symm),Int.zero_mul]]
 unfold one; rw [if_pos rfl,Int.one_mul]
theorem Sv.start {a:List Row} {k:Nat} (hf:Fits k a) (lc:(a.getD 0 []).length≤1048576) (ln:a.length≤1024) (hI:Ind (a.getD 0 []).length a.length (rvm a)) :
  Sv (a.getD 0 []).length a.length (rvm a) (lD k a.length) (lK k a.length) k (rawJ a) uniJ (dm (a.getD 0 []).length (rvm a)) (ltb (a.getD 0 []).length (rvm a) a.length 0) (rvm a) one:=by
 have hg:∀ i j,sz (gr (a.getD 0 []).length (rvm a) i j) (k+k+1):=gmx_sz hf lc
 refine ⟨⟨hI,fun t ht=>?_,fun i c _ _=>(rv_sz (hf.get i) c).mono (by unfold lK; omega),fun i c hi _=>mm_one_left _ c hi,.inl (wS _)⟩,fun i c _ _=>?_,fun i c _ _=>?_,fun _ _=>rfl,fun i t h1 h2=>?_⟩
 ·unfold dm dG
  refine (det_sz t qN (k:=k+k+1) fun x y _ _=>hg _ _).mono ?_
  have:(k+k+1+1)*t≤(k+k+2)*a.length:=Nat.mul_le_mul qN ht
  unfold lD; omega
 ·exact ⟨rfl,((hf.get i).get c).1,.inl ((hf.get i).get c).2⟩
 ·have e:uniJ i c=cn (one i c):=by
   unfold uniJ one
   by_cases h:c=i
   ·rw [if_pos h,if_pos h.symm]
   ·rw [if_neg h,if_neg (fun e=>h e.symm),cn0]
  rw [e,eR]
  exact ⟨rfl,a0 _,.inr rfl⟩
 ·unfold ltb
  rw [if_pos ⟨h1,.inl h2⟩]
def kt (D K:Nat):Nat→Nat
 | 0=>K
 | t+1=>D+kt D K t+kt D K t+3
theorem kt_mono {D K:Nat}:∀ {s t:Nat},s≤t→kt D K s≤kt D K t
 | s,0,h=>by rw [show s=0 by omega]; exact Nat.le_refl _
 | s,t+1,h=>by
  by_cases e:s=t+1
  ·rw [e]; exact Nat.le_refl _
  ·have:=kt_mono (D:=D) (K:=K) (s:=s) (t:=t) qN
   show kt D K s≤D+kt D K t+kt D K t+3
   omega
def lZ (k n:Nat):Nat:=kt (lD k n) (lK k n) n+lD k n+k+((k+k+2)*n+1)+4
theorem lrun_step {m n f:Nat} {b u:Mx} {k:Nat} {R:Mx×Mx} (h:oS m n f b u k=some R) (hk:k<n) :
  ∃ g,f=g+1∧(if farL m (m9 m k k b u).1 k then oS m n g (m9 m k k b u).1 (m9 m k k b u).2 (k+1)
  else oS m n g (swb (m9 m k k b u).1 (k - 1)) (swb (m9 m k k b u).2 (k - 1)) (max 1 (k - 1)))=some R:=by
 cases f with
 | zero=>simp [oS] at h
 | succ g =>
  rw [oS,if_neg qN] at h
  exact ⟨g,rfl,h⟩
theorem lrun_end {m n f:Nat} {b u:Mx} {k:Nat} {R:Mx×Mx} (h:oS m n f b u k=some R) (hk:n≤k):R=(b,u):=by
 cases f with
 | zero=>simp [oS] at h
 | succ g =>
  rw [oS,if_pos hk] at h
  simpa using h.symm
theorem redr_row {m k:Nat}:∀ (j:Nat) (b u:Mx) (i c:Nat),i≠k→(m9 m k j b u).1 i c=b i c
 | 0,_,_,_,_,_=>rfl
 | j+1,b,u,i,c,h=>by
  rw [nP,redr_row j _ _ i c h]
  unfold redq; rw [if_neg h]
theorem Sv.full {m n:Nat} {a:Mx} {D K K' k0 k:Nat} {x y:Jx} {d:Nat→Int} {l:Mx} {B0 U0 B U:Mx} (h0:LB a m n D K B0 U0) (h:Sv m n a D K' k0 x y d l B U) (hk:k<n) (hK:n*(D+1)≤K)
  (he:(B,U)=m9 m k k B0 U0):Sv m n a D K k0 x y d l B U:=by
 obtain ⟨w,ws⟩:=p7 (u:=U0) hk h0.ind
 have eB:B=(m9 m k k B0 U0).1:=by rw [← he]
 have eU:U=(m9 m k k B0 U0).2:=by rw [← he]
 rw [← eB] at w ws
 exact ⟨h0.full hk hK w ws (fun i c hi=>by rw [eB]; exact redr_row k _ _ i c hi) h.lb.ua h.lb.un,h.rb,h.ru,h.hd,h.hl⟩
structure RdS where
 k:Nat
 s:BS
 b:Jx
 u:Jx
 d:Nat→Int
 l:Mx
 B:Mx
 U:Mx
 f:Nat
structure RdI where
 z:Int
 j:Nat
 b:Jx
 u:Jx
 l:Mx
 B:Mx
 U:Mx
def s8 (x:Jx) (i c:Nat):Jx:=fun a e=>if a<i∨(a=i∧e<c) then cn (jv (x a e)) else x a e
theorem nrmJ_zero (x:Jx):s8 x 0 0=x:=by
 funext a e; unfold s8; rw [if_neg qN]
theorem lReduce_meets (v:Value) (a:List Row) (k:Nat) (R:Mx×Mx) (hf:Fits k a) (hk:k≤1048576) (ln:a.length≤1024) (lc:(a.getD 0 []).length≤1048576) (hZ:lZ k a.length≤268435456)
  (hR:right a→Ind (a.getD 0 []).length a.length (rvm a)→∃ f,oS (a.getD 0 []).length a.length f (rvm a) one 1=some R) :
  Meets Tryz.prog 30 [v] [(v,W a)] (fun r os fs=>fs=[] ∧
   ((¬ right a∧r=.tuple #[.slice none 0 0,.slice none 0 0,.int .i64 1]∧os=[])∨(right a∧¬ Ind (a.getD 0 []).length a.length (rvm a)∧r=.tuple #[.slice none 0 0,.slice none 0 0,.int .i64 8]∧os=[]) ∨
    (right a∧Ind (a.getD 0 []).length a.length (rvm a)∧∃ q w vs ws,isSl q∧isSl w∧(∀ i,i<a.length→isSl (vs i))∧(∀ i,i<a.length→isSl (ws i))∧r=.tuple #[q,w,.int .i64 0] ∧
    os=[pM vs a.length (a.getD 0 []).length R.1,gJ q a.length vs,pM ws a.length a.length R.2,gJ w a.length ws]))):=by
 refine mV Tryz.func30 ?_
 refine cH (tA v a) ?_
 by_cases hr:right a
 case neg =>
  rw [decide_eq_false hr]
  exact fin ⟨rfl,.inl ⟨hr,rfl,rfl⟩⟩ (aH _ _)
 rw [decide_eq_true hr]
 refine cF (lmade_meets v a k hf hr hk ln lc) ?_
 rintro _ _ _ (⟨hI,rfl,rfl,rfl⟩ | ⟨hI,s0,hs0,rfl,rfl,rfl⟩)
 ·refine eq_ptr ?_
  exact fin ⟨rfl,.inr (.inl ⟨hr,hI,rfl,rfl⟩)⟩ (aH _ _)
 have hv:=Sv.start hf lc ln hI
 have hn1:=hr.1
 obtain ⟨f0,hf0⟩:=hR hr hI
 have hA:∀ i c,sz (rvm a i c) k:=fun i c=>rv_sz (hf.get i) c
 have hdn:dm (a.getD 0 []).length (rvm a) a.length≠0:=by have:=hI a.length (Nat.le_refl _); omega
 have hnK:a.length*(lD k a.length+1)≤lK k a.length:=by unfold lK; omega
 have hzz:kt (lD k a.length) (lK k a.length) a.length+lD k a.length+k+((k+k+2)*a.length+1)+4≤268435456:=hZ
 generalize hC:(a.getD 0 []).length=C at *
 generalize dm C (rvm a)=d0 at hv ⊢
 generalize ltb C (rvm a) a.length 0=l0 at *
 generalize hDD:lD k a.length=D at *
 generalize hKK:lK k a.length=K at *
 generalize hZZ:kt D K a.length+D+k+((k+k+2)*a.length+1)+4=Z at *
 have hsz:∀ t,t≤a.length→Szs C a.length (rvm a) D (kt D K t) k k Z:=fun t ht=>by
  have:=kt_mono (D:=D) (K:=K) ht
  exact ⟨by omega,by omega,fun i c _ _=>hA i c,hdn,by omega,⟨by omega,by omega⟩,hzz⟩
 have hK0:Szs C a.length (rvm a) D K k k Z:=hsz 0 (Nat.zero_le _)
 refine eq_ptr ?_
 refine aO (X:=RdS) (fun x=>([(0,v),(5,eD x.s.r 0),(6,.int .i64 (x.k:Nat))],bas x.s C a.length x.b x.u x.d x.l [],[(v,W a)]))
  (fun x=>1≤x.k∧x.k≤a.length∧x.s.ok a.length∧Sv C a.length (rvm a) D K k x.b x.u x.d x.l x.B x.U∧oS C a.length x.f x.B x.U x.k=some R) (fun x=>x.f) rfl ?_ ?_
 ·exact aU ⟨1,s0,rawJ a,uniJ,d0,l0,rvm a,one,f0⟩ ⟨Nat.le_refl _,hn1,hs0,hv,hf0⟩ trivial qF (aB qS)
 ·rintro ⟨i,s,b,u,d,l,B,U,f⟩ ⟨hi1,hi2,hs,hv,hf⟩
  simp only at hi1 hi2 hs hv hf ⊢
  refine aT (v:=v) (n:=a.length) qM fun _=>?_
  refine aD _ rfl (fun hc=>?_) (fun hc=>?_)
  ·have hin:i<a.length:=by omega
   obtain ⟨g,rfl,hg⟩:=lrun_step hf hin
   refine ar rfl qI ?_
   refine aO (X:=RdI) (fun x=>([(0,v),(5,eD s.r 0),(6,.int .i64 (i:Nat)),(7,.int .i64 x.z)],bas s C a.length x.b x.u d x.l [],[(v,W a)]))
    (fun x=>x.z=(x.j:Int) - 1∧x.j≤i∧Sv C a.length (rvm a) D (kt D K (i - x.j)) k x.b x.u d x.l x.B x.U∧m9 C i x.j x.B x.U=m9 C i i B U) (fun x=>x.j) rfl ?_ ?_
   ·exact aU ⟨(i:Int) - 1,i,b,u,l,B,U⟩ ⟨rfl,Nat.le_refl _,by simp only [Nat.sub_self]; exact hv,rfl⟩ trivial qF (aB qS)
   ·rintro ⟨z,j,b2,u2,l2,B2,U2⟩ ⟨hz,hj,hv2,he⟩
    simp only at hz hj hv2 he ⊢
    refine aD _ rfl (fun hlt=>?_) (fun hlt=>?_)
    ·obtain ⟨j,rfl⟩:∃ j',j=j'+1:=⟨j - 1,by omega⟩
     obtain rfl:z=(j:Int):=by omega
     have hS:=hsz (i - (j+1)) qN
     have hbig:=hS.hz
     refine size_call i j D (D+kt D K (i - (j+1))+1) Z hin qN qN qN hs (hv2.bp hS) (hv2.up hS) hv2.dz (fun x y h1 h2=>hv2.lz hS x y h1 h2) ?_ qN qN qN fun r b3 u3 h3 h4=>?_
     ·rw [hv2.hd (j+1) qN]; exact hv2.lb.ind (j+1) qN
     have hv3:=hv2.red hS hin qN h3 h4
     refine ar rfl qI ?_
     refine aU ⟨(j:Int) - 1,j,b3,u3,lmid l2 d i j (rnd (l2 i j) (d (j+1))) j,redq B2 i j (rnd (lm C B2 i j) (dm C B2 (j+1))),redq U2 i j (rnd (lm C B2 i j) (dm C B2 (j+1)))⟩ ⟨rfl,by simp only; omega,?_,?_⟩ (by simp only; omega) qF (aB (fs':=[(v,W a)]) qS)
     ·refine hv3.mono ?_
      simp only
      rw [show i - j=(i - (j+1))+1 by omega]
      exact Nat.le_refl _
     ·exact he
    ·obtain rfl:j=0:=by omega
     have hv3:Sv C a.length (rvm a) D K k b2 u2 d l2 B2 U2:=hv2.full hv.lb hin hnK he
     have eB:(m9 C i i B U).1=B2:=by rw [← he]; rfl
     have eU:(m9 C i i B U).2=U2:=by rw [← he]; rfl
     rw [eB,eU] at hg
     refine far_call i D (D+K+1) hi1 hin qN hs hv3.dz (fun x y h1 h2=>hv3.lz hK0 x y h1 h2) qN (by have:=hK0.hz; omega) ?_
     rw [hv3.far hi1 hin]
     by_cases hfar:farL C B2 i
     ·rw [decide_eq_true hfar]
      rw [if_pos hfar] at hg
      refine ar rfl qI ?_
      exact aU ⟨i+1,s,b2,u2,d,l2,B2,U2,g⟩ ⟨by simp only; omega,by simp only; omega,hs,hv3,hg⟩ (by simp only; omega) qF (aB (fs':=[(v,W a)]) qS)
     ·rw [decide_eq_false hfar]
      rw [if_neg hfar] at hg
      have n1:d i≠0:=by rw [hv3.hd i qN]; have:=hv3.lb.ind i qN; omega
      have n2:d (i+1)≠0:=by rw [hv3.hd (i+1) qN]; have:=hv3.lb.ind (i+1) qN; omega
      refine turn_call i D (D+K+1) hi1 hin qN hs hv3.dz (fun x y h1 h2=>hv3.lz hK0 x y h1 h2) n1 n2 (by have:=hK0.hz; omega) (by have:=hK0.hz; omega) fun r=>?_
      have hv4:=hv3.turn hi1 hin hfar
      refine ar rfl qI ?_
      refine kV ?_
      exact aU ⟨max 1 (i - 1),s.sw (i - 1),_,_,_,_,_,_,g⟩ ⟨by simp only; omega,by simp only; omega,hs.sw qN,hv4,hg⟩ (by simp only; omega) qF (aB (fs':=[(v,W a)]) qS)
  ·have hin:i=a.length:=by omega
   have hRR:=lrun_end hf qN
   have hb:=hv.bp hK0
   have hu:=hv.up hK0
   have z1:=hs.vb
   have z2:=hs.vu
   have z3:=hs.sb
   have z4:=hs.su
   have hZb:Z≤268435456:=hzz
   have e1:∀ i c,i<a.length→c<C→cn (jv (b i c))=cn (R.1 i c):=fun i c h1 h2=>by rw [(hb i c h1 h2).1,hRR]
   have e2:∀ i c,i<a.length→c<a.length→cn (jv (u i c))=cn (R.2 i c):=fun i c h1 h2=>by rw [(hu i c h1 h2).1,hRR]
   clear hv hf hRR hR hsz hK0 hf0 hA
   generalize hn:a.length=n at *
   refine aY [0,1,2,3,4,5,6,7,8,9,12,10,11] [0,1,2,3,4,5,6,7,8,9,10,11,12] qK qK ?_
   refine aV ?_
   refine aV ?_
   refine ld4b 0 rfl rfl ?_
   refine aV ?_
   refine aV ?_
   refine ld4u 0 rfl rfl ?_
   refine cZ (size:=1) (n:=2) [s.vb,s.vu] [.one s.vb,.one s.vu] rfl rfl qE qE ⟨bW hs.vb.one,rfl,bW hs.vu.one,rfl,trivial⟩ fun lt=>?_
   refine aT (n:=2) qM fun _=>?_
   refine aO (X:=Nat) (fun t=>([(5,eD s.r 0),(55,lt),(56,.int .i64 2),(57,.int .i64 (t:Nat))],
     bas s C n (selb b (s8 b n 0) t) (selu u (s8 u n 0) t) d l [],[(lt,.sl 1 2 fun i=>[Dat.one s.vb,Dat.one s.vu].getD i (.one undef))]))
     (fun t=>t≤2) (fun t=>2 - t) rfl ?_ ?_
   ·exact aU 0 (Nat.zero_le _) trivial qF (aB qS)
   ·rintro t ht
    refine aD _ rfl (fun hc=>?_) (fun hc=>?_)
    ·have htt:t=0∨t=1:=by omega
     rcases htt with rfl | rfl
     ·
      refine aQ (n:=2) qM 0 rfl qE fun a1=>?_
      refine bO (u:=s.vb) qM ?_
      refine cS 2 rfl z1 fun _=>?_
      refine aO (X:=Nat) (fun i=>([(5,eD s.r 0),(55,lt),(56,.int .i64 2),(57,.int .i64 (0:Nat)),(61,s.vb),(62,.int .i64 (n:Nat)),(63,.int .i64 (i:Nat))],
        bas s C n (s8 b i 0) (u) d l [],[(lt,.sl 1 2 fun i=>[Dat.one s.vb,Dat.one s.vu].getD i (.one undef))]))
        (fun i=>i≤n) (fun i=>n - i) rfl ?_ ?_
      ·exact aU 0 (Nat.zero_le _) trivial qF (by rw [nrmJ_zero]; exact aB qS)
      rintro i hi
      refine aD _ rfl (fun hlt=>?_) (fun hlt=>?_)
      ·have hin:i<n:=by omega
       refine aE 2 rfl z1 i rfl qN ?_
       refine aG 2 rfl i qN (u:=s.sb i) rfl ?_
       refine len_fj 1 i rfl hin (z3 i hin) fun _=>?_
       refine aO (X:=Nat) (fun c=>([(5,eD s.r 0),(11,s.sb i),(55,lt),(56,.int .i64 2),(57,.int .i64 (0:Nat)),(61,s.vb),(62,.int .i64 (n:Nat)),(63,.int .i64 (i:Nat)),(67,s.sb i),(68,.int .i64 (C:Nat)),(69,.int .i64 (c:Nat))],
         bas s C n (s8 b i c) (u) d l [],[(lt,.sl 1 2 fun i=>[Dat.one s.vb,Dat.one s.vu].getD i (.one undef))]))
         (fun c=>c≤C) (fun c=>C - c) rfl ?_ ?_
       ·exact aU 0 (Nat.zero_le _) trivial qF (aB qS)
       rintro c hcm
       refine aD _ rfl (fun hlt2=>?_) (fun hlt2=>?_)
       ·have hcC:c<C:=by omega
        have f1:=hb i c hin hcC
        refine bY 1 i rfl hin (z3 i hin) c rfl hcC ?_
        refine fX 1 i c rfl hin hcC (b i c) (by unfold s8; rw [if_neg qN]) fun y1=>?_
        refine cG (iF y1 (b i c).1 (b i c).2 f1.2.1 qN) fun y2=>?_
        refine bY 1 i rfl hin (z3 i hin) c rfl hcC ?_
        refine iU 1 i c rfl hin hcC (cn (jv (b i c))) (s8 b i (c+1)) (aC (d:=zd (jv (b i c))) qM) (fun a b' ha hb'=>?_) ?_
        ·unfold s8
         by_cases e:a=i∧b'=c
         ·rw [if_pos e,if_pos qN,e.1,e.2]
         ·rw [if_neg e]
          by_cases e2:a<i∨(a=i∧b'<c)
          ·rw [if_pos e2,if_pos qN]
          ·rw [if_neg e2,if_neg qN]
        refine ar rfl qI ?_
        exact aU (c+1) qN (by simp only; omega) qF (aB qS)
       ·have hcC:c=C:=by omega
        subst hcC
        refine ar rfl qI ?_
        refine aU (i+1) qN (by simp only; omega) qF (aA (Seals.fjcong (vs:=s.sb) (vs':=s.sb) (x:=s8 b i c) (x':=s8 b (i+1) 0) (os:=[_,_,_,_,_,_,_,_]) 1 rfl (fun x=>x) (fun x hx=>⟨hx,rfl,fun y hy=>?_⟩) (fun _ _ _ _ e=>e)) (aB qS))
        unfold s8
        by_cases e:x<i∨x=i
        ·rw [if_pos qN,if_pos qN]
        ·rw [if_neg qN,if_neg qN]
      ·have hin:i=n:=by omega
       subst hin
       refine ar rfl qI ?_
       exact aU 1 qN (by simp only; omega) qF (aB qS)
     ·
      refine aQ (n:=2) qM 1 rfl qE fun a1=>?_
      refine bO (u:=s.vu) qM ?_
      refine cS 4 rfl z2 fun _=>?_
      refine aO (X:=Nat) (fun i=>([(5,eD s.r 0),(55,lt),(56,.int .i64 2),(57,.int .i64 (1:Nat)),(61,s.vu),(62,.int .i64 (n:Nat)),(63,.int .i64 (i:Nat))],
        bas s C n (s8 b n 0) (s8 u i 0) d l [],[(lt,.sl 1 2 fun i=>[Dat.one s.vb,Dat.one s.vu].getD i (.one undef))]))
        (fun i=>i≤n) (fun i=>n - i) rfl ?_ ?_
      ·exact aU 0 (Nat.zero_le _) trivial qF (by rw [nrmJ_zero]; exact aB qS)
      rintro i hi
      refine aD _ rfl (fun hlt=>?_) (fun hlt=>?_)
      ·have hin:i<n:=by omega
       refine aE 4 rfl z2 i rfl qN ?_
       refine aG 4 rfl i qN (u:=s.su i) rfl ?_
       refine len_fj 3 i rfl hin (z4 i hin) fun _=>?_
       refine aO (X:=Nat) (fun c=>([(5,eD s.r 0),(11,s.su i),(55,lt),(56,.int .i64 2),(57,.int .i64 (1:Nat)),(61,s.vu),(62,.int .i64 (n:Nat)),(63,.int .i64 (i:Nat)),(67,s.su i),(68,.int .i64 (n:Nat)),(69,.int .i64 (c:Nat))],
         bas s C n (s8 b n 0) (s8 u i c) d l [],[(lt,.sl 1 2 fun i=>[Dat.one s.vb,Dat.one s.vu].getD i (.one undef))]))
         (fun c=>c≤n) (fun c=>n - c) rfl ?_ ?_
       ·exact aU 0 (Nat.zero_le _) trivial qF (aB qS)
       rintro c hcm
       refine aD _ rfl (fun hlt2=>?_) (fun hlt2=>?_)
       ·have hcC:c<n:=by omega
        have f1:=hu i c hin hcC
        refine bY 3 i rfl hin (z4 i hin) c rfl hcC ?_
        refine fX 3 i c rfl hin hcC (u i c) (by unfold s8; rw [if_neg qN]) fun y1=>?_
        refine cG (iF y1 (u i c).1 (u i c).2 f1.2.1 qN) fun y2=>?_
        refine bY 3 i rfl hin (z4 i hin) c rfl hcC ?_
        refine iU 3 i c rfl hin hcC (cn (jv (u i c))) (s8 u i (c+1)) (aC (d:=zd (jv (u i c))) qM) (fun a b' ha hb'=>?_) ?_
        ·unfold s8
         by_cases e:a=i∧b'=c
         ·rw [if_pos e,if_pos qN,e.1,e.2]
         ·rw [if_neg e]
          by_cases e2:a<i∨(a=i∧b'<c)
          ·rw [if_pos e2,if_pos qN]
          ·rw [if_neg e2,if_neg qN]
        refine ar rfl qI ?_
        exact aU (c+1) qN (by simp only; omega) qF (aB qS)
       ·have hcC:c=n:=by omega
        subst hcC
        refine ar rfl qI ?_
        refine aU (i+1) qN (by simp only; omega) qF (aA (Seals.fjcong (vs:=s.su) (vs':=s.su) (x:=s8 u i c) (x':=s8 u (i+1) 0) (os:=[_,_,_,_,_,_,_,_]) 3 rfl (fun x=>x) (fun x hx=>⟨hx,rfl,fun y hy=>?_⟩) (fun _ _ _ _ e=>e)) (aB qS))
        unfold s8
        by_cases e:x<i∨x=i
        ·rw [if_pos qN,if_pos qN]
        ·rw [if_neg qN,if_neg qN]
      ·have hin:i=n:=by omega
       subst hin
       refine ar rfl qI ?_
       exact aU 2 qN (by simp only; omega) qF (aB qS)
    ·have ht2:t=2:=by omega
     subst ht2
     refine aY [0,1,2,3,4,5,6,7,8,9,10,11,12] [0,1,2,3,4,10,5,6,7,8,9,11,12] qK qK ?_
     refine aV ?_
     refine aV ?_
     refine ld4b 0 rfl rfl ?_
     refine aV ?_
     refine aV ?_
     refine ld4u 0 rfl rfl ?_
     refine fin ⟨rfl,.inr (.inr ⟨hr,hI,s.vb,s.vu,s.sb,s.su,z1,z2,z3,z4,rfl,rfl⟩)⟩ ?_
     refine dS (aA (aW 4 _ _) (aA (aW 4 _ _) (aA (aW 4 _ _) ?_)))
     refine aA (Seals.fjcong (vs:=s.sb) (vs':=s.sb) (x:=s8 b n 0) (x':=fun i c=>cn (R.1 i c)) (os:=[_,_,_,_]) 0 rfl (fun x=>x) (fun x hx=>⟨hx,rfl,fun y hy=>?_⟩) (fun _ _ _ _ e=>e))
      (aA (Seals.fjcong (vs:=s.su) (vs':=s.su) (x:=s8 u n 0) (x':=fun i c=>cn (R.2 i c)) (os:=[_,_,_,_]) 2 rfl (fun x=>x) (fun x hx=>⟨hx,rfl,fun y hy=>?_⟩) (fun _ _ _ _ e=>e)) (aH _ _))
     ·unfold s8; rw [if_pos (.inl hx)]; exact (e1 x y hx hy).symm
     ·unfold s8; rw [if_pos (.inl hx)]; exact (e2 x y hx hy).symm
theorem dG_det (G:Mx) (n:Nat):dG G n=det n G:=by
 unfold dG
 rw [← det_rev n G]
 refine bP fun x y hx hy=>?_
 show G ((dn n).getD x 0) ((dn n).getD y 0)=G _ _
 rw [q9 hx,q9 hy]
section
variable {m n:Nat} {b:Mx}
theorem ip_zero {u:Nat→Int}:∀ {m:Nat},ip m u u=0→∀ c,c<m→u c=0
 | 0,_,c,hc=>by omega
 | m+1,h,c,hc=>by
  have h1:ip m u u+u m*u m=0:=h
  have h2:=ip_nn m u
  have h3:=sq_nn (u m)
  by_cases e:c=m
  ·have:u m*u m=0:=by omega
   rw [e]; rcases Int.mul_eq_zero.1 this with h | h <;> exact h
  ·exact ip_zero (m:=m) qN c qN
theorem ind_of_vol (h:dm m b n≠0):Ind m n b:=by
 have hne:∀ t,t≤n→dG (gr m b) t≠0:=by
  intro t
  induction t with
  | zero=>intro _; rw [sF]; decide
  | succ s ih =>
   intro hs h0
   have hs0:=ih qN
   have hw:ip m (wv m b s) (wv m b s)=0:=by rw [wv_wv,h0,Int.mul_zero]
   have hz:=ip_zero hw
   refine h ?_
   unfold dm
   rw [dG_det]
   refine kernel_det (i:=s) qN (u:=fun i=>if i≤s then cf (gr m b) s (s - i) else 0) ?_ fun j hj=>?_
   ·simp only [if_pos (Nat.le_refl s),Nat.sub_self]
    rw [cf_zero]; exact hs0
   ·have h1:ip m (wv m b s) (b j)=0:=eT fun c hc=>by rw [hz c hc,Int.zero_mul]
    rw [ip_wv] at h1
    obtain ⟨e,he⟩:∃ e,n=(s+1)+e:=⟨n - (s+1),by omega⟩
    rw [he,r7,eT (n:=e) fun i hi=>by simp only [if_neg (show ¬ s+1+i≤s by omega),Int.zero_mul],Int.add_zero,← h1,← isum_rev]
    refine bI fun r hr=>?_
    simp only [show s+1 - 1 - r≤s by omega,if_true]
    rw [show s - (s+1 - 1 - r)=r by omega,show s+1 - 1 - r=s - r by omega,Int.mul_comm]; rfl
 exact fun t ht=>dG_pos (n:=n) hne t ht
theorem vol_of_ind (h:Ind m n b):dm m b n≠0:=by have:=h n (Nat.le_refl _); omega
end
section
variable {a b b' u:Mx} {m n D K k:Nat}
theorem redr_lb (hm:m<18446744073709551616) (hk:k<n):∀ (j:Nat) {b u:Mx} {K:Nat},j≤k→LB a m n D K b u→∃ K',LB a m n D K' (m9 m k j b u).1 (m9 m k j b u).2
 | 0,_,_,K,_,h=>⟨K,h⟩
 | j+1,_,_,_,hj,h=>by
  rw [nP]
  exact redr_lb hm hk j qN (h.redq hk qN (h.qz hm hk qN))
theorem redr_rows:∀ (j:Nat) (b u:Mx) (i c:Nat),i≠k→(m9 m k j b u).1 i c=b i c
 | 0,_,_,_,_,_=>rfl
 | j+1,b,u,i,c,h=>by
  rw [nP,redr_rows j _ _ i c h]
  unfold redq; rw [if_neg h]
theorem redr_LB (hm:m<18446744073709551616) (hk:k<n) (hK:n*(D+1)≤K) (h:LB a m n D K b u):LB a m n D K (m9 m k k b u).1 (m9 m k k b u).2:=by
 obtain ⟨w,ws⟩:=p7 (u:=u) hk h.ind
 obtain ⟨K',h'⟩:=redr_lb hm hk k (Nat.le_refl _) h
 exact h.full hk hK w ws (fun i c hi=>redr_rows k _ _ i c hi) h'.ua h'.un
theorem lrun_LB (hm:m<18446744073709551616) (hK:n*(D+1)≤K):∀ {f:Nat} {b u:Mx} {k:Nat} {R:Mx×Mx},oS m n f b u k=some R→1≤k→LB a m n D K b u→LB a m n D K R.1 R.2
 | 0,b,u,k,R,h,_,_=>by simp [oS] at h
 | f+1,b,u,k,R,h,hk,hb=>by
  rw [oS] at h
  split at h
  ·obtain rfl:(b,u)=R:=by simpa using h
   exact hb
  ·rename_i hn
   have h1:=redr_LB hm (show k<n by omega) hK hb
   split at h
   ·exact lrun_LB hm hK h qN h1
   ·rename_i hf
    exact lrun_LB hm hK h qN (h1.swb hk qN hf)
end
theorem rv_vv (r:Row):rv r=fun c=>(vv r).getD c 0:=by
 funext c
 unfold rv
 by_cases h:c<r.length
 ·exact (lO r c h).symm
 ·rw [gE,gE,List.getElem?_eq_none qN,List.getElem?_eq_none (by rw [cV]; omega)]; rfl
theorem rvm_ww (m:List Row):rvm m=mx (ww m):=by
 funext i c
 unfold rvm mx
 rw [rv_vv,nI]
theorem rvm_cn (M:List (List Int)):rvm (M.map (·.map cn))=mx M:=by rw [rvm_ww,ww_cn]
noncomputable def lrr (m n:Nat) (B:Mx):Mx×Mx:=Classical.epsilon fun R=>∃ f,oS m n f B one 1=some R
theorem lrr_spec {m n:Nat} {B:Mx} (h:Ind m n B):∃ f,oS m n f B one 1=some (lrr m n B):=by
 have h1:∃ R,∃ f,oS m n f B one 1=some R:=by
  obtain ⟨f,R,h⟩:=rY (m:=m) (n:=n) _ B one 1 (Nat.le_refl _) h (Nat.le_refl _)
  exact ⟨R,f,h⟩
 exact Classical.epsilon_spec h1
theorem lrr_eq {m n f:Nat} {B:Mx} {R:Mx×Mx} (hi:Ind m n B) (h:oS m n f B one 1=some R):lrr m n B=R:=by
 obtain ⟨g,hg⟩:=lrr_spec hi
 exact lrun_one hg h
theorem linD_dm (a:List Row):linD a=dm (a.getD 0 []).length (rvm a) a.length:=by unfold linD gmx dm; rw [dG_det]
theorem vY (a:List Row):Ind (a.getD 0 []).length a.length (rvm a)↔linD a≠0:=by
 rw [linD_dm]
 exact ⟨vol_of_ind,ind_of_vol⟩
noncomputable def lrd (a:List Row):Mx×Mx:=lrr (a.getD 0 []).length a.length (rvm a)
noncomputable def lred (a:List Row):List (List Int)×List (List Int)×Int :=
 if right a then (if linD a=0 then ([],[],8) else (matL a.length (a.getD 0 []).length (lrd a).1,matL a.length a.length (lrd a).2,0)) else ([],[],1)
theorem lReduceT (v:Value) (a:List Row) (k:Nat) (hf:Fits k a) (hk:k≤1048576) (ln:a.length≤1024) (lc:(a.getD 0 []).length≤1048576) (hZ:lZ k a.length≤268435456) :
  Meets Tryz.prog 30 [v] [(v,W a)] (fun r os fs=>os=[]∧∃ q w,r=.tuple #[q,w,.int .i64 (lred a).2.2]∧fs=[(q,wd (lred a).1),(w,wd (lred a).2.1)]):=by
 refine (lReduce_meets v a k (lrd a) hf hk ln lc hZ fun _ h=>lrr_spec h).closed ?_
 rintro r os fs ⟨rfl,⟨h,rfl,rfl⟩ | ⟨h,hi,rfl,rfl⟩ | ⟨h,hi,q,w,vs,ws,h1,h2,h3,h4,rfl,rfl⟩⟩
 ·have e:lred a=([],[],1):=if_neg h
  exact ⟨_,_,⟨rfl,_,_,by rw [e],rfl⟩,a7 (by rw [e]; exact dM 1 _) (a7 (by rw [e]; exact dM 1 _) (Seals.refl _ _))⟩
 ·have e:lred a=([],[],8):=by unfold lred; rw [if_pos h,if_pos (Classical.byContradiction fun hne=>hi ((vY a).2 hne))]
  exact ⟨_,_,⟨rfl,_,_,by rw [e],rfl⟩,a7 (by rw [e]; exact dM 1 _) (a7 (by rw [e]; exact dM 1 _) (Seals.refl _ _))⟩
 ·have e:lred a=(matL a.length (a.getD 0 []).length (lrd a).1,matL a.length a.length (lrd a).2,0):=by unfold lred; rw [if_pos h,if_neg ((vY a).1 hi)]
  refine ⟨_,_,⟨rfl,q,w,by rw [e],rfl⟩,?_⟩
  rw [e]
  exact aA (Seals.made h1 h3) (aA (Seals.made h2 h4) (aB qS))
def tG (M:List (List Int)):Mx:=gr (M.getD 0 []).length (mx M)
theorem gmx_cn (M:List (List Int)):gmx (M.map (·.map cn))=tG M:=by
 unfold gmx tG
 rw [rvm_cn,tI,List.length_map]
theorem linD_cn (M:List (List Int)):linD (M.map (·.map cn))=det M.length (tG M):=by
 unfold linD
 rw [gmx_cn,List.length_map]
theorem lred_cn {M R1 R2:List (List Int)} {f:Nat} (hr:right M) (hd:det M.length (tG M)≠0) (h:(oS (M.getD 0 []).length M.length f (mx M) one 1).map (fun R=>(matL M.length (M.getD 0 []).length R.1,matL M.length M.length R.2))=some (R1,R2)) :
  lred (M.map (·.map cn))=(R1,R2,0):=by
 have hC:((M.map (·.map cn)).getD 0 []).length=(M.getD 0 []).length:=by rw [tI,List.length_map]
 unfold lred
 rw [if_pos ((right_cn M).2 hr),linD_cn,if_neg hd]
 obtain ⟨R,e1,e2⟩:=Option.map_eq_some_iff.1 h
 have hi:Ind ((M.map (·.map cn)).getD 0 []).length (M.map (·.map cn)).length (rvm (M.map (·.map cn))):=(vY _).2 (by rw [linD_cn]; exact hd)
 have e3:lrd (M.map (·.map cn))=R:=by
  unfold lrd
  rw [rvm_cn,hC,List.length_map]
  rw [rvm_cn,hC,List.length_map] at hi
  exact lrr_eq hi e1
 rw [e3,hC,List.length_map]
 simp only [Prod.mk.injEq] at e2
 rw [e2.1,e2.2]
theorem exallT (v w:Value) (x y:List Int) (h:x=y):Meets Tryz.prog 26 [v,w] [(v,vd x),(w,vd y)] (fun r os fs=>os=[]∧fs=[]∧r=.bool true):=by
 have:=exactAllW v w x y
 rw [decide_eq_true h] at this
 exact this
theorem exT (v w:Value) (x y:Int) (h:x=y):Meets Tryz.prog 47 [v,w] [(v,zd x),(w,zd y)] (fun r os fs=>os=[]∧fs=[]∧r=.bool true):=by
 have:=exactW v w x y
 rw [decide_eq_true h] at this
 exact this
noncomputable def M1 (a:List Row):List (List Int):=matL a.length (a.getD 0 []).length (lrd a).1
noncomputable def M2 (a:List Row):List (List Int):=matL a.length a.length (lrd a).2
theorem M1_at (a:List Row) {i c:Nat} (hi:i<a.length) (hc:c<(a.getD 0 []).length):mx (M1 a) i c=(lrd a).1 i c:=matL_at _ hi hc
structure Rdd (a:List Row) (k:Nat):Prop where
 lb:LB (rvm a) (a.getD 0 []).length a.length (lD k a.length) (lK k a.length) (lrd a).1 (lrd a).2
 rd:Rdc (a.getD 0 []).length (lrd a).1 a.length
 dn:dm (a.getD 0 []).length (lrd a).1 a.length=dm (a.getD 0 []).length (rvm a) a.length
theorem rdd {a:List Row} {k:Nat} (hf:Fits k a) (hr:right a) (ln:a.length≤1024) (lc:(a.getD 0 []).length≤1048576) (hI:Ind (a.getD 0 []).length a.length (rvm a)):Rdd a k:=by
 obtain ⟨f,hf'⟩:=lrr_spec hI
 have hs:=(Sv.start hf lc ln hI).lb
 have hn:=hr.1
 obtain ⟨h1,h2,h3⟩:=lrun_red hf' (Nat.le_refl _) qN hI fun i h1 h2=>by omega
 exact ⟨lrun_LB qN (by unfold lK; omega) hf' (Nat.le_refl _) hs,h1,h3⟩
section
variable {a:List Row} {k:Nat}
theorem Rdd.len (_:Rdd a k):(M1 a).length=a.length:=matL_len _ _ _
end
theorem lred_ok {a:List Row} (hr:right a) (hI:Ind (a.getD 0 []).length a.length (rvm a)):lred a=(M1 a,M2 a,0):=by
 unfold lred
 rw [if_pos hr,if_neg ((vY a).1 hI)]; rfl
structure Lil (P:List Int) (m t y:Int) (d n:Nat):Prop where
 ok:sT P m t y n
 dg:dg P=d+1
 n1:1≤n
 n2:n≤2
 dn:d*n≤4
 d1:1≤d
 P1:szR 1 P
 Pl:P.length≤4
 m1:sz m 1
 t1:sz t 1
 y1:sz y 1
def lA (P:List Int) (m t y:Int) (d n:Nat):List (List Int):=(shp d n).map fun s=>rowV (shp d n) (fP t) (fP y) (matG P m n s)
section
variable {P:List Int} {m t y:Int} {d n:Nat}
theorem Lil.pos (h:Lil P m t y d n):1≤m∧0≤t∧0≤y:=h.ok.2
theorem Lil.len (h:Lil P m t y d n):(shp d n).length≤9:=by
 obtain ⟨h1,h2,h3,h4⟩:=And.intro h.n1 (And.intro h.n2 (And.intro h.dn h.d1))
 have hn:n=1∨n=2:=by omega
 rcases hn with rfl | rfl
 ·have hd:d=1∨d=2∨d=3∨d=4:=by omega
  rcases hd with rfl | rfl | rfl | rfl <;> decide
 ·have hd:d=1∨d=2:=by omega
  rcases hd with rfl | rfl <;> decide
theorem lst1_pos {x:Int} (h:0≤x):1≤fP x:=by unfold fP; split <;> omega
theorem Lil.sz (h:Lil P m t y d n):SzOk P m d n (fP t) (fP y) :=
 ⟨h.dg,h.d1,h.pos.1,lst1_pos h.pos.2.1,lst1_pos h.pos.2.2,by have:=h.len; omega⟩
theorem Lil.mat (h:Lil P m t y d n):matR P m t y n=(lA P m t y d n,0):=by
 unfold matR
 rw [if_pos h.ok,h.dg,Nat.add_sub_cancel,Int.toNat_natCast]; rfl
theorem lA_len (P:List Int) (m t y:Int) (d n:Nat):(lA P m t y d n).length=(shp d n).length:=List.length_map _
theorem lA_row {P:List Int} {m t y:Int} {d n i:Nat} (hi:i<(shp d n).length):(lA P m t y d n).getD i []=rowV (shp d n) (fP t) (fP y) (matG P m n ((shp d n).getD i (0,0))):=by
 unfold lA
 simp [gE,hi]
theorem rowV_len (s:List (Nat×Nat)) (T Y:Int) (G:List (List Int)):(rowV s T Y G).length=s.length:=List.length_map _
theorem lA_mx {P:List Int} {m t y:Int} {d n i c:Nat} (hi:i<(shp d n).length) (hc:c<(shp d n).length):mx (lA P m t y d n) i c=amat P m d n (fP t) (fP y) i c:=by
 unfold mx
 rw [lA_row hi]
 unfold rowV amat
 simp [gE,hc]
theorem Lil.n0 (_:Lil P m t y d n):0<(shp d n).length:=by have:=shp_big d n; omega
theorem Lil.row0 (h:Lil P m t y d n):((lA P m t y d n).getD 0 []).length=(shp d n).length:=by rw [lA_row h.n0,rowV_len]
theorem Lil.right (h:Lil P m t y d n):right (lA P m t y d n):=by
 have h0:=h.n0
 refine ⟨by rw [lA_len]; exact h0,fun r hr=>?_⟩
 rw [h.row0]
 obtain ⟨s,_,rfl⟩:=List.mem_map.1 hr
 rw [rowV_len]; exact ⟨h0,rfl⟩
theorem Lil.ent (h:Lil P m t y d n) {s:Nat×Nat} (hs:s∈shp d n) (u v:Nat):Go.Proofs.YtjebljkoiaojaaaGreat.sz (gv (matG P m n s) u v) 7:=by
 have h1:=h.sz.small hs
 have hd4:d≤4:=by
  have:=Nat.mul_le_mul_left d h.n1
  have:=h.dn
  omega
 have h2:szR 1 (nrm P):=h.P1.nrm
 have hl:Lg (toW (j9 (nrm P))) (j9 (nrm P)) 1 5:=(glJ_lg h2 (Nat.le_refl _) (by have:(nrm P).length=d+1:=h.dg; omega) qE).toW
 have hn2:=h.n2
 have h3:Go.Proofs.YtjebljkoiaojaaaGreat.sz (m^(n - s.2)) 3:=(lP h.m1 (n - s.2)).mono qN
 have h4:=gpw_lg hl (gone_lg (n:=24) h3 (show s.1+1≤24 by omega)) qE s.2 (by have:s.2*5≤2*5:=Nat.mul_le_mul_right _ qN; omega)
 exact (h4.gv u v).mono (by have:s.2*(1+1)≤2*(1+1):=Nat.mul_le_mul_right _ qN; omega)
theorem Lil.small (h:Lil P m t y d n) {s:Nat×Nat} (hs:s∈shp d n):s.1≤4∧s.2≤4∧s.2≤n:=by
 have h1:=h.sz.small hs
 have h2:d*(n - s.2)≤d*n:=Nat.mul_le_mul_left _ qN
 have:=h.dn
 have:=h.n2
 omega
theorem Lil.scl (h:Lil P m t y d n) {s:Nat×Nat} (hs:s∈shp d n):Go.Proofs.YtjebljkoiaojaaaGreat.sz (jE (fP t) (fP y) s) 10 :=
 (sclV_sz (lst1_sz h.t1 (Nat.le_refl _)) (lst1_sz h.y1 (Nat.le_refl _)) ⟨(h.small hs).1,(h.small hs).2.1⟩).mono qE
theorem Lil.szM (h:Lil P m t y d n):szM 17 (lA P m t y d n):=fun r hr x hx=>by
 obtain ⟨s,hs,rfl⟩:=List.mem_map.1 hr
 obtain ⟨p,hp,rfl⟩:=List.mem_map.1 hx
 exact (h.ent hs p.1 p.2).mul (h.scl hp)
theorem Lil.fits (h:Lil P m t y d n):Fits 17 ((lA P m t y d n).map (·.map cn)):=h.szM.fits
theorem map_right {M:List (List Int)} (h:Go.Proofs.YtjebljkoiaojaaaGreat.right M):Go.Proofs.YtjebljkoiaojaaaGreat.right (M.map (·.map cn)):=by
 have h0:((M.map (·.map cn)).getD 0 []).length=(M.getD 0 []).length:=by
  simp [gE,h.1]
 refine ⟨by rw [List.length_map]; exact h.1,fun r hr=>?_⟩
 obtain ⟨l,hl,rfl⟩:=List.mem_map.1 hr
 rw [h0,List.length_map]
 exact h.2 l hl
theorem map_row0 {M:List (List Int)} (h:Go.Proofs.YtjebljkoiaojaaaGreat.right M):((M.map (·.map cn)).getD 0 []).length=(M.getD 0 []).length:=by
 simp [gE,h.1]
abbrev lW (P:List Int) (m t y:Int) (d n:Nat):List Row:=(lA P m t y d n).map (·.map cn)
theorem tE (P:List Int) (m t y:Int) (d n:Nat):(lW P m t y d n).length=(shp d n).length:=by rw [List.length_map,lA_len]
theorem Lil.wrow0 (h:Lil P m t y d n):((lW P m t y d n).getD 0 []).length=(shp d n).length:=by rw [map_row0 h.right,h.row0]
theorem lW_rvm (P:List Int) (m t y:Int) (d n:Nat):rvm (lW P m t y d n)=mx (lA P m t y d n):=rvm_cn _
theorem Lil.ind (h:Lil P m t y d n):Ind ((lW P m t y d n).getD 0 []).length (lW P m t y d n).length (rvm (lW P m t y d n)):=by
 refine (vY _).2 ?_
 unfold linD gmx
 rw [tE,h.wrow0,lW_rvm]
 have e:det (shp d n).length (gr (shp d n).length (mx (lA P m t y d n)))=det (shp d n).length (mm (shp d n).length (mx (lA P m t y d n)) (tp (mx (lA P m t y d n)))):=rfl
 rw [e,det_mul,pB,bP (B:=amat P m d n (fP t) (fP y)) fun i j hi hj=>lA_mx hi hj]
 exact Int.mul_ne_zero h.sz.det_ne h.sz.det_ne
noncomputable def lR (P:List Int) (m t y:Int) (d n:Nat):List (List Int):=M1 (lW P m t y d n)
theorem Lil.red (h:Lil P m t y d n):lred (lW P m t y d n)=(lR P m t y d n,M2 (lW P m t y d n),0):=lred_ok (map_right h.right) h.ind
theorem Lil.rdd (h:Lil P m t y d n):Rdd (lW P m t y d n) 17:=Go.Proofs.YtjebljkoiaojaaaGreat.rdd h.fits (map_right h.right) (by rw [tE]; have:=h.len; omega) (by rw [h.wrow0]; have:=h.len; omega) h.ind
theorem Lil.rlen (h:Lil P m t y d n):(lR P m t y d n).length=(shp d n).length:=by rw [lR,h.rdd.len,tE]
theorem Lil.rrow (h:Lil P m t y d n) {i:Nat} (hi:i<(shp d n).length):((lR P m t y d n).getD i []).length=(shp d n).length:=by
 unfold lR M1
 rw [matL_row _ (by rw [tE]; exact hi),h.wrow0]; simp
theorem Lil.lb (h:Lil P m t y d n):LB (mx (lA P m t y d n)) (shp d n).length (shp d n).length (lD 17 (shp d n).length) (lK 17 (shp d n).length) (lrd (lW P m t y d n)).1 (lrd (lW P m t y d n)).2:=by
 have:=h.rdd.lb
 rw [h.wrow0,tE,lW_rvm] at this
 exact this
theorem Lil.rat (h:Lil P m t y d n) {i c:Nat} (hi:i<(shp d n).length) (hc:c<(shp d n).length):((lR P m t y d n).getD i []).getD c 0=(lrd (lW P m t y d n)).1 i c :=
 M1_at (lW P m t y d n) (by rw [tE]; exact hi) (by rw [h.wrow0]; exact hc)
theorem lK_le {N:Nat} (h:N≤9):lK 17 N≤4000∧lZ 17 N≤268435456:=by
 have hN:N=0∨N=1∨N=2∨N=3∨N=4∨N=5∨N=6∨N=7∨N=8∨N=9:=by omega
 rcases hN with rfl | rfl | rfl | rfl | rfl | rfl | rfl | rfl | rfl | rfl <;> decide
theorem Lil.rsz (h:Lil P m t y d n) {i:Nat} (hi:i<(shp d n).length):szR 4000 ((lR P m t y d n).getD i []):=fun x hx=>by
 obtain ⟨c,hc,rfl⟩:=mem_getD 0 hx
 have hc':c<(shp d n).length:=by rw [← h.rrow hi]; exact hc
 rw [h.rat hi hc']
 exact (h.lb.bz i c hi hc').mono (lK_le h.len).1
theorem Lil.hm (h:Lil P m t y d n):Go.Proofs.YtjebljkoiaojaaaGreat.sz (m^n) 3:=(lP h.m1 n).mono (by have:=h.n2; omega)
noncomputable def lF (P:List Int) (m t y:Int) (d n:Nat):List Int×Bool:=tJ (shp d n) (fP t) (fP y) (m^n) (lR P m t y d n)
theorem two_rows (h:Lil P m t y d n):2≤(shp d n).length:=by
 have:=shp_big d n
 have h1:=Nat.mul_le_mul h.d1 h.n1
 omega
theorem Lil.gsz (h:Lil P m t y d n) {i:Nat} (hi:i<(shp d n).length) (hs:oI ((lR P m t y d n).getD i [])<m^n) :
  supp d (d*n) (lI (shp d n) (fP t) (fP y) ((lR P m t y d n).getD i []))∧∀ u v,(gv (lI (shp d n) (fP t) (fP y) ((lR P m t y d n).getD i [])) u v).natAbs≤(m^n).natAbs:=by
 have hb:∀ p,p∈shp d n→p.1≤100∧p.2≤100:=fun p hp=>by have:=h.small hp; omega
 constructor
 ·intro u v hne
  rw [uC hb] at hne
  rcases gFs_get (s:=shp d n) (T:=fP t) (Y:=fP y) (R:=(lR P m t y d n).getD i []) (u:=u) (v:=v) (shp d n).length with ⟨j,hj,_,e⟩ | e
  ·have hm:(u,v)∈shp d n:=by rw [← e]; exact dT (0,0) hj
   have h1:=uT.1 hm
   have h2:d*(n - v)+d*v=d*n:=by rw [← Nat.mul_add]; congr 1; omega
   omega
  ·exact absurd e hne
 ·intro u v
  rw [uC hb]
  rcases gFs_get (s:=shp d n) (T:=fP t) (Y:=fP y) (R:=(lR P m t y d n).getD i []) (u:=u) (v:=v) (shp d n).length with ⟨j,hj,e,_⟩ | e
  ·rw [e]
   have h1:=Int.natAbs_ediv_le_natAbs (((lR P m t y d n).getD i []).getD j 0) (jE (fP t) (fP y) (u,v))
   have h2:=asum_mem (dT 0 (l:=(lR P m t y d n).getD i []) (i:=j) (by rw [h.rrow hi]; exact hj))
   omega
  ·rw [e]; simp
theorem Lil.fsz (h:Lil P m t y d n) (hf:(lF P m t y d n).2=true):szR 9 (lF P m t y d n).1∧(lF P m t y d n).1.length≤9∧0<Go.Proofs.YtjebljkoiaojaaaGreat.dg (lF P m t y d n).1∧oI ((lR P m t y d n).getD 0 [])<m^n∧oI ((lR P m t y d n).getD 1 [])<m^n ∧
  (lF P m t y d n).1=gel (lI (shp d n) (fP t) (fP y) ((lR P m t y d n).getD 0 [])) (lI (shp d n) (fP t) (fP y) ((lR P m t y d n).getD 1 [])):=by
 have h2:=two_rows h
 by_cases hs:oI ((lR P m t y d n).getD 0 [])<m^n∧oI ((lR P m t y d n).getD 1 [])<m^n
 ·have e:lF P m t y d n=_:=if_pos hs
  obtain ⟨g1,g2⟩:=h.gsz (i:=0) qN hs.1
  obtain ⟨g3,g4⟩:=h.gsz (i:=1) qN hs.2
  rw [e] at hf ⊢
  dsimp only at hf ⊢
  have hl9:=gel_len9 g1 g3 h.d1 h.n2 h.dn
  generalize hGE:gel (lI (shp d n) (fP t) (fP y) ((lR P m t y d n).getD 0 [])) (lI (shp d n) (fP t) (fP y) ((lR P m t y d n).getD 1 []))=E at *
  refine ⟨?_,hl9,of_decide_eq_true hf,hs.1,hs.2,rfl⟩
  rw [← hGE]
  clear hl9 hf e
  clear hGE
  clear E
  have h3:=lP h.m1 n
  refine gel_sz9 g1 g3 h.d1 h.n2 h.dn (M:=(m^n).natAbs) ?_ g2 g4
  have h4:(m.natAbs)<18446744073709551616:=by have:=h.m1; unfold Go.Proofs.YtjebljkoiaojaaaGreat.sz at this; omega
  have h5:=h.n1
  have h6:=h.n2
  rw [Int.natAbs_pow]
  have hn:n=1∨n=2:=by omega
  rcases hn with rfl | rfl
  ·rw [Nat.pow_one]; exact Nat.lt_of_lt_of_le h4 (Nat.le_of_ble_eq_true rfl)
  ·exact Nat.pow_lt_pow_left h4 qE
 ·have e:lF P m t y d n=([],false):=by
   unfold lF tJ
   rw [if_neg hs]
  rw [e] at hf; simp at hf
end
structure SolveOk (P:List Int) (m t y:Int) (d n:Nat) (L:List Int) (dec:Bool):Prop where
 und:(lF P m t y d n).2=false→L=[]∧dec=false
 ok:(lF P m t y d n).2=true→dec=true∧∃ O e,FlSpec (lF P m t y d n).1 (-t) t O e∧L=(inRt (lF P m t y d n).1 O).filter fun x=>near (pev P x) m y
theorem ch9:Ch0 9 9 2:=⟨by decide,by decide,by decide,by decide,by decide,by decide⟩
theorem filter_succ {f:Int→Bool} {L:List Int} {i:Nat} (h:i<L.length):(L.take (i+1)).filter f=if f (L.getD i 0)=true then (L.take i).filter f++[L.getD i 0] else (L.take i).filter f:=by
 rw [List.take_add_one,List.getElem?_eq_getElem h,List.filter_append,gE,List.getElem?_eq_getElem h]
 simp only [Option.toList,Option.getD_some,List.filter_cons,List.filter_nil]
 split <;> simp
set_option maxHeartbeats 4000000 in
theorem slzSolve_ok (v w u z:Value) (p:Row) (m t y:Bool×List Nat) (d n:Nat) (hp:Fit 1 p) (hm:Lim m.2) (hma:m.2.length≤1) (ht:Lim t.2) (hta:t.2.length≤1) (hy:Lim y.2) (hya:y.2.length≤1)
  (h:Lil (vv p) (jv m) (jv t) (jv y) d n) :
  Meets Tryz.prog 28 [v,w,u,z,.int .i64 (n:Int)] [(v,V p),(w,J m),(u,J t),(z,J y)] (fun r os fs=>os=[]∧∃ q L dec,r=.tuple #[q,.bool dec,.int .i64 0]∧SolveOk (vv p) (jv m) (jv t) (jv y) d n L dec∧fs=[(q,vd L)]):=by
 have lp:p.length≤4:=by have:=h.Pl; rwa [cV] at this
 have hn2:=h.n2
 have hin:inK .i64 (n:Int):=by simp only [inK]; omega
 have hpl:=fun y1 y2 y3=>m8 v y1 y2 y3 p m t y n 1 1 hp qN qE hm hma ht hta hy hya qE hin
 rw [show planR (vv p) (jv m) (jv t) (jv y) n=(jH (shp (dg (vv p) - 1) (n:Int).toNat) (fP (jv t)) (fP (jv y)) (jv m^(n:Int).toNat),0) from if_pos h.ok,h.dg,Nat.add_sub_cancel,Int.toNat_natCast] at hpl
 have hmx:=fun y1 y2 y3=>kP v y1 y2 y3 p m t y n 1 1 hp qN qE qE hm hma ht hta hy hya qE qE hin
 rw [h.mat] at hmx
 have h9:=h.len
 have hrd:∀ y1,Meets Tryz.prog 30 [y1] [(y1,wd (lA (vv p) (jv m) (jv t) (jv y) d n))] (fun r os fs=>os=[]∧∃ q w,r=.tuple #[q,w,.int .i64 0]∧fs=[(q,wd (lR (vv p) (jv m) (jv t) (jv y) d n)),(w,wd (M2 (lW (vv p) (jv m) (jv t) (jv y) d n)))]):=fun y1=>by
  have:=lReduceT y1 (lW (vv p) (jv m) (jv t) (jv y) d n) 17 h.fits qE (by rw [tE]; omega) (by rw [h.wrow0]; omega) (by rw [tE]; exact (lK_le h9).2)
  rw [h.red] at this
  exact this
 have h22:=two_rows h
 have hfd:=fun y1 y2=>slzfound_meets y1 y2 (shp d n) (fP (jv t)) (fP (jv y)) (jv m^n) (lR (vv p) (jv m) (jv t) (jv y) d n) 4000 10 3 (fun p hp=>by have:=h.small hp; omega) qN (by rw [h.rlen]; omega) (fun i hi=>⟨h.rrow qN,h.rsz qN⟩) qE
  (fun s hs=>⟨h.scl hs,sclV_ne (lst1_ne _) (lst1_ne _) s⟩) qE h.hm qE
 have hfz:=h.fsz
 have hlF:tJ (shp d n) (fP (jv t)) (fP (jv y)) (jv m^n) (lR (vv p) (jv m) (jv t) (jv y) d n)=lF (vv p) (jv m) (jv t) (jv y) d n:=rfl
 rw [hlF] at hfd
 have hS:∀ L dec,((lF (vv p) (jv m) (jv t) (jv y) d n).2=false→L=[]∧dec=false)→((lF (vv p) (jv m) (jv t) (jv y) d n).2=true→dec=true∧∃ O e,FlSpec (lF (vv p) (jv m) (jv t) (jv y) d n).1 (-jv t) (jv t) O e∧L=(inRt (lF (vv p) (jv m) (jv t) (jv y) d n).1 O).filter fun x=>near (pev (vv p) x) (jv m) (jv y))→SolveOk (vv p) (jv m) (jv t) (jv y) d n L dec:=fun L dec a b=>⟨a,b⟩
 have hm0:=h.pos.1
 have hP:=h.P1
 have zt:=h.t1
 clear h
 generalize lF (vv p) (jv m) (jv t) (jv y) d n=F at *
 generalize lR (vv p) (jv m) (jv t) (jv y) d n=R at *
 generalize lA (vv p) (jv m) (jv t) (jv y) d n=A at *
 generalize M2 _=U at *
 generalize hSS:shp d n=S at *
 generalize jv m^n=M at *
 generalize fP (jv t)=T at *
 generalize fP (jv y)=Y at *
 obtain ⟨f,b⟩:=F
 simp only at hfd hfz hS
 refine mV Tryz.func28 ?_
 refine bA (aC (d:=J m) qM) fun b1 h1=>?_
 refine bA (aC (d:=J t) qM) fun b2 h2=>?_
 refine bA (aC (d:=J y) qM) fun b3 h3=>?_
 refine aF (d:=J m) 2 rfl h1 rfl (bM _) fun y1=>?_
 refine aF (d:=J t) 1 rfl h2 rfl (bM _) fun y2=>?_
 refine aF (d:=J y) 0 rfl h3 rfl (bM _) fun y3=>?_
 refine cF (hpl y1 y2 y3) ?_
 rintro _ _ _ ⟨rfl,q,rfl,rfl⟩
 refine aM (d:=fC) fun bp hbp=>?_
 refine aI (d:=jH S T Y M) 0 rfl hbp rfl qK (aC qM) ?_
 refine cX rfl (fun h=>h rfl) ?_
 refine aF (d:=J m) 3 rfl h1 rfl (bM _) fun y4=>?_
 refine aF (d:=J t) 2 rfl h2 rfl (bM _) fun y5=>?_
 refine aF (d:=J y) 1 rfl h3 rfl (bM _) fun y6=>?_
 refine cF (hmx y4 y5 y6) ?_
 rintro _ _ _ ⟨rfl,q2,rfl,rfl⟩
 refine cF (hrd q2) ?_
 rintro _ _ _ ⟨rfl,q3,q4,rfl,rfl⟩
 refine aF (d:=jH S T Y M) 0 rfl hbp rfl (qW _ _ _ _) fun y7=>?_
 refine cF (hfd y7 q3) ?_
 rintro _ _ _ ⟨rfl,q5,rfl,rfl⟩
 cases b with
 | false =>
  exact fin ⟨rfl,.slice none 0 0,[],false,rfl,hS _ _ (fun _=>⟨rfl,rfl⟩) (fun h=>by simp at h),rfl⟩ (dS (dS (dS (dS (a7 (dM 2 _) (aH _ _))))))
 | true =>
  obtain ⟨sf,lf,df,_,_,_⟩:=hfz rfl
  have hch:ChOk (vv (f.map cn)) 9 9 (1+1):=ch9.of sf.fit (by rw [List.length_map]; exact lf)
  have hIn:=fun y1 y2=>in_meets q5 y1 y2 (f.map cn) (cn (-jv t)) t 9 9 1 sf.fit (by rw [List.length_map]; exact lf) (a0 _) zt.neg.len ht hta qE qE hch
  simp only [fR,eR] at hIn
  have hng:=fun y1=>zneg_meets y1 t.1 t.2 ht qN
  have hit:iv t.1 t.2=jv t:=rfl
  rw [hit] at hng
  refine aY [0,1,3,2,4,5,6,7,8,9] [0,1,2,3,4,5,6,8,7,9] qK qK ?_
  refine aF (d:=J t) 2 rfl h2 rfl (bM _) fun y8=>?_
  refine aF (d:=J t) 2 rfl h2 rfl (bM _) fun y9=>?_
  refine cG (hng y8) fun y10=>?_
  refine cF (hIn y10 y9) ?_
  rintro _ _ _ ⟨rfl,q6,O,e,rfl,hO,rfl⟩
  have hmem:∀ x,x∈inRt f O→sz x 1:=fun x hx=>by
   have h1:=(List.mem_filter.1 hx).1
   have h2:=hO.mem x h1
   exact oZ zt.neg zt h2.1 h2.2
  have hfew:(inRt f O).length≤1048578:=Nat.le_trans (List.length_filter_le _ _) hO.few
  have hRes:=hS ((inRt f O).filter fun x=>near (pev (vv p) x) (jv m) (jv y)) true (fun h=>by simp at h) fun _=>⟨rfl,O,e,hO,rfl⟩
  clear hS hO hIn hch hng hfd hrd hmx hpl hfz
  generalize inRt f O=Is at *
  refine aT (v:=q6) (n:=(Is.map cn).length) qM fun _=>?_
  refine aO (X:=Nat×Value) (fun x=>([(0,v),(6,b1),(8,b3),(24,x.2),(70,q6),(71,.int .i64 ((Is.map cn).length:Nat)),(72,.int .i64 (x.1:Nat))],
    [jY 2 J z0 x.2 (((Is.take x.1).filter fun x=>near (pev (vv p) x) (jv m) (jv y)).map cn),bE b3 2 1 (fun _=>J y),bE b1 2 1 (fun _=>J m)],[(q6,vd Is),(v,V p)]))
   (fun x=>x.1≤(Is.map cn).length∧isSl x.2) (fun x=>(Is.map cn).length - x.1) rfl ?_ ?_
  ·refine aU (0,.slice none 0 0) ⟨Nat.zero_le _,fZ⟩ trivial qF ?_
   exact dS (aA (aW 1 _ _) (aA (cB _ _ 2 fun i=>J (([]:Row).getD i z0)) (aB qS)))
  rintro ⟨i,ov⟩ ⟨hi,hov⟩
  simp only [List.length_map] at hi ⊢
  simp only at hov ⊢
  have hli:(((Is.take i).filter fun x=>near (pev (vv p) x) (jv m) (jv y)).map cn).length≤1048578:=by
   rw [List.length_map]
   refine Nat.le_trans (List.length_filter_le _ _) ?_
   rw [List.length_take]; omega
  refine aD _ rfl (fun hlt=>?_) (fun hlt=>?_)
  ·have hiI:i<Is.length:=by omega
   have hfs:=filter_succ (f:=fun x=>near (pev (vv p) x) (jv m) (jv y)) hiI
   have hcg:=fE hiI
   have zx:=hmem _ (dT 0 hiI)
   refine aQ (v:=q6) qM i rfl (by rw [List.length_map]; exact hiI) fun a1=>?_
   refine aX (d:=J ((Is.map cn).getD i z0)) qM (bM _) fun y11=>?_
   rw [hcg]
   generalize Is.getD i 0=X at *
   have hv:=fun z=>pValueJ v z p (cn X) 1 1 hp (a0 _) zx.len qN qN
   rw [eR] at hv
   have zv:sz (pev (vv p) X) 1073741824:=(ev_sz hP zx).mono (by rw [cV]; omega)
   have hw:=fun y1 y2 y3=>kO y1 y2 y3 (pev (vv p) X) m y _ zv qE hm qN hy qN qN
   generalize pev (vv p) X=Z at *
   refine aM (d:=I false []) fun bx hbx=>?_
   refine aI (d:=zd X) 0 rfl hbx rfl qK (aC (v:=y11) (d:=zd X) qM) ?_
   refine aY [0,1,3,4,2,5] [0,1,2,3,4,5] qK qK ?_
   refine aF (d:=zd X) 0 rfl hbx rfl (aN _ _) fun y12=>?_
   refine aF (d:=J m) 3 rfl h1 rfl (bM _) fun y13=>?_
   refine aF (d:=J y) 2 rfl h3 rfl (bM _) fun y14=>?_
   refine cG (hv y12) fun y15=>?_
   refine cH (hw y15 y13 y14) ?_
   cases hne:near Z (jv m) (jv y) with
   | true =>
    rw [if_pos hne] at hfs
    refine aF (d:=zd X) 0 rfl hbx rfl (aN _ _) fun y16=>?_
    refine mE (size:=2) J z0 (cn X) qE (aC (v:=y16) (d:=zd X) qM) rfl fun l1=>?_
    refine gX 1 rfl hov (bC qM) (by simp only [List.length_cons,List.length_nil]; omega) (by simp only [List.length_cons,List.length_nil]; omega) fun o2 ho2=>?_
    refine ar rfl qI ?_
    refine aU (i+1,o2) ⟨by simp only [List.length_map]; omega,ho2⟩ (by simp only; omega) qF ?_
    simp only [hfs,List.map_append,List.map_cons,List.map_nil]
    exact dS (aB qS)
   | false =>
    rw [if_neg (by rw [hne]; simp)] at hfs
    refine ar rfl qI ?_
    refine aU (i+1,ov) ⟨by simp only [List.length_map]; omega,hov⟩ (by simp only; omega) qF ?_
    simp only [hfs]
    exact dS (aB qS)
  ·have hiI:i=Is.length:=by omega
   subst hiI
   rw [List.take_length]
   exact fin ⟨rfl,ov,_,true,rfl,hRes,rfl⟩ (aA (dC hov) (dS (dS (aB qS))))
theorem kS (v:Value) (l:List Int) (hl:l.length≤1000) (hz:∀ x,x∈l → -9223372036854775808≤x∧x<9223372036854775808) :
  Meets Tryz.prog 48 [v] [(v,IL l)] (fun r os fs=>os=[]∧fs=[(r,vd l)]):=by
 have hfin:lst l.length (fun i=>l.getD i 0)=l:=by
  have:=lst_map l fun x=>x
  rw [List.map_id'] at this
  exact this
 have hg:∀ i,i<l.length → -9223372036854775808≤l.getD i 0∧l.getD i 0<9223372036854775808:=fun i hi=>hz _ (dT 0 hi)
 refine mV Tryz.func48 ?_
 refine empty_L (size:=2) (e:=26) J z0 qE fun v0 hv0=>?_
 refine aO (X:=Value×Nat) (fun x=>([(0,v),(3,x.1),(4,.int .i64 (x.2:Nat))],[jY 2 J z0 x.1 ((lst x.2 fun i=>l.getD i 0).map cn)],[(v,IL l)])) (fun x=>isSl x.1∧x.2≤l.length) (fun x=>l.length - x.2) rfl ?_ ?_
 ·exact aU (v0,0) ⟨hv0,Nat.zero_le _⟩ trivial qF (aB qS)
 ·rintro ⟨vo,i⟩ ⟨hvo,h2⟩
  simp only at hvo h2 ⊢
  refine aT qM fun _=>?_
  refine aD _ rfl (fun hlt=>?_) (fun hlt=>?_)
  ·have hin:i<l.length:=by omega
   have hll:(lst i fun i=>l.getD i 0).length=i:=eC _ _
   refine aQ qM i rfl hin fun a1=>?_
   refine bO qM ?_
   refine cG (p8 (l.getD i 0) (hg i hin).1 (hg i hin).2) fun y=>?_
   refine mE (size:=2) (f:=J) (z:=z0) (e:=26) (cn (l.getD i 0)) qE (aC qM) rfl fun y4=>?_
   refine gX (size:=2) (e:=26) (f:=J) (z:=z0) (l:=(lst i fun i=>l.getD i 0).map cn) (m:=[cn (l.getD i 0)]) 0 rfl hvo (bC qM) (by simp only [List.length_map,hll,List.length_cons,List.length_nil]; omega) (by simp only [List.length_map,hll,List.length_cons,List.length_nil]; omega) fun vn hvn=>?_
   refine ar rfl qI ?_
   refine aU (vn,i+1) ⟨hvn,by simp only; omega⟩ (by simp only; omega) qF ?_
   rw [show (lst i fun i=>l.getD i 0).map cn++[cn (l.getD i 0)]=(lst (i+1) fun i=>l.getD i 0).map cn by rw [lst_snoc,List.map_append]; rfl]
   exact aB qS
  ·have hii:i=l.length:=by omega
   subst hii
   refine fin ⟨rfl,rfl⟩ (aA (dC hvo) ?_)
   rw [hfin]
   exact aB qS
theorem eZ (x:Int) (h1 : -9223372036854775808≤x) (h2:x<9223372036854775808) :
  Meets Tryz.prog 23 [.int .i64 x] [] (fun r os fs=>os=[]∧fs=[(r,zd x)]):=by
 refine mV Tryz.func23 ?_
 refine aM (d:=I false []) fun o ho=>?_
 refine cG (p8 x h1 h2) fun y=>?_
 refine aI (d:=zd x) 0 rfl ho rfl qK (aC (v:=y) qM) ?_
 refine aF (d:=zd x) 0 rfl ho rfl (aN _ _) fun r=>?_
 exact fin ⟨rfl,rfl⟩ (dS (aB qS))
def nF (p:Row) (m t y:Bool×List Nat) (n:Int):Dat:=.cat (V p) (.cat (J m) (.cat (J t) (.cat (J y) (.one (.int .i64 n)))))
instance iCYo1:TAgg Tryz.prog 28 8:=⟨⟨_,Tryz.underlying28,rfl⟩,by kernel_rfl⟩
instance iCYo2:tQ Tryz.prog 28 0 0:=⟨_,_,Tryz.underlying28,rfl,rfl,0,by kernel_rfl⟩
instance iCYo3:tQ Tryz.prog 28 1 1:=⟨_,_,Tryz.underlying28,rfl,rfl,1,by kernel_rfl⟩
instance iCYo4:tQ Tryz.prog 28 2 3:=⟨_,_,Tryz.underlying28,rfl,rfl,1,by kernel_rfl⟩
instance iCYo5:tQ Tryz.prog 28 3 5:=⟨_,_,Tryz.underlying28,rfl,rfl,1,by kernel_rfl⟩
instance iCYo6:tQ Tryz.prog 28 4 7:=⟨_,_,Tryz.underlying28,rfl,rfl,0,by kernel_rfl⟩
theorem load_ask (p:Row) (m t y:Bool×List Nat) (n:Int):jC Tryz.prog 28 (nF p m t y n):=(inferInstance:TAgg Tryz.prog 28 8)
theorem pt_p (p:Row) (m t y:Bool×List Nat) (n:Int):Part 0 (nF p m t y n) (V p):=aZ (aK _)
theorem pt_m (p:Row) (m t y:Bool×List Nat) (n:Int):Part 1 (nF p m t y n) (J m):=aR (aZ (aK _))
theorem pt_t (p:Row) (m t y:Bool×List Nat) (n:Int):Part 3 (nF p m t y n) (J t):=aR (aR (aZ (aK _)))
theorem pt_y (p:Row) (m t y:Bool×List Nat) (n:Int):Part 5 (nF p m t y n) (J y):=aR (aR (aR (aZ (aK _))))
theorem pt_n (p:Row) (m t y:Bool×List Nat) (n:Int):Part 7 (nF p m t y n) (.one (.int .i64 n)):=aR (aR (aR (aR (aK _))))
theorem little7_meets (v:Value) (p:Row) (m t y:Bool×List Nat) (n:Int) (hn:inK .i64 n) (hp:limR p) :
  Meets Tryz.prog 27 [v] [(v,nF p m t y n)] (fun r os fs=>os=[]∧fs=[]∧∃ b,r=.bool b∧(b=true→smallR 4 1 p∧m.2.length≤1∧t.2.length≤1∧y.2.length≤1∧n≤2∧(1≤n→((dg (vv p):Nat) - 1:Int)*n≤4))):=by
 refine mV Tryz.func27 ?_
 refine mX (aC (d:=nF p m t y n) qM) fun bq=>?_
 refine aY [0,1,2,3,4,5,6,7,8,9,10,11,12,13,14,15,16,17,18,19,20,21,22,23,24,25,26,27,28,29,30,31,33,34,32,35,36,37,38] [0,1,2,3,4,5,6,7,8,9,10,11,12,13,14,15,16,17,18,19,20,21,22,23,24,25,26,27,28,29,30,31,32,33,34,35,36,37,38] qK qK ?_
 refine cQ (p:=bq) (d:=nF p m t y n) qM (pt_p p m t y n) fun a1=>?_
 refine aX (p:=a1) (d:=V p) qM (kX _) fun y1=>?_
 refine cH (rFits_meets y1 p 4 1) ?_
 by_cases hs:p.length≤4∧∀ x,x∈p→x.2.length≤1
 case neg =>
  rw [decide_eq_false hs]
  exact fin ⟨rfl,rfl,false,rfl,fun h=>by simp at h⟩ (aH _ _)
 rw [decide_eq_true hs]
 refine cQ (p:=bq) (d:=nF p m t y n) qM (pt_m p m t y n) fun a1=>?_
 refine cQ (p:=a1) (off:=1) (d:=J m) (d':=U (m).2) qM (aR (aK _)) fun a2=>?_
 refine aX (p:=a2) (d:=U (m).2) qM (dH _) fun u1=>?_
 refine aT (v:=u1) (n:=(m).2.length) qM fun _=>?_
 refine aD _ rfl (fun h1=>?_) (fun h1=>?_)
 case refine_2 =>
  exact fin ⟨rfl,rfl,false,rfl,fun h=>by simp at h⟩ (aH _ _)
 refine cQ (p:=bq) (d:=nF p m t y n) qM (pt_t p m t y n) fun a1=>?_
 refine cQ (p:=a1) (off:=1) (d:=J t) (d':=U (t).2) qM (aR (aK _)) fun a2=>?_
 refine aX (p:=a2) (d:=U (t).2) qM (dH _) fun u1=>?_
 refine aT (v:=u1) (n:=(t).2.length) qM fun _=>?_
 refine aD _ rfl (fun h2=>?_) (fun h2=>?_)
 case refine_2 =>
  exact fin ⟨rfl,rfl,false,rfl,fun h=>by simp at h⟩ (aH _ _)
 refine cQ (p:=bq) (d:=nF p m t y n) qM (pt_y p m t y n) fun a1=>?_
 refine cQ (p:=a1) (off:=1) (d:=J y) (d':=U (y).2) qM (aR (aK _)) fun a2=>?_
 refine aX (p:=a2) (d:=U (y).2) qM (dH _) fun u1=>?_
 refine aT (v:=u1) (n:=(y).2.length) qM fun _=>?_
 refine aD _ rfl (fun h3=>?_) (fun h3=>?_)
 case refine_2 =>
  exact fin ⟨rfl,rfl,false,rfl,fun h=>by simp at h⟩ (aH _ _)
 refine cQ (p:=bq) (d:=nF p m t y n) qM (pt_n p m t y n) fun a1=>?_
 refine bO (p:=a1) qM ?_
 refine aD _ rfl (fun h4=>?_) (fun h4=>?_)
 case refine_2 =>
  exact fin ⟨rfl,rfl,false,rfl,fun h=>by simp at h⟩ (aH _ _)
 have hdd:=fun z=>rDegreeN z p (fun x hx=>⟨hp x hx,Nat.le_trans (hs.2 x hx) qE⟩)
 have hdl:dg (vv p)≤4:=by have:=dY (vv p); rw [cV] at this; omega
 refine cQ (p:=bq) (d:=nF p m t y n) qM (pt_p p m t y n) fun a1=>?_
 refine aX (p:=a1) (d:=V p) qM (kX _) fun y2=>?_
 refine cQ (p:=bq) (d:=nF p m t y n) qM (pt_n p m t y n) fun a1=>?_
 refine bO (p:=a1) qM ?_
 refine cH (hdd y2) ?_
 refine cU rfl (IntKind.i64.wrap (((dg (vv p):Nat) - 1:Int)*n)) rfl ?_
 refine aD _ rfl (fun h5=>?_) (fun h5=>?_)
 case refine_2 =>
  exact fin ⟨rfl,rfl,false,rfl,fun h=>by simp at h⟩ (aH _ _)
 refine fin ⟨rfl,rfl,true,rfl,fun _=>⟨hs,by omega,by omega,by omega,by omega,fun g=>?_⟩⟩ (aH _ _)
 have h6:((dg (vv p):Nat) - 1:Int)*n=0 - n∨((dg (vv p):Nat) - 1:Int)*n=0∨((dg (vv p):Nat) - 1:Int)*n=n∨((dg (vv p):Nat) - 1:Int)*n=2*n∨((dg (vv p):Nat) - 1:Int)*n=3*n:=by
  have:dg (vv p)=0∨dg (vv p)=1∨dg (vv p)=2∨dg (vv p)=3∨dg (vv p)=4:=by omega
  rcases this with e | e | e | e | e <;> rw [e] <;> simp <;> omega
 rw [wrapI64] at h5
 have h7:=hn.1
 have h8:=hn.2
 clear hdd
 rcases h6 with e | e | e | e | e <;> rw [e] at h5 ⊢ <;> omega
open Go.RowKit Go.ChangeShapes Go.WideShapes Go.ChangeAt Go.Deep
section
variable {H:Type} {enc:TypeId×Value→H} {w:World} {base:Nat} {spare:Nat→Bool} {held:Bool}
theorem rd_ask5 {P:Program} {t tp ti tn:TypeId} {f0 f1 f2 f3 f4:Field} (ht:P.underlying t=some (.struct #[f0,f1,f2,f3,f4])) (e0:f0.type=tp∧f0.offset=0) (e1:f1.type=ti∧f1.offset=1) (e2:f2.type=ti∧f2.offset=3) (e3:f3.type=ti∧f3.offset=5) (e4:f4.type=tn∧f4.offset=7)
  (cp:P.cellsOf tp=1) (ci:P.cellsOf ti=2) (cn':P.cellsOf tn=1) (hn:P.underlying tn=some (.int .i64))
  (ep:∀ (n:Nat) (cs:List Value) (x:DataW H×List MemPlace),DataW.trod enc P w base spare held n tp cs=some x→∃ r:Row,limR r∧RdC (fun b=>b<w.heap.size) w (V r) cs)
  (ei:∀ (n:Nat) (cs:List Value) (x:DataW H×List MemPlace),cs.length=2→DataW.trod enc P w base spare held n ti cs=some x→∃ y:Bool×List Nat,Lim y.2∧RdC (fun b=>b<w.heap.size) w (J y) cs)
  {fuel:Nat} {cs:List Value} {x:DataW H×List MemPlace} (hl:cs.length=8) (h:DataW.trod enc P w base spare held fuel t cs=some x) :
  ∃ (p:Row) (m u y:Bool×List Nat) (n:Int),(limR p∧Lim m.2∧Lim u.2∧Lim y.2∧inK .i64 n)∧RdC (fun b=>b<w.heap.size) w (nF p m u y n) cs:=by
 obtain ⟨xs,n,_,rfl,_,hlen,hf⟩:=DataW.trod_struct ht h
 match xs,hlen with
 | [y0,y1,y2,y3,y4],_ =>
  have h0:=hf 0 f0 rfl
  have h1:=hf 1 f1 rfl
  have h2:=hf 2 f2 rfl
  have h3:=hf 3 f3 rfl
  have h4:=hf 4 f4 rfl
  rw [e0.1,e0.2,cp] at h0
  rw [e1.1,e1.2,ci] at h1
  rw [e2.1,e2.2,ci] at h2
  rw [e3.1,e3.2,ci] at h3
  rw [e4.1,e4.2,cn'] at h4
  match cs,hl with
  | [c0,c1,c2,c3,c4,c5,c6,c7],_ =>
   obtain ⟨p,a1,a2⟩:=ep _ _ _ h0
   obtain ⟨m,b1,b2⟩:=ei _ _ _ rfl h1
   obtain ⟨u,d1,d2⟩:=ei _ _ _ rfl h2
   obtain ⟨y,g1,g2⟩:=ei _ _ _ rfl h3
   obtain ⟨k,k1,_,k2⟩:=DataW.trod_int hn h4
   obtain rfl:c7=.int .i64 k:=by simpa using k1
   refine ⟨p,m,u,y,k,⟨a1,b1,d1,g1,?_⟩,?_⟩
   ·have:=i64_of k2
    simp only [inK]; omega
   ·exact ⟨[c0],_,rfl,a2,[c1,c2],_,rfl,b2,[c3,c4],_,rfl,d2,[c5,c6],[.int .i64 k],rfl,g2,⟨rfl,rfl⟩⟩
end
theorem rd_askV {P:Program} {t:TypeId} {fs:Array Field} {H:Type} {enc:TypeId×Value→H} {w:World} {r:Reach} {base base':Nat} {spare:Nat→Bool} {held:Bool} {v:Value} {d:DataW H} {p:List MemPlace} (ht:P.underlying t=some (.struct fs)) (hc:P.cellsOf t=8)
  (el:∀ (n:Nat) (cs:List Value) (x:DataW H×List MemPlace),cs.length=8→DataW.trod enc P w base spare held n t cs=some x→∃ (p:Row) (m u y:Bool×List Nat) (n:Int),(limR p∧Lim m.2∧Lim u.2∧Lim y.2∧inK .i64 n)∧RdC (fun b=>b<w.heap.size) w (nF p m u y n) cs)
  (hv:Value.okWide P w r base' t v) (h:DataW.Trod enc P w base spare held t v d p):∃ (p:Row) (m u y:Bool×List Nat) (n:Int),(limR p∧Lim m.2∧Lim u.2∧Lim y.2∧inK .i64 n)∧Rd (fun b=>b<w.heap.size) w v (nF p m u y n):=by
 obtain ⟨cs,rfl,hsz⟩:=okWide_struct ht hv
 obtain ⟨fuel,hf⟩:=h
 have hcs:(Value.agg cs).cells.toList=cs.toList:=by simp [Value.cells]
 rw [hcs] at hf
 obtain ⟨p,m,u,y,n,h1,h2⟩:=el _ _ _ (by simpa using hsz.trans hc) hf
 exact ⟨p,m,u,y,n,h1,cs.toList,h2,by unfold nF qG; simp⟩
set_option maxRecDepth 100000 in
theorem rd_ask {H:Type} {enc:TypeId×Value→H} {w:World} {r:Reach} {base base':Nat} {spare:Nat→Bool} {held:Bool} {v:Value} {d:DataW H} {p:List MemPlace} (hv:Value.okWide Tryz.prog w r base' 28 v)
  (h:DataW.Trod enc Tryz.prog w base spare held 28 v d p):∃ (p:Row) (m u y:Bool×List Nat) (n:Int),(limR p∧Lim m.2∧Lim u.2∧Lim y.2∧inK .i64 n)∧Rd (fun b=>b<w.heap.size) w v (nF p m u y n) :=
 have hc:Tryz.prog.cellsOf 28=8:=by kernel_rfl
 have el:∀ (n:Nat) (cs:List Value) (x:DataW H×List MemPlace),cs.length=8→DataW.trod enc Tryz.prog w base spare held n 28 cs=some x→∃ (p:Row) (m u y:Bool×List Nat) (n:Int),(limR p∧Lim m.2∧Lim u.2∧Lim y.2∧inK .i64 n)∧RdC (fun b=>b<w.heap.size) w (nF p m u y n) cs:=fun _ _ _ hl h =>
  rd_ask5 (tp:=23) (ti:=26) (tn:=3) Tryz.underlying28 ⟨rfl,rfl⟩ ⟨rfl,rfl⟩ ⟨rfl,rfl⟩ ⟨rfl,rfl⟩ ⟨rfl,rfl⟩ qK qK qK Tryz.underlying3 (fun _ _ _ h=>rd_poly h) (fun _ _ _ hl h=>rd_int hl h) hl h
 rd_askV (P:=Tryz.prog) (t:=28) (v:=v) (r:=r) (base:=base) (base':=base') Tryz.underlying28 hc el hv h
end Go.Proofs.YtjebljkoiaojaaaGreat
