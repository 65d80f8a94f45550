/- The law TopFiner is true of each input, and changes none. No condition. -/
import Derived.Test.YtpbhjlljgbjjlaaGreatM5
import Derived.Test.YtpbhjlljgbjjlaaGreatRows
import Derived.OpenShut
import Derived.Below
import Derived.Lib.SmallJoins
set_option linter.unusedVariables false
set_option linter.unusedSimpArgs false
namespace Go.Proofs.YtpbhjlljgbjjlaaGreat
theorem vC (a:Bool) {x P:Int} (hP:0<P):P*(dv2 a x P - 1)≤x∧x≤P*(dv2 a x P+1):=by
 cases a
 ·have:=sY hP 1 x; rwa [St,Int.mul_one] at this
 ·have:=st_upz hP 1 x; rwa [St,Int.mul_one] at this
theorem ratio_nr {A X Y:Int} (hA:1≤A) (hY:0<Y) (a b:Bool):Nr A 2 (dv2 a X Y) (dv2 b (X*A*A) (Y*A)):=by
 obtain ⟨a1,a2⟩:=vC a (x:=X) hY
 obtain ⟨b1,b2⟩:=vC b (x:=X*A*A) (P:=Y*A) (Int.mul_pos hY qN)
 generalize dv2 a X Y=z at *
 generalize dv2 b (X*A*A) (Y*A)=z' at *
 have hA0:0≤A:=by omega
 have c1:=Int.mul_le_mul_of_nonneg_right a1 hA0
 have c2:=Int.mul_le_mul_of_nonneg_right a2 hA0
 have hYA:0<Y*A:=Int.mul_pos hY qN
 have d1:=Int.mul_le_mul_of_nonneg_right c1 hA0
 have d2:=Int.mul_le_mul_of_nonneg_right c2 hA0
 have u1:Y*A*(z' - 1)≤Y*A*((z+1)*A):=by grind
 have u2:Y*A*((z - 1)*A)≤Y*A*(z'+1):=by grind
 have v1:=Int.le_of_mul_le_mul_left u1 hYA
 have v2:=Int.le_of_mul_le_mul_left u2 hYA
 exact ⟨by grind,by grind⟩
theorem quot_nr {A F x x' y y' z z' Ex Ey:Int} (hA:1≤A) (hF:1≤F) (hx:Nr A Ex x x') (hy:Nr A Ey y y') (hEx:0≤Ex) (hEy:0≤Ey) (hy0':F*A≤2*y') (hz:y*(z - 1)≤x*F∧x*F≤y*(z+1)) (hz':y'*(z' - 1)≤x'*(F*A)∧x'*(F*A)≤y'*(z'+1))
  (hz0:0≤z) (hz1:z+1≤2002*F):Nr A (2+2*Ex+4004*Ey) z z':=by
 have hA0:0≤A:=by omega
 have hFA:1≤F*A:=by
  have:=Int.mul_le_mul hF hA qE qN
  omega
 have hy':0<y':=by omega
 obtain ⟨x1,x2⟩:=hx
 obtain ⟨y1,y2⟩:=hy
 obtain ⟨a1,a2⟩:=hz
 obtain ⟨b1,b2⟩:=hz'
 have hFA0:0≤F*A:=by omega
 have c1:=Int.mul_le_mul_of_nonneg_right x1 hFA0
 have c2:=Int.mul_le_mul_of_nonneg_right x2 hFA0
 have hAA:0≤A*A:=Int.mul_nonneg hA0 hA0
 have d1:=Int.mul_le_mul_of_nonneg_right a1 hAA
 have d2:=Int.mul_le_mul_of_nonneg_right a2 hAA
 have hzA:0≤(z+1)*A:=Int.mul_nonneg qN hA0
 have hzA0:0≤z*A:=Int.mul_nonneg hz0 hA0
 have e1:=Int.mul_le_mul_of_nonneg_right y2 hzA
 have e2:=Int.mul_le_mul_of_nonneg_right y1 hzA0
 have e3:=Int.mul_le_mul_of_nonneg_right y2 hA0
 have f1:=Int.mul_le_mul_of_nonneg_left hy0' (Int.mul_nonneg hEx hA0)
 have f2:Ey*A*((z+1)*A)≤Ey*A*(4004*y'):=by
  refine Int.mul_le_mul_of_nonneg_left ?_ (Int.mul_nonneg hEy hA0)
  have:=Int.mul_le_mul_of_nonneg_right hz1 hA0
  have e:2002*F*A=2002*(F*A):=Int.mul_assoc _ _ _
  omega
 have f3:Ey*A*(z*A)+Ey*A*A=Ey*A*((z+1)*A):=by grind
 have u1:y'*(z' - 1)≤y'*((z+1)*A+2*(Ex*A)+4004*(Ey*A)):=by grind
 have u2:y'*((z - 1)*A - 2*(Ex*A) - 4004*(Ey*A))≤y'*(z'+1):=by grind
 have v1:=Int.le_of_mul_le_mul_left u1 hy'
 have v2:=Int.le_of_mul_le_mul_left u2 hy'
 exact ⟨by grind,by grind⟩
theorem yq_add {m e q:Int} {d:Nat} (h:Xp m e) (hq:60≤q) (hd:q+d≤1000):yq m (q+d)=yq m q*2^d:=by
 have hb:=h.bl
 unfold yq
 rw [show q+d+1 - (bH m.natAbs:Nat)=q+1 - (bH m.natAbs:Nat)+d by omega,jB qN qN,Int.mul_assoc]
theorem near_lgB {m e q:Int} {d:Nat} (h:Xp m e) (hq:60≤q) (hd:q+d≤1000):BN d 274894684160 (lgB m e q) (lgB m e (q+d)):=by
 have hA:=cU d
 have hFA:=jB (q:=q) (d:=d) qN qN
 have hF:=fM (q:=q) qN qN
 have hF':=fM (q:=q+d) qN qN
 have hy:=yq_in h (q:=q) ⟨by omega,by omega⟩
 obtain ⟨i1,i2,i3,i4,i5⟩:=log_in h (q:=q) ⟨by omega,by omega⟩
 obtain ⟨j1,j2,j3,j4,j5⟩:=log_in h (q:=q+d) ⟨by omega,by omega⟩
 have ends:∀ a c,Nr (2^d) 2 (bc a (lgD m e q)) (bc c (lgD m e (q+d))):=fun a c=>by
  rw [i5 a,j5 c,yq_add h hq hd,hFA]
  have:=ratio_nr (A:=2^d) (X:=(yq m q - 2^far q)*2^far q) (Y:=yq m q+2^far q) hA qN a c
  rw [show (yq m q*2^d - 2^far q*2^d)*(2^far q*2^d)=(yq m q - 2^far q)*2^far q*2^d*2^d by grind,show yq m q*2^d+2^far q*2^d=(yq m q+2^far q)*2^d by grind]
  exact this
 have rng:∀ a,0≤bc a (lgD m e q)∧3*bc a (lgD m e q)≤2^far q+3:=fun a=>by
  cases a
  ·show 0≤(lgD m e q).lo∧3*(lgD m e q).lo≤_; omega
  ·show 0≤(lgD m e q).hi∧3*(lgD m e q).hi≤_; omega
 have rng':∀ a,0≤bc a (lgD m e (q+d))∧3*bc a (lgD m e (q+d))≤2^far (q+d)+3:=fun a=>by
  cases a
  ·show 0≤(lgD m e (q+d)).lo∧3*(lgD m e (q+d)).lo≤_; omega
  ·show 0≤(lgD m e (q+d)).hi∧3*(lgD m e (q+d)).hi≤_; omega
 have key:BN d 137447342080 (lgA m e q) (lgA m e (q+d)):=by
  refine ⟨rfl,fun a c=>?_⟩
  have e1:bc a (lgA m e q)=cJ a (dZ (bc a (lgD m e q)) q (nL q)):=by cases a <;> rfl
  have e2:bc c (lgA m e (q+d))=cJ c (dZ (bc c (lgD m e (q+d))) (q+d) (nL (q+d))):=by cases c <;> rfl
  rw [e1,e2]
  have ra:=rng a
  have rc:=rng' c
  exact (atanh_nr (e:=2) qN qN ra.1 qN (gP (c:=3) ra.1 qN hF qE qE qE) rc.1 qN (gP (c:=3) rc.1 qN hF' qE qE qE) qE (ends a c) a c).mono qN qE
 exact (key.times 2).mono qE
theorem near_log {m e q:Int} {d:Nat} (h:Xp m e) (hq:160≤q) (hd:q+d≤800):BN d 302231454903657293676544 (logA m e q) (logA m e (q+d)):=by
 have h40:q+d+40=q+40+d:=by omega
 have hln:=uT (q:=q+40) (d:=d) qN qN
 have hlg:=near_lgB (q:=q+40) (d:=d) h qN qN
 have l0:=h.lg0
 have l1:=h.lg1
 have hT:=(hln.times (lgS m e)).mono (F:=549755813888*64) (Int.mul_le_mul_of_nonneg_left qN qE)
 have key:BN d 302231454903657293676542 (uS m e (cW (q+40))) (uS m e (cW (q+40+d))):=(hlg.add hT).mono qE
 unfold logA
 rw [h40]
 exact (key.recast (q:=q) qE (by show q≤q+40; omega) rfl).mono qE
theorem near_log2 {m e q:Int} {d:Nat} (h:Xp m e) (hq:160≤q) (hd:q+d≤800):BN d 302231454903657293676544 (log2A m e q) (log2A m e (q+d)):=by
 have h40:q+d+40=q+40+d:=by omega
 have hL:=iM (q:=q+40) qN qN
 have hL':=iM (q:=q+40+d) qN qN
 have hln:=uT (q:=q+40) (d:=d) qN qN
 have hlg:=near_lgB (q:=q+40) (d:=d) h qN qN
 have hA:=cU d
 have hFA:=jB (q:=q+40) (d:=d) qN qN
 have hF:=cR (q+40)
 have hF':=cR (q+40+d)
 have l0:=h.lg0
 have l1:=h.lg1
 obtain ⟨g1,g2,g3⟩:=lgB_in h (q:=q+40) ⟨by omega,by omega⟩
 obtain ⟨k1,k2,k3⟩:=lgB_in h (q:=q+40+d) ⟨by omega,by omega⟩
 have ly:∀ y,692*2^far (q+40)≤1000*bc y (cW (q+40)):=fun y=>by
  have:=hL.lo
  have:=hL.le
  cases y
  ·show _≤1000*(cW (q+40)).lo; omega
  ·show _≤1000*(cW (q+40)).hi; omega
 have ly':∀ y,692*2^far (q+40+d)≤1000*bc y (cW (q+40+d)):=fun y=>by
  have:=hL'.lo
  have:=hL'.le
  cases y
  ·show _≤1000*(cW (q+40+d)).lo; omega
  ·show _≤1000*(cW (q+40+d)).hi; omega
 have hQ:BN d 4503599627370496 (iT (lgB m e (q+40)) (cW (q+40))) (iT (lgB m e (q+40+d)) (cW (q+40+d))):=by
  refine ⟨by show (lgB m e (q+40+d)).q=(lgB m e (q+40)).q+d; omega,fun a c=>?_⟩
  obtain ⟨x,y,hxy⟩:=bc_div a (lgB m e (q+40)) (cW (q+40))
  obtain ⟨x',y',hxy'⟩:=bc_div c (lgB m e (q+40+d)) (cW (q+40+d))
  rw [hxy,hxy',g1,k1]
  have gx:=g3 x
  have kx:=k3 x'
  have n1:=hlg.nr x x'
  have n2:=hln.nr y y'
  have ly1:=ly y
  have ly1':=ly' y'
  generalize bc x (lgB m e (q+40))=X at *
  generalize bc y (cW (q+40))=Y at *
  generalize bc x' (lgB m e (q+40+d))=X' at *
  generalize bc y' (cW (q+40+d))=Y' at *
  have hz:=vC a (x:=X*2^far (q+40)) (P:=Y) qN
  have hz':=vC c (x:=X'*2^far (q+40+d)) (P:=Y') qN
  have hX:0≤X*2^far (q+40):=Int.mul_nonneg gx.1 qN
  have z0:0≤dv2 a (X*2^far (q+40)) Y:=by
   cases a
   ·exact Int.ediv_nonneg hX qN
   ·exact upz_nonneg qN hX
  have z1:dv2 a (X*2^far (q+40)) Y≤1200*2^far (q+40):=by
   have e1:X*2^far (q+40)≤808*2^far (q+40)*2^far (q+40):=Int.mul_le_mul_of_nonneg_right gx.2 qN
   have e2:1200*2^far (q+40)*(692*2^far (q+40))≤1200*2^far (q+40)*(1000*Y):=Int.mul_le_mul_of_nonneg_left ly1 qN
   have e3:1200*2^far (q+40)*(692*2^far (q+40))=830400*((2:Int)^far (q+40)*2^far (q+40)):=by grind
   have e4:808*(2:Int)^far (q+40)*2^far (q+40)=808*(2^far (q+40)*2^far (q+40)):=Int.mul_assoc _ _ _
   have e5:1200*(2:Int)^far (q+40)*(1000*Y)=1000*(1200*2^far (q+40)*Y):=by grind
   have e6:0≤(2:Int)^far (q+40)*2^far (q+40):=Int.mul_nonneg qN qN
   exact (dv2_in (M:=1200*2^far (q+40)) qN qN qN).2
  rw [hFA] at hz' ⊢
  exact (quot_nr (F:=2^far (q+40)) hA qN n1 n2 qE qE (by rw [hFA] at ly1'; omega) hz hz' z0 qN).mono qN qE
 have hO:BN d 64 (b8 (jO (q+40)) (lgS m e)) (b8 (jO (q+40+d)) (lgS m e)):=by
  refine (BN.times (E:=1) ⟨?_,fun a c=>?_⟩ (lgS m e)).mono qN
  ·rw [l8 ⟨by omega,by omega⟩,l8 ⟨by omega,by omega⟩]
  ·rw [l8 ⟨by omega,by omega⟩,l8 ⟨by omega,by omega⟩,hFA]
   have:=(Nr.exact (2^d) (2^far (q+40))).mono (F:=1) qN qE
   cases a <;> cases c <;> exact this
 have key:BN d 302231454903657293676542 (kG m e (cW (q+40))) (kG m e (cW (q+40+d))):=(hQ.add hO).mono qE
 unfold log2A
 rw [h40]
 exact (key.recast (q:=q) qE (by show q≤q+40; omega) rfl).mono qE
theorem near_wave {m e q:Int} {d:Nat} (h:Xp m e) (hq:160≤q) (hd:q+d≤800) (w:Int) (hK:wvK m e (q+40)=wvK m e (q+d+40)):BN d 302231454903657293676544 (sM m e q w) (sM m e (q+d) w):=by
 have h40:q+d+40=q+40+d:=by omega
 rw [h40] at hK
 have hI:=wv_in h (q:=q+40) ⟨by omega,by omega⟩
 have hI':=wv_in h (q:=q+40+d) ⟨by omega,by omega⟩
 have hpi:=pi_nr (q:=q+40) (d:=d) qN qN
 have hx:=xq_nr (q:=q+40) (d:=d) h qN qN
 have hA:=cU d
 have hF:=fM (q:=q+40) qN qN
 have hF':=fM (q:=q+40+d) qN qN
 have k0:=hI.k0
 have k1:=hI.k1
 have hH:∀ a c,Nr (2^d) 4398046511106 (bc a (wvH (q+40))) (bc c (wvH (q+40+d))):=fun a c=>by
  unfold wvH
  rw [nX,nX]
  exact dv2_nr hA qE qE (hpi.nr a c) a c
 have ends:∀ a c,Nr (2^d) 4503599627370496 (bc a (wvR m e (q+40))) (bc c (wvR m e (q+40+d))):=fun a c=>by
  have h1:=(hx.sub ((hH (!a) (!c)).times k0)).mono (F:=4503599627370496) qN (by
   have:(4398046511106:Int)*wvK m e (q+40)≤4398046511106*660:=Int.mul_le_mul_of_nonneg_left k1 qE
   omega)
  have e1:bc a (wvR m e (q+40))=xq m e (q+40) - bc (!a) (wvH (q+40))*wvK m e (q+40):=by
   cases a
   ·exact hI.eL
   ·exact hI.eH
  have e2:bc c (wvR m e (q+40+d))=xq m e (q+40+d) - bc (!c) (wvH (q+40+d))*wvK m e (q+40):=by
   rw [hK]
   cases c
   ·exact hI'.eL
   ·exact hI'.eH
  rw [e1,e2]
  exact h1
 have i0:=hI.lo0
 have i1:=hI.lo1
 have i2:=hI.h1
 have j0:=hI'.lo0
 have j1:=hI'.lo1
 have j2:=hI'.h1
 have sq1:=wv_sq (F:=2^far (q+40)) i0 qN qN
 have sq2:=wv_sq (F:=2^far (q+40+d)) j0 qN qN
 have hS:∀ a c,Nr (2^d) 18889465931616253476864 (cJ a (wvS m e (q+40) w)) (cJ c (wvS m e (q+40+d) w)):=fun a c=>by
  unfold wvS
  rw [← hK]
  split
  ·exact (cos_nr (q:=q+40) qN qN i0 qN sq1 j0 qN sq2 qE (ends false false) a c).mono qN qE
  ·exact (sin_nr (q:=q+40) qN qN i0 qN sq1 j0 qN sq2 qE (ends false false) a c).mono qN qE
 have hD:=(ends true true).sub (ends false false)
 have hD1:Nr (2^d) 9007199254740992 ((wvR m e (q+40)).hi - (wvR m e (q+40)).lo) ((wvR m e (q+40+d)).hi - (wvR m e (q+40+d)).lo):=hD.mono qN qE
 have w1:=hI.wd
 have w2:=hI'.wd
 have w3:=hI.lh
 have w4:=hI'.lh
 have hW:∀ a c:Bool,Nr (2^d) 18889474938815508217856 (bc a (wvB m e (q+40) w)) (bc c (wvB m e (q+40+d) w)):=fun a c=>by
  have big:∀ (x x':Int),0≤x→x≤4398046511104*660→0≤x'→x'≤4398046511104*660→∀ s s':Int,(s=x∨s = -x)→(s'=x'∨s' = -x')→Nr (2^d) 9007199254740992 s s':=fun x x' hx0 hx1 hx0' hx1' s s' hs hs'=>by
   have e1:0≤x*2^d:=Int.mul_nonneg hx0 qN
   have e2:x*2^d≤4398046511104*660*2^d:=Int.mul_le_mul_of_nonneg_right hx1 qN
   have e3:(4398046511104*660:Int)*1≤4398046511104*660*2^d:=Int.mul_le_mul_of_nonneg_left hA qE
   have e4 : -x*2^d = -(x*2^d):=Int.neg_mul _ _
   rcases hs with rfl | rfl <;> rcases hs' with rfl | rfl <;> exact ⟨by omega,by omega⟩
  have b:=big ((wvR m e (q+40)).hi - (wvR m e (q+40)).lo) ((wvR m e (q+40+d)).hi - (wvR m e (q+40+d)).lo) qN w1 qN w2
  cases a <;> cases c
  ·have:=(hS false false).add (b _ _ (.inr rfl) (.inr rfl))
   rw [← Int.sub_eq_add_neg,← Int.sub_eq_add_neg] at this
   exact this
  ·have:=(hS false true).add (b _ _ (.inr rfl) (.inl rfl))
   rw [← Int.sub_eq_add_neg] at this
   exact this
  ·have:=(hS true false).add (b _ _ (.inl rfl) (.inr rfl))
   rw [← Int.sub_eq_add_neg] at this
   exact this
  ·exact (hS true true).add (b _ _ (.inl rfl) (.inl rfl))
 have hB:BN d 18889474938815508217856 (wvB m e (q+40) w) (wvB m e (q+40+d) w):=⟨rfl,hW⟩
 have key:BN d 302231454903657293676542 (dW m e (q+40) w) (dW m e (q+40+d) w):=by
  unfold dW
  rw [← hK]
  split
  ·exact (hB.times (-1)).mono qE
  ·exact hB.mono qE
 have hq1:(dW m e (q+40) w).q=q+40:=by
  unfold dW
  split
  ·rw [fJ]; rfl
  ·rfl
 unfold sM
 rw [h40]
 exact (key.recast (q:=q) qE qN rfl).mono qE
def chk1 (lo hi k:Nat):Bool:=Nat.beq (Nat.log2 (k*lo)) (Nat.log2 (k*hi))&&Nat.blt (k*hi/2^(Nat.log2 (k*lo) - 52)*2^(Nat.log2 (k*lo) - 52)) (k*lo)
def chkA (lo hi:Nat):Nat→Bool
 | 0=>true
 | k+1=>chk1 lo hi (k+1)&&chkA lo hi k
theorem chkA_get {lo hi:Nat}:∀ {n:Nat},chkA lo hi n=true→∀ k,1≤k→k≤n→chk1 lo hi k=true
 | 0,_,k,h1,h2=>absurd h1 qN
 | n+1,h,k,h1,h2=>by
  simp only [chkA,Bool.and_eq_true] at h
  rcases Nat.lt_or_ge k (n+1) with h3 | h3
  ·exact chkA_get h.2 k h1 qN
  ·obtain rfl:k=n+1:=by omega
   exact h.1
theorem log2_mul {M j:Nat} (h0:4503599627370496≤M) (h1:M<9007199254740992):Nat.log2 (M*2^j)=52+j:=by
 have hp:0<2^j:=Nat.pow_pos qE
 have hne:M*2^j≠0:=Nat.mul_ne_zero qN qN
 refine (Nat.log2_eq_iff hne).2 ⟨?_,?_⟩
 ·rw [Nat.pow_add]
  exact Nat.mul_le_mul_right _ (by rw [show (2:Nat)^52=4503599627370496 by rfl]; exact h0)
 ·rw [show 52+j+1=53+j by omega,Nat.pow_add]
  exact Nat.mul_lt_mul_of_pos_right (by rw [show (2:Nat)^53=9007199254740992 by rfl]; exact h1) hp
theorem log2_mono {a b:Nat} (ha:a≠0) (h:a≤b):Nat.log2 a≤Nat.log2 b:=by
 have h1:=Nat.log2_self_le ha
 exact (Nat.le_log2 qN).2 qN
theorem chk1_sep {lo hi k M j:Nat} (h:chk1 lo hi k=true) (hlo:0<k*lo) (h0:4503599627370496≤M) (h1:M<9007199254740992):M*2^j<k*lo∨k*hi<M*2^j:=by
 simp only [chk1,Bool.and_eq_true] at h
 have e1:=Nat.eq_of_beq_eq_true h.1
 have e2:k*hi/2^(Nat.log2 (k*lo) - 52)*2^(Nat.log2 (k*lo) - 52)<k*lo:=by
  have:=h.2
  simp only [Nat.blt,Nat.ble_eq] at this
  omega
 rcases Nat.lt_or_ge (M*2^j) (k*lo) with h2 | h2
 ·exact .inl h2
 rcases Nat.lt_or_ge (k*hi) (M*2^j) with h3 | h3
 ·exact .inr h3
 exfalso
 have hx:=log2_mul (j:=j) h0 h1
 have l1:=log2_mono qN h2
 have l2:=log2_mono (a:=M*2^j) qN h3
 have hj:Nat.log2 (k*lo) - 52=j:=by omega
 rw [hj] at e2
 have hp:0<2^j:=Nat.pow_pos qE
 have h4:M≤k*hi/2^j:=(Nat.le_div_iff_mul_le hp).2 h3
 have h5:=Nat.mul_le_mul_right (2^j) h4
 omega
theorem xq_53 {m e:Int} (h:Xp m e):∃ M j:Nat,4503599627370496≤M∧M<9007199254740992∧xq m e 200=((M*2^j:Nat):Int):=by
 have hb:=h.bl
 have h1:=gM m h.pos
 have h2:=iK m h.pos
 have he:=h.e0
 have he1:=h.e1
 have hm:=h.pos
 obtain ⟨n,hn⟩:∃ n:Nat,m=n:=⟨m.toNat,by omega⟩
 generalize bH m.natAbs=b at *
 subst hn
 have g1:2^(b - 1)≤n:=by
  have:((2^(b - 1):Nat):Int)=(2:Int)^(b - 1):=by simp
  omega
 have g2:n<2^b:=by
  have:((2^b:Nat):Int)=(2:Int)^b:=by simp
  omega
 refine ⟨n*2^(53 - b),(e+200 - 53+b).toNat,?_,?_,?_⟩
 ·have:=Nat.mul_le_mul_right (2^(53 - b)) g1
  rw [← Nat.pow_add,show b - 1+(53 - b)=52 by omega] at this
  exact this
 ·have:=Nat.mul_lt_mul_of_pos_right g2 (show 0<2^(53 - b) from Nat.pow_pos qE)
  rw [← Nat.pow_add,show b+(53 - b)=53 by omega] at this
  exact this
 ·unfold xq
  rw [show far (e+200)=(53 - b)+(e+200 - 53+b).toNat by unfold far; omega,Int.pow_add,← Int.mul_assoc]
  simp
structure Sep (c E:Int) (n:Nat):Prop where
 sep:∀ m e,Xp m e→∀ k:Nat,1≤k→k≤n→xq m e 200<k*(c - E)∨k*(c+E)<xq m e 200
theorem sep_of {lo hi n:Nat} {c E:Int} (h:chkA lo hi n=true) (h1:(lo:Int)=c - E) (h2:(hi:Int)=c+E) (h0:0<lo):Sep c E n:=⟨fun m e hx k hk hn=>by
 obtain ⟨M,j,h3,h4,h5⟩:=xq_53 hx
 have h6:=chk1_sep (j:=j) (chkA_get h k hk hn) (Nat.mul_pos qN h0) h3 h4
 rw [h5,← h1,← h2]
 rcases h6 with h6 | h6
 ·exact .inl (by exact_mod_cast h6)
 ·exact .inr (by exact_mod_cast h6)⟩
theorem sep_ln2:Sep (cW 200).hi 1237940039285380274899124224 1480:=sep_of (lo:=((cW 200).hi - 1237940039285380274899124224).toNat) (hi:=((cW 200).hi+1237940039285380274899124224).toNat) qK (Int.toNat_of_nonneg (of_decide_eq_true qK)) (Int.toNat_of_nonneg (of_decide_eq_true qK)) (of_decide_eq_true qK)
theorem sep_pi:Sep (wvH 200).hi 1237940039285380274899124224 660:=sep_of (lo:=((wvH 200).hi - 1237940039285380274899124224).toNat) (hi:=((wvH 200).hi+1237940039285380274899124224).toNat) qK (Int.toNat_of_nonneg (of_decide_eq_true qK)) (Int.toNat_of_nonneg (of_decide_eq_true qK)) (of_decide_eq_true qK)
theorem sep_le {c E E0 x A A' C C' K K':Int} {n:Nat} (hS:∀ k:Nat,1≤k→k≤n→x<k*(c - E)∨k*(c+E)<x) (hA:1≤A) (hA':1≤A') (hE:E0≤E) (hC:Nr A E0 c C) (hC':Nr A' E0 c C') (hC0':0<C')
  (hK:C*K≤x*A) (hn:K≤n) (hK0':0≤K') (hK':x*A'<C'*(K'+1)):K≤K':=by
 rcases Int.lt_or_le 0 K with h0 | h0
 ·obtain ⟨k,rfl⟩:∃ k:Nat,K=k:=⟨K.toNat,by omega⟩
  rcases hS k qN qN with h1 | h1
  ·exfalso
   have e1:=Int.mul_lt_mul_of_pos_right h1 (show 0<A by omega)
   have e2:=Int.mul_le_mul_of_nonneg_right hC.2 (show 0≤(k:Int) by omega)
   have e3:E0*A*k≤E*A*k:=Int.mul_le_mul_of_nonneg_right (Int.mul_le_mul_of_nonneg_right hE qN) qN
   grind
  ·rcases Int.lt_or_le K' k with h2 | h2
   ·exfalso
    have e1:=Int.mul_lt_mul_of_pos_right h1 (show 0<A' by omega)
    have e2:=Int.mul_le_mul_of_nonneg_right hC'.1 (show 0≤(k:Int) by omega)
    have e3:E0*A'*k≤E*A'*k:=Int.mul_le_mul_of_nonneg_right (Int.mul_le_mul_of_nonneg_right hE qN) qN
    have e4:C'*(K'+1)≤C'*k:=Int.mul_le_mul_of_nonneg_left qN qN
    grind
   ·exact h2
 ·omega
theorem exp_same {m e q:Int} {d:Nat} (h:Xp m e) (hq:160≤q) (hd:q+d≤800):mG m e (cW (q+40))=mG m e (cW (q+d+40)):=by
 have one:∀ q:Int,160≤q→q≤800→∃ A:Int,1≤A∧Nr A 549755813888 (cW 200).hi (cW (q+40)).hi∧0<(cW (q+40)).hi∧(cW (q+40)).hi*mG m e (cW (q+40))≤xq m e 200*A∧xq m e 200*A<(cW (q+40)).hi*(mG m e (cW (q+40))+1)∧0≤mG m e (cW (q+40))∧mG m e (cW (q+40))≤1480:=fun q h1 h2=>by
  obtain ⟨d,hd⟩:∃ d:Nat,q+40=200+d:=⟨(q - 160).toNat,by omega⟩
  have hL:=iM (q:=q+40) qN qN
  have hI:=vA h hL ⟨by omega,by omega⟩
  have hn:=(uT (q:=200) (d:=d) qE qN).nr true true
  have hx:xq m e (q+40)=xq m e 200*2^d:=by
   have:=h.e0
   have:=h.e1
   rw [hd]
   exact xq_add qN qN
  rw [← hd] at hn
  have hlo:=hL.lo
  have hle:=hL.le
  have hF:=cR (q+40)
  have l0:=hI.lo0
  have l1:=hI.lo1
  rw [hI.eL,hx] at l0 l1
  exact ⟨2^d,cU d,hn,by omega,by omega,by rw [Int.mul_add,Int.mul_one]; omega,hI.k0,hI.k1⟩
 obtain ⟨A,a1,a2,a3,a4,a5,a6,a7⟩:=one q hq qN
 obtain ⟨B,b1,b2,b3,b4,b5,b6,b7⟩:=one (q+d) qN hd
 exact Int.le_antisymm (sep_le (sep_ln2.sep m e h) a1 b1 qE a2 b2 b3 a4 a7 b6 b5) (sep_le (sep_ln2.sep m e h) b1 a1 qE b2 a2 a3 b4 b7 a6 a5)
theorem wv_one {m e q:Int} (h:Xp m e) (h1:200≤q) (h2:q≤840):∃ d:Nat,q=200+d∧(2:Int)^far q=2^200*2^d∧Nr (2^d) 4398046511106 (wvH 200).hi (wvH q).hi∧0<(wvH q).hi∧xq m e q=xq m e 200*2^d∧(wvH q).hi*wvK m e q≤xq m e 200*2^d∧xq m e 200*2^d<(wvH q).hi*(wvK m e q+1)∧0≤wvK m e q∧wvK m e q≤659:=by
 obtain ⟨d,hd,hF2⟩:=far200 h1 qN
 have hI:=wv_in h (q:=q) ⟨by omega,by omega⟩
 have hx:xq m e q=xq m e 200*2^d:=by
  have:=h.e0
  have:=h.e1
  rw [hd]
  exact xq_add qN qN
 have hn:Nr (2^d) 4398046511106 (wvH 200).hi (wvH q).hi:=by
  have h3:=(pi_nr (q:=200) (d:=d) qE qN).nr true true
  rw [← hd] at h3
  have b0:(wvH 200).hi=dv2 true (piB 200).hi 2:=nX true (piB 200)
  have b1:(wvH q).hi=dv2 true (piB q).hi 2:=nX true (piB q)
  rw [b0,b1]
  exact dv2_nr (cU d) qE qE h3 true true
 have hF:(2:Int)^200≤2^far q:=bW (by unfold far; omega)
 rw [show (2:Int)^200=1606938044258990275541962092341162602522202993782792835301376 by rfl] at hF
 have g0:=hI.h0
 have gle:=hI.hle
 have l0:=hI.lo0
 have l1:=hI.lo1
 have k0:=hI.k0
 have hx1:=(xq_in h (q:=q) ⟨by omega,by omega⟩).2
 have k1:wvK m e q≤659:=by
  rcases Int.lt_or_le 659 (wvK m e q) with hc | hc
  ·exfalso
   have:(wvH q).hi*660≤(wvH q).hi*wvK m e q:=Int.mul_le_mul_of_nonneg_left qN qN
   rw [hI.eL] at l0
   omega
  ·exact hc
 rw [hI.eL,hx] at l0 l1
 exact ⟨d,hd,hF2,hn,by omega,hx,by omega,by rw [Int.mul_add,Int.mul_one]; omega,k0,k1⟩
theorem wave_same {m e q:Int} {d:Nat} (h:Xp m e) (hq:160≤q) (hd:q+d≤800):wvK m e (q+40)=wvK m e (q+d+40):=by
 obtain ⟨d1,a0,a00,a2,a3,a33,a4,a5,a6,a7⟩:=wv_one (q:=q+40) h qN qN
 obtain ⟨d2,b0,b00,b2,b3,b33,b4,b5,b6,b7⟩:=wv_one (q:=q+d+40) h qN qN
 exact Int.le_antisymm (sep_le (sep_pi.sep m e h) (cU d1) (cU d2) qE a2 b2 b3 a4 qN b6 b5) (sep_le (sep_pi.sep m e h) (cU d2) (cU d1) qE b2 a2 a3 b4 qN a6 a5)
theorem wv_far {m e q:Int} (h:Xp m e) (h1:200≤q) (h2:q≤840):2^far q≤(wvR m e q).lo*2^120∧2^far q≤((wvH q).hi - (wvR m e q).lo)*2^120:=by
 obtain ⟨d,a0,a00,a2,a3,a33,a4,a5,a6,a7⟩:=wv_one h h1 h2
 have hI:=wv_in h (q:=q) ⟨by omega,by omega⟩
 have hA:=cU d
 rw [hI.eL,a33,a00]
 obtain ⟨n1,n2⟩:=a2
 have hS:=sep_pi.sep m e h
 generalize wvK m e q=K at *
 obtain ⟨k,rfl⟩:∃ k:Nat,K=k:=⟨K.toNat,by omega⟩
 have e120:(2:Int)^200=2^80*2^120:=by rw [← Int.pow_add]
 constructor
 ·rcases Nat.eq_zero_or_pos k with rfl | hk
  ·have hx:=(xq_in h (q:=200) qE).1
   have hl:=h.lg0
   have hlo:(2:Int)^136≤xq m e 200:=by
    have b1:=gM m h.pos
    have hp:=cR (e+200)
    have b2:=Int.mul_le_mul_of_nonneg_right b1.2 (show (0:Int)≤2^far (e+200) by omega)
    rw [← Int.pow_add] at b2
    refine Int.le_trans (bW ?_) b2
    have:=h.e0
    have:=h.e1
    unfold lgS at hl
    unfold far; omega
   have e1:=Int.mul_le_mul_of_nonneg_right hlo (show (0:Int)≤2^d by omega)
   have e2:(2:Int)^80*2^d≤2^136*2^d:=Int.mul_le_mul_of_nonneg_right qE qN
   have e3:(2:Int)^80*2^d≤xq m e 200*2^d - (wvH q).hi*((0:Nat):Int):=by rw [show (wvH q).hi*((0:Nat):Int)=0 from Int.mul_zero _]; omega
   have e4:=Int.mul_le_mul_of_nonneg_right e3 (show (0:Int)≤2^120 by decide)
   rw [e120,Int.mul_right_comm]
   exact e4
  ·rcases hS k hk qN with h3 | h3
   ·exfalso
    have e1:=Int.mul_lt_mul_of_pos_right h3 (show (0:Int)<2^d by omega)
    have e2:=Int.mul_le_mul_of_nonneg_right n2 (show 0≤(k:Int) by omega)
    have e3:(0:Int)≤2^d*k:=Int.mul_nonneg qN qN
    generalize (2:Int)^d=A at *
    grind
   ·have e1:=Int.mul_lt_mul_of_pos_right h3 (show (0:Int)<2^d by omega)
    have e2:=Int.mul_le_mul_of_nonneg_right n1 (show 0≤(k:Int) by omega)
    have e3:(2:Int)^d*1≤2^d*k:=Int.mul_le_mul_of_nonneg_left qN qN
    have e4:(2:Int)^80*2^d≤xq m e 200*2^d - (wvH q).hi*k:=by
     rw [show (2:Int)^80=1208925819614629174706176 by rfl]
     generalize (2:Int)^d=A at *
     grind
    have e5:=Int.mul_le_mul_of_nonneg_right e4 (show (0:Int)≤2^120 by decide)
    rw [e120,Int.mul_right_comm]
    exact e5
 ·have e4:(2:Int)^80*2^d≤(wvH q).hi - (xq m e 200*2^d - (wvH q).hi*k):=by
   rcases hS (k+1) qN qN with h3 | h3
   ·have e1:=Int.mul_lt_mul_of_pos_right h3 (show (0:Int)<2^d by omega)
    have e2:=Int.mul_le_mul_of_nonneg_right n2 (show 0≤((k+1:Nat):Int) by omega)
    have e3:(2:Int)^d*1≤2^d*((k+1:Nat):Int):=Int.mul_le_mul_of_nonneg_left qN qN
    have e6:(wvH q).hi*((k+1:Nat):Int)=(wvH q).hi*k+(wvH q).hi:=by rw [show ((k+1:Nat):Int)=(k:Int)+1 by omega,Int.mul_add,Int.mul_one]
    rw [show (2:Int)^80=1208925819614629174706176 by rfl]
    generalize ((k+1:Nat):Int)=k1 at *
    generalize (2:Int)^d=A at *
    grind
   ·exfalso
    have e1:=Int.mul_lt_mul_of_pos_right h3 (show (0:Int)<2^d by omega)
    have e2:=Int.mul_le_mul_of_nonneg_right n1 (show 0≤((k+1:Nat):Int) by omega)
    have e3:(0:Int)≤2^d*((k+1:Nat):Int):=Int.mul_nonneg qN qN
    rw [show (k:Int)+1=((k+1:Nat):Int) by omega] at a5
    generalize ((k+1:Nat):Int)=k1 at *
    generalize (2:Int)^d=A at *
    grind
  have e5:=Int.mul_le_mul_of_nonneg_right e4 (show (0:Int)≤2^120 by decide)
  rw [e120,Int.mul_right_comm]
  exact e5
theorem Shr.self {next:Nat→P2→P2} {T s:Int} {c:Nat→Int} {G:Int} {k0:Nat} (h:Shr next T s c G k0) {f:Int} (hf:0≤f) (k:Nat):cJ true (itN next (f,f) k)≤cJ false (itN next (f,f) k)+2*k:=by
 have nn:=h.toNx.nonneg (f:=(f,f)) (fun b=>by cases b <;> exact hf)
 have hsq:=h.toNx.sq (f,f) true
 have hsq1:Sqn (fun k=>c k*2^far s*1) T (fun k=>cJ true (itN next (f,f) k)):=fun k=>by
  have:=hsq k
  simp only [Int.mul_one]
  exact this
 have key:=seq_nr (A:=1) (B:=1) (t:=T) (t':=T) (Et:=0) (E2:=0) (e0:=0) (D:=fun k=>c k*2^far s) (p:=fun k=>cJ false (itN next (f,f) k)) (p':=fun k=>cJ true (itN next (f,f) k)) qE qE h.posD (h.toNx.sq (f,f) false) hsq1 h.t0 (fun k=>nn k true) qE qE
  ⟨by show f - f*1≤_; omega,by show f*1 - f≤_; omega⟩ ⟨by omega,by omega⟩ qP (fun k hk=>by have:=h.a1 k hk; have:=h.t0; omega) (fun k=>by simp) k
 have:=key.1
 simp only [Int.mul_one] at this
 omega
theorem turn_pairs {next:Nat→P2→P2} {T s:Int} {c:Nat→Int} {G:Int} {k0:Nat} (h:Shr next T s c G k0) {f:Int} (hf:0≤f):∀ n:Nat,n≤199→f - cJ true (itN next (f,f) 1) - 900*n≤(smT next fC (f,f) (2*(n+1))).1
 | 0,_=>by
  show _≤(smT next fC (f,f) 2).1
  have e:(smT next fC (f,f) 2).1=0+f - cJ true (itN next (f,f) 1):=rfl
  rw [e]; omega
 | n+1,hn=>by
  have ih:=turn_pairs h hf n qN
  have e1:smT next fC (f,f) (2*(n+1+1))=pT (mT (smT next fC (f,f) (2*(n+1))) (fC (2*(n+1)) (itN next (f,f) (2*(n+1))))) (fC (2*(n+1)+1) (itN next (f,f) (2*(n+1)+1))):=by
   rw [show 2*(n+1+1)=2*(n+1)+1+1 by omega,oY qN,lZ qN]
  have e2:(smT next fC (f,f) (2*(n+1+1))).1=(smT next fC (f,f) (2*(n+1))).1+cJ false (itN next (f,f) (2*(n+1))) - cJ true (itN next (f,f) (2*(n+1)+1)):=by rw [e1]; rfl
  have nn:=h.toNx.nonneg (f:=(f,f)) (fun b=>by cases b <;> exact hf)
  have hs:=h.self hf (2*(n+1))
  have hq:c (2*(n+1))*2^far s*(cJ true (itN next (f,f) (2*(n+1)+1)) - 1)≤cJ true (itN next (f,f) (2*(n+1)))*T:=(h.toNx.sq (f,f) true (2*(n+1))).1
  have ha:=h.a1 (2*(n+1)) qN
  have hD:=h.posD (2*(n+1))
  have hp:=nn (2*(n+1)) true
  have ht:=h.t0
  have f1:cJ true (itN next (f,f) (2*(n+1)))*T≤cJ true (itN next (f,f) (2*(n+1)))*(c (2*(n+1))*2^far s):=Int.mul_le_mul_of_nonneg_left qN hp
  have f2:c (2*(n+1))*2^far s*(cJ true (itN next (f,f) (2*(n+1)+1)) - 1)≤c (2*(n+1))*2^far s*cJ true (itN next (f,f) (2*(n+1))):=by
   rw [Int.mul_comm (c (2*(n+1))*2^far s) (cJ true (itN next (f,f) (2*(n+1))))]
   omega
  have f3:=Int.le_of_mul_le_mul_left f2 hD
  rw [e2]
  have:900*((n+1:Nat):Int)=900*n+900:=by omega
  omega
theorem sin_low {r q:Int} (hq:20≤q∧q≤1000) (h0:0≤r) (h1:1000*r≤1573*2^far q):r≤2*(oZ r q (nW q)).1+400000:=by
 have hF:=cR q
 have hs:=wv_sq h0 h1 qN
 have hS:=shrS (q:=q) ⟨by omega,by omega⟩ h0 hs
 obtain ⟨n,hn⟩:∃ n,nW q=n+1:=⟨nW q - 1,by unfold nW; omega⟩
 have hnl:n≤199:=by unfold nW at hn; omega
 have hp:=turn_pairs hS h0 n hnl
 have h2:cJ true (itN (rE r q) (r,r) 1)≤r/2+1:=by
  have hq1:=(hS.toNx.sq (r,r) true 0).1
  have e0:cJ true (itN (rE r q) (r,r) 0)=r:=rfl
  simp only [e0] at hq1
  have hD:=hS.posD 0
  have hff:=jV (q:=q) qN qN
  have hb:r*(r*r)*2≤r*(2*((0+1:Nat):Int)*(2*((0+1:Nat):Int)+1)*2^far (2*q)):=by
   rw [hff,show 2*((0+1:Nat):Int)*(2*((0+1:Nat):Int)+1)=6 by rfl]
   have hFF:0≤(2:Int)^far q*2^far q:=Int.mul_nonneg qN qN
   have:=Int.mul_le_mul_of_nonneg_left (show r*r*2≤6*(2^far q*2^far q) by omega) h0
   have e:r*(r*r)*2=r*(r*r*2):=Int.mul_assoc _ _ _
   omega
  have hc:2*((0+1:Nat):Int)*(2*((0+1:Nat):Int)+1)*2^far (2*q)*(2*(cJ true (itN (rE r q) (r,r) (0+1)) - 1))≤2*((0+1:Nat):Int)*(2*((0+1:Nat):Int)+1)*2^far (2*q)*r:=by
   generalize 2*((0+1:Nat):Int)*(2*((0+1:Nat):Int)+1)*2^far (2*q)=D at *
   grind
  have:=Int.le_of_mul_le_mul_left hc hD
  show cJ true (itN (rE r q) (r,r) (0+1))≤_
  omega
 have e:(oZ r q (nW q)).1=(smT (rE r q) fC (r,r) (2*(n+1))).1:=by rw [hn]; rfl
 rw [e]
 omega
theorem upz_le {x y D:Int} (hD:0<D) (h:x≤y):upz x D≤upz y D:=by
 unfold upz
 have:=Int.ediv_le_ediv hD (show -y ≤ -x by omega)
 omega
structure Fall (F T1 T2:Int) (p o:Nat→Int):Prop where
 hF:1048576≤F
 t0:0≤T1
 t1:T1≤T2
 t2:1000*T2≤2475*(F*F)
 p0:p 0=F
 o0:o 0=F
 pn:∀ k,0≤p k
 po:∀ k,p k≤o k
 s0:2*(F*F)*(o 1 - p 1 - 2)≤F*(T2 - T1)
 s0p:2*(F*F)*(p 1 - 1)≤F*T1
 s1:12*(F*F)*(o 2 - p 2 - 2)≤(o 1 - p 1)*T2+p 1*(T2 - T1)
 s1p:12*(F*F)*(p 2 - 1)≤p 1*T1
 sk:∀ k,2≤k→30*(F*F)*(o (k+1) - p (k+1) - 2)≤(o k - p k)*T2+p k*(T2 - T1)
 skp:∀ k,2≤k→30*(F*F)*(p (k+1) - 1)≤p k*T1
def vF (F T1 T2:Int) (p o:Nat→Int) (k:Nat):Int:=(o k - p k)*(F*F)+2*(p k*(T2 - T1))
theorem Fall.v_nn {F T1 T2:Int} {p o:Nat→Int} (h:Fall F T1 T2 p o) (k:Nat):(o k - p k)*(F*F)≤vF F T1 T2 p o k∧0≤vF F T1 T2 p o k:=by
 have h1:=Int.mul_nonneg (h.pn k) (show 0≤T2 - T1 by have:=h.t1; omega)
 have hFF:0≤F*F:=Int.mul_nonneg (by have:=h.hF; omega) (by have:=h.hF; omega)
 have h2:=Int.mul_nonneg (show 0≤o k - p k by have:=h.po k; omega) hFF
 unfold vF
 exact ⟨by omega,by omega⟩
theorem Fall.step {F T1 T2:Int} {p o:Nat→Int} (h:Fall F T1 T2 p o) {k:Nat} (hk:2≤k):8*vF F T1 T2 p o (k+1)≤vF F T1 T2 p o k+60*(F*F):=by
 have hF:=h.hF
 have t0:=h.t0
 have t1:=h.t1
 have t2:=h.t2
 have pn:=h.pn k
 have po:=h.po k
 have sk:=h.sk k hk
 have skp:=h.skp k hk
 have hFF:0<F*F:=Int.mul_pos qN qN
 unfold vF
 generalize F*F=X at *
 generalize hg:o k - p k=g at *
 generalize hg1:o (k+1) - p (k+1)=g1 at *
 generalize p k=P at *
 generalize p (k+1)=P1 at *
 have hg0:0≤g:=by omega
 have hD:0≤T2 - T1:=by omega
 have a1:1000*(g*T2)≤2475*(g*X):=by
  have:=Int.mul_le_mul_of_nonneg_left t2 hg0
  grind
 have a2:1000*(P*T1)≤2475*(P*X):=by
  have:=Int.mul_le_mul_of_nonneg_left (show 1000*T1≤2475*X by omega) pn
  grind
 have a3:30*P1*1000≤2475*P+30000:=by
  have e:X*(30*P1*1000)≤X*(2475*P+30000):=by grind
  exact Int.le_of_mul_le_mul_left e hFF
 have a4:=Int.mul_le_mul_of_nonneg_right a3 hD
 have a5:0≤g*X:=Int.mul_nonneg hg0 qN
 have a6:0≤P*(T2 - T1):=Int.mul_nonneg pn hD
 have a7:30000*P1*(T2 - T1)≤2475*(P*(T2 - T1))+30000*(T2 - T1):=by grind
 have a8:30*(g1*X)≤g*T2+P*(T2 - T1)+60*X:=by grind
 have a9:30000*P1*(T2 - T1)=30000*(P1*(T2 - T1)):=Int.mul_assoc _ _ _
 omega
theorem Fall.sum {F T1 T2:Int} {p o:Nat→Int} (h:Fall F T1 T2 p o):∀ n:Nat,7*lX (fun k=>vF F T1 T2 p o (k+3)) n+vF F T1 T2 p o (n+2)≤vF F T1 T2 p o 2+60*n*(F*F)
 | 0=>by simp [lX]
 | n+1=>by
  have ih:=h.sum n
  have hs:=h.step (k:=n+2) qN
  have e:lX (fun k=>vF F T1 T2 p o (k+3)) (n+1)=lX (fun k=>vF F T1 T2 p o (k+3)) n+vF F T1 T2 p o (n+3):=rfl
  rw [e,show n+1+2=n+3 by omega]
  have e2:60*((n+1:Nat):Int)*(F*F)=60*n*(F*F)+60*(F*F):=by rw [show ((n+1:Nat):Int)=(n:Int)+1 by omega]; grind
  rw [show n+2+1=n+3 by omega] at hs
  omega
theorem Fall.two {F T1 T2:Int} {p o:Nat→Int} (h:Fall F T1 T2 p o):1000*((o 2 - p 2)*(F*F))≤207*(F*(T2 - T1))+4000*(F*F)∧1000*vF F T1 T2 p o 2≤730*(F*(T2 - T1))+4000*(F*F):=by
 have hF:=h.hF
 have t0:=h.t0
 have t1:=h.t1
 have t2:=h.t2
 have p1:=h.pn 1
 have p2:=h.pn 2
 have o1:=h.po 1
 have s0:=h.s0
 have s0p:=h.s0p
 have s1:=h.s1
 have s1p:=h.s1p
 unfold vF
 generalize hg1:o 1 - p 1=g1 at *
 generalize hg2:o 2 - p 2=g2 at *
 generalize p 1=P1 at *
 generalize p 2=P2 at *
 have hg0:0≤g1:=by omega
 have hFF:0<F*F:=Int.mul_pos qN qN
 have hD:0≤T2 - T1:=by omega
 generalize hdd:T2 - T1=d at *
 have b1:2*(F*(g1 - 2))≤d:=by
  have e:F*(2*(F*(g1 - 2)))≤F*d:=by grind
  exact Int.le_of_mul_le_mul_left e qN
 have b2:2000*(P1 - 1)≤2475*F:=by
  have e0:1000*(F*T1)≤F*(2475*(F*F)):=by
   have:=Int.mul_le_mul_of_nonneg_left (show 1000*T1≤2475*(F*F) by omega) (show 0≤F by omega)
   grind
  have e:(F*F)*(2000*(P1 - 1))≤(F*F)*(2475*F):=by grind
  exact Int.le_of_mul_le_mul_left e hFF
 have c1:1000*(g1*T2)≤2475*(g1*(F*F)):=by
  have:=Int.mul_le_mul_of_nonneg_left t2 hg0
  grind
 have c2:2*(g1*(F*F))≤F*d+4*(F*F):=by
  have:=Int.mul_le_mul_of_nonneg_left b1 (show 0≤F by omega)
  grind
 have c3:2000*(P1*d)≤2475*(F*d)+2000*d:=by
  have:=Int.mul_le_mul_of_nonneg_right b2 hD
  grind
 have dX:1000*d≤2475*(F*F):=by omega
 have dF:1048576*d≤F*d:=Int.mul_le_mul_of_nonneg_right hF hD
 have m1:1000*(g2*(F*F))≤207*(F*d)+4000*(F*F):=by grind
 have m2:12000*(P2 - 1)≤3063*F+3000:=by
  have e0:1000*(P1*T1)≤P1*(2475*(F*F)):=by
   have:=Int.mul_le_mul_of_nonneg_left (show 1000*T1≤2475*(F*F) by omega) p1
   grind
  have e:(F*F)*(12000*(P2 - 1))≤(F*F)*(2475*P1):=by grind
  have:=Int.le_of_mul_le_mul_left e hFF
  omega
 have m3:12000*(P2*d)≤3063*(F*d)+15000*d:=by
  have:=Int.mul_le_mul_of_nonneg_right m2 hD
  grind
 exact ⟨m1,by omega⟩
theorem sumP_shift (g:Nat→Int):∀ n,lX (fun k=>g (k+2)) (n+1)=g 2+lX (fun k=>g (k+3)) n
 | 0=>by simp [lX]
 | n+1=>by
  have ih:=sumP_shift g n
  show lX (fun k=>g (k+2)) (n+1)+g (n+1+2)=g 2+(lX (fun k=>g (k+3)) n+g (n+3))
  rw [ih]
  have:g (n+1+2)=g (n+3):=rfl
  omega
theorem sumP_le2 {g v:Nat→Int} {X:Int} (h:∀ k,g k*X≤v k):∀ n,lX g n*X≤lX v n
 | 0=>by simp [lX]
 | n+1=>by
  have ih:=sumP_le2 h n
  have:=h n
  show (lX g n+g n)*X≤lX v n+v n
  rw [Int.add_mul]; omega
theorem cos_fall {t1 t2 q:Int} (hq:20≤q∧q≤1000) (h0:0≤t1) (h12:t1≤t2) (h2:1000*t2≤1573*2^far q):188*(t2*t2 - t1*t1)≤1000*((lS t1 q (nW q)).1 - (lS t2 q (nW q)).2+500000)*2^far q:=by
 have hF:=fM (q:=q) hq.1 qN
 have hff:=jV (q:=q) qN qN
 have hFF:0<(2:Int)^far q*2^far q:=Int.mul_pos qN qN
 have hT12:t1*t1≤t2*t2:=Int.mul_le_mul h12 h12 h0 qN
 have hT1:0≤t1*t1:=Int.mul_nonneg h0 h0
 have hT2:1000*(t2*t2)≤2475*(2^far q*2^far q):=by
  have e1:=Int.mul_le_mul h2 h2 qN qN
  have e2:1000*t2*(1000*t2)=1000000*(t2*t2):=by grind
  have e3:1573*(2:Int)^far q*(1573*2^far q)=2474329*(2^far q*2^far q):=by grind
  omega
 have hp:=shrC (q:=q) ⟨by omega,by omega⟩ h0 (wv_sq (F:=2^far q) h0 qN qN)
 have ho:=shrC (q:=q) (t:=t2) ⟨by omega,by omega⟩ qN (wv_sq (F:=2^far q) qN h2 qN)
 have hf:(0:Int)≤1*2^far q:=by omega
 have nnp:=hp.toNx.nonneg (f:=(1*2^far q,1*2^far q)) (fun b=>by cases b <;> exact hf)
 have nno:=ho.toNx.nonneg (f:=(1*2^far q,1*2^far q)) (fun b=>by cases b <;> exact hf)
 have sp:=fun b k=>hp.toNx.sq (1*2^far q,1*2^far q) b k
 have so:=fun b k=>ho.toNx.sq (1*2^far q,1*2^far q) b k
 have selfp:=hp.self hf
 have selfo:=ho.self hf
 have tail:=ho.tail hf (n:=2*nW q) (by unfold nW; omega) (τ:=16) qE (tailA (F:=2^far q) (A:=1) (τ:=16) (σ:=1) (f:=1*2^far q) (f':=0) qE qE (powW qN qN) qE qN qN (Int.pow_pos qE)).1 (2*nW q) true (Nat.le_refl _)
 have p0:∀ b,cJ b (itN (gQ t1 q) (1*2^far q,1*2^far q) 0)=2^far q:=fun b=>by cases b <;> exact Int.one_mul _
 have o0:∀ b,cJ b (itN (gQ t2 q) (1*2^far q,1*2^far q) 0)=2^far q:=fun b=>by cases b <;> exact Int.one_mul _
 have mono:∀ k,cJ true (itN (gQ t1 q) (1*2^far q,1*2^far q) k)≤cJ true (itN (gQ t2 q) (1*2^far q,1*2^far q) k):=fun k=>by
  induction k with
  | zero=>rw [p0,o0]; exact Int.le_refl _
  | succ k ih =>
   have e:∀ t,cJ true (itN (gQ t q) (1*2^far q,1*2^far q) (k+1))=upz (cJ true (itN (gQ t q) (1*2^far q,1*2^far q) k)*(t*t)) ((2*((k+1:Nat):Int) - 1)*2*((k+1:Nat):Int)*2^far (2*q)):=fun t=>rfl
   rw [e,e]
   exact upz_le (hp.posD k) (Int.mul_le_mul ih hT12 hT1 (nno k true))
 generalize hpp:itN (gQ t1 q) (1*2^far q,1*2^far q)=P at *
 generalize hoo:itN (gQ t2 q) (1*2^far q,1*2^far q)=O at *
 have D0:∀ k:Nat,∀ C:Int,C≤(2*((k+1:Nat):Int) - 1)*2*((k+1:Nat):Int)→0≤C→∀ x y:Int,0≤y→(2*((k+1:Nat):Int) - 1)*2*((k+1:Nat):Int)*2^far (2*q)*x≤y→C*(2^far q*2^far q)*x≤y:=fun k C hC hC0 x y hy hx=>by
  rw [hff] at hx
  rcases Int.lt_or_le x 0 with h | h
  ·have:C*(2^far q*2^far q)*x≤0:=Int.mul_nonpos_of_nonneg_of_nonpos (Int.mul_nonneg hC0 qN) qN
   omega
  ·exact Int.le_trans (Int.mul_le_mul_of_nonneg_right (Int.mul_le_mul_of_nonneg_right hC qN) h) hx
 have big:∀ k:Nat,2≤k→(30:Int)≤(2*((k+1:Nat):Int) - 1)*2*((k+1:Nat):Int):=fun k hk=>by
  have:(5*2*3:Int)≤(2*((k+1:Nat):Int) - 1)*2*((k+1:Nat):Int):=Int.mul_le_mul qN qN qE qN
  omega
 have gst:∀ k:Nat,∀ C:Int,C≤(2*((k+1:Nat):Int) - 1)*2*((k+1:Nat):Int)→0≤C→C*(2^far q*2^far q)*(cJ true (O (k+1)) - cJ true (P (k+1)) - 2)≤(cJ true (O k) - cJ true (P k))*(t2*t2)+cJ true (P k)*(t2*t2 - t1*t1):=fun k C hC hC0=>by
  refine D0 k C hC hC0 _ _ ?_ ?_
  ·have a1:=Int.mul_nonneg (show 0≤cJ true (O k) - cJ true (P k) by have:=mono k; omega) (show 0≤t2*t2 by omega)
   have a2:=Int.mul_nonneg (nnp k true) (show 0≤t2*t2 - t1*t1 by omega)
   omega
  ·have a1:(2*((k+1:Nat):Int) - 1)*2*((k+1:Nat):Int)*2^far (2*q)*(cJ true (O (k+1)) - 1)≤cJ true (O k)*(t2*t2):=(so true k).1
   have a2:cJ true (P k)*(t1*t1)≤(2*((k+1:Nat):Int) - 1)*2*((k+1:Nat):Int)*2^far (2*q)*(cJ true (P (k+1))+1):=(sp true k).2
   generalize (2*((k+1:Nat):Int) - 1)*2*((k+1:Nat):Int)*2^far (2*q)=D at *
   grind
 have pst:∀ k:Nat,∀ C:Int,C≤(2*((k+1:Nat):Int) - 1)*2*((k+1:Nat):Int)→0≤C→C*(2^far q*2^far q)*(cJ true (P (k+1)) - 1)≤cJ true (P k)*(t1*t1):=fun k C hC hC0 =>
  D0 k C hC hC0 _ _ (Int.mul_nonneg (nnp k true) hT1) (sp true k).1
 have hFall:Fall (2^far q) (t1*t1) (t2*t2) (fun k=>cJ true (P k)) (fun k=>cJ true (O k)):=by
  refine ⟨hF,hT1,hT12,hT2,p0 true,o0 true,fun k=>nnp k true,mono,?_,?_,gst 1 12 qE qE,pst 1 12 qE qE,fun k hk=>gst k 30 (big k hk) qE,fun k hk=>pst k 30 (big k hk) qE⟩
  ·have:=gst 0 2 qE qE
   rw [p0,o0,Int.sub_self,Int.zero_mul,Int.zero_add] at this
   exact this
  ·have:=pst 0 2 qE qE
   rw [p0] at this
   exact this
 obtain ⟨w1,w2⟩:=hFall.two
 have one:(2:Int)^far q*(t2*t2 - t1*t1)≤2*(2^far q*2^far q)*(cJ false (O 1) - cJ true (P 1)+2):=by
  have a1:cJ false (O 0)*(t2*t2)≤(2*((0+1:Nat):Int) - 1)*2*((0+1:Nat):Int)*2^far (2*q)*(cJ false (O (0+1))+1):=(so false 0).2
  have a2:(2*((0+1:Nat):Int) - 1)*2*((0+1:Nat):Int)*2^far (2*q)*(cJ true (P (0+1)) - 1)≤cJ true (P 0)*(t1*t1):=(sp true 0).1
  rw [o0,show (2*((0+1:Nat):Int) - 1)*2*((0+1:Nat):Int)=2 by rfl,hff] at a1
  rw [p0,show (2*((0+1:Nat):Int) - 1)*2*((0+1:Nat):Int)=2 by rfl,hff] at a2
  grind
 have pairs:∀ n:Nat,n≤199→(smT (gQ t2 q) fC (1*2^far q,1*2^far q) (2*(n+1))).2 - (smT (gQ t1 q) fC (1*2^far q,1*2^far q) (2*(n+1))).1≤cJ true (P 1) - cJ false (O 1)+lX (fun k=>cJ true (O (k+2)) - cJ true (P (k+2))) (2*n)+2000*n:=fun n=>by
  induction n with
  | zero =>
   intro _
   have e1:(smT (gQ t2 q) fC (1*2^far q,1*2^far q) (2*(0+1))).2=0+cJ true (itN (gQ t2 q) (1*2^far q,1*2^far q) 0) - cJ false (itN (gQ t2 q) (1*2^far q,1*2^far q) 1):=rfl
   have e2:(smT (gQ t1 q) fC (1*2^far q,1*2^far q) (2*(0+1))).1=0+cJ false (itN (gQ t1 q) (1*2^far q,1*2^far q) 0) - cJ true (itN (gQ t1 q) (1*2^far q,1*2^far q) 1):=rfl
   rw [e1,e2,hpp,hoo,p0,o0]
   simp only [Nat.mul_zero,lX]
   omega
  | succ n ih =>
   intro hn
   have ih:=ih qN
   have e1:(smT (gQ t2 q) fC (1*2^far q,1*2^far q) (2*(n+1+1))).2=(smT (gQ t2 q) fC (1*2^far q,1*2^far q) (2*(n+1))).2+cJ true (O (2*n+2)) - cJ false (O (2*n+3)):=by
    rw [show 2*(n+1+1)=2*(n+1)+1+1 by omega,oY qN,lZ qN,← hoo]; rfl
   have e2:(smT (gQ t1 q) fC (1*2^far q,1*2^far q) (2*(n+1+1))).1=(smT (gQ t1 q) fC (1*2^far q,1*2^far q) (2*(n+1))).1+cJ false (P (2*n+2)) - cJ true (P (2*n+3)):=by
    rw [show 2*(n+1+1)=2*(n+1)+1+1 by omega,oY qN,lZ qN,← hpp]; rfl
   have e3:lX (fun k=>cJ true (O (k+2)) - cJ true (P (k+2))) (2*(n+1))=lX (fun k=>cJ true (O (k+2)) - cJ true (P (k+2))) (2*n)+(cJ true (O (2*n+2)) - cJ true (P (2*n+2)))+(cJ true (O (2*n+3)) - cJ true (P (2*n+3))):=rfl
   have s1:=selfp (2*n+2)
   have s2:=selfo (2*n+3)
   have m1:=mono (2*n+3)
   rw [e1,e2,e3]
   omega
 obtain ⟨n,hn⟩:∃ n,nW q=n+2:=⟨nW q - 2,by unfold nW; omega⟩
 have hnl:n+2≤199:=by unfold nW at hn; omega
 have hpair:=pairs (n+1) qN
 have c1:(lS t1 q (nW q)).1=(smT (gQ t1 q) fC (1*2^far q,1*2^far q) (2*(n+1+1))).1:=by rw [hn]; rfl
 have c2:(lS t2 q (nW q)).2=(smT (gQ t2 q) fC (1*2^far q,1*2^far q) (2*(n+1+1))).2+cJ true (O (2*nW q)):=by rw [← hoo,hn]; rfl
 rw [show 2*(n+1)=(2*n+1)+1 by omega,sumP_shift (fun k=>cJ true (O k) - cJ true (P k))] at hpair
 have hs1:=sumP_le2 (g:=fun k=>cJ true (O (k+3)) - cJ true (P (k+3))) (X:=2^far q*2^far q) (fun k=>(hFall.v_nn (k+3)).1) (2*n+1)
 have hs2:=hFall.sum (2*n+1)
 have hs3:=(hFall.v_nn (2*n+1+2)).2
 have hn60:60*((2*n+1:Nat):Int)*(2^far q*2^far q)≤60*400*(2^far q*2^far q):=Int.mul_le_mul_of_nonneg_right qN qN
 rw [c1,c2]
 have hX:cJ false (O 1) - cJ true (P 1) - (cJ true (O 2) - cJ true (P 2)) - lX (fun k=>cJ true (O (k+3)) - cJ true (P (k+3))) (2*n+1) - 450000≤(smT (gQ t1 q) fC (1*2^far q,1*2^far q) (2*(n+1+1))).1 - ((smT (gQ t2 q) fC (1*2^far q,1*2^far q) (2*(n+1+1))).2+cJ true (O (2*nW q))):=by omega
 generalize (smT (gQ t1 q) fC (1*2^far q,1*2^far q) (2*(n+1+1))).1 - ((smT (gQ t2 q) fC (1*2^far q,1*2^far q) (2*(n+1+1))).2+cJ true (O (2*nW q)))=Z at *
 generalize lX (fun k=>cJ true (O (k+3)) - cJ true (P (k+3))) (2*n+1)=S at *
 generalize lX (fun k=>vF (2^far q) (t1*t1) (t2*t2) (fun k=>cJ true (P k)) (fun k=>cJ true (O k)) (k+3)) (2*n+1)=S2 at *
 generalize vF (2^far q) (t1*t1) (t2*t2) (fun k=>cJ true (P k)) (fun k=>cJ true (O k)) 2=V2 at *
 generalize vF (2^far q) (t1*t1) (t2*t2) (fun k=>cJ true (P k)) (fun k=>cJ true (O k)) (2*n+1+2)=V3 at *
 have f1:=Int.mul_le_mul_of_nonneg_right hX (show (0:Int)≤2^far q*2^far q by omega)
 have hwn:0≤(2:Int)^far q*(t2*t2 - t1*t1):=Int.mul_nonneg qN qN
 have f2:(2:Int)^far q*(188*(t2*t2 - t1*t1))≤2^far q*(1000*(Z+500000)*2^far q):=by
  generalize t2*t2 - t1*t1=d at *
  generalize cJ true (O 2) - cJ true (P 2)=g2 at *
  generalize cJ false (O 1) - cJ true (P 1)=g1 at *
  generalize (2:Int)^far q=F at *
  have hFd:F*(188*d)=188*(F*d):=by grind
  have hZ:F*(1000*(Z+500000)*F)=1000*(Z*(F*F))+500000000*(F*F):=by grind
  have h1:2*(F*F)*(g1+2)=2*(g1*(F*F))+4*(F*F):=by grind
  have h3:(g1 - g2 - S - 450000)*(F*F)=g1*(F*F) - g2*(F*F) - S*(F*F) - 450000*(F*F):=by grind
  omega
 exact Int.le_of_mul_le_mul_left f2 qN
def Big (b:Bal) (F:Int):Prop:=F≤b.lo*2^125∨F ≤ -b.hi*2^125
theorem rQ {b:Bal} {q:Int} (hb:b.q=q+40) (hq:160≤q∧q≤900) (h:2^far (q+40)≤b.lo*2^124∨2^far (q+40) ≤ -b.hi*2^124):Big (c9 b q) (2^far q):=by
 have hP:(2:Int)^far (q+40)=2^far q*1099511627776:=by rw [show (q+40:Int)=q+(40:Nat) by omega,jB qN qN]; rfl
 have e0:(c9 b q).lo=b.lo/2^far (b.q - q):=jM false qN
 have e1:(c9 b q).hi = -(-b.hi/2^far (b.q - q)):=jM true qN
 rw [hb,show q+40 - q=40 by omega,show (2:Int)^far 40=1099511627776 by rfl] at e0 e1
 have hF:(2:Int)^160≤2^far q:=bW (by unfold far; omega)
 rw [show (2:Int)^160=1461501637330902918203684832716283019655932542976 by rfl] at hF
 unfold Big
 rw [hP,show (2:Int)^124=21267647932558653966460912964485513216 by rfl] at h
 rw [e0,e1,show (2:Int)^125=42535295865117307932921825928971026432 by rfl]
 rcases h with h | h
 ·left; omega
 ·right; omega
theorem cos_H200 : -(2:Int)^60≤(lS (wvH 200).hi 200 (nW 200)).2:=of_decide_eq_true qK
theorem wvS_big {m e:Int} (h:Xp m e) {q:Int} (hq:200≤q∧q≤840) (w:Int):2^far q≤(wvS m e q w).1*2^122:=by
 have hI:=wv_in h (q:=q) ⟨hq.1,by omega⟩
 obtain ⟨f1,f2⟩:=wv_far h hq.1 hq.2
 have hF:(2:Int)^200≤2^far q:=bW (by unfold far; omega)
 rw [show (2:Int)^200=1606938044258990275541962092341162602522202993782792835301376 by rfl] at hF
 have lo0:=hI.lo0
 have lo1:=hI.lo1
 have h1:=hI.h1
 have h0:=hI.h0
 have hle:=hI.hle
 rw [show (2:Int)^120=1329227995784915872903807060280344576 by rfl] at f1 f2
 unfold wvS
 rw [show (2:Int)^122=5316911983139663491615228241121378304 by rfl]
 split
 ·have hc:=cos_fall (q:=q) ⟨by omega,by omega⟩ lo0 (show (wvR m e q).lo≤(wvH q).hi by omega) qN
  obtain ⟨d,hd,hF2⟩:=far200 hq.1 qN
  have hA:=cU d
  have hH:=(pi_nr (q:=200) (d:=d) qE qN).nr true true
  have hH2:Nr (2^d) 4398046511106 (wvH 200).hi (wvH q).hi:=by
   rw [← hd] at hH
   have b0:(wvH 200).hi=dv2 true (piB 200).hi 2:=nX true (piB 200)
   have b1:(wvH q).hi=dv2 true (piB q).hi 2:=nX true (piB q)
   rw [b0,b1]
   exact dv2_nr hA qE qE hH true true
  have hI2:=wv_in h (q:=200) qE
  have g1:=hI2.h1
  have g0:=hI2.h0
  have gle:=hI2.hle
  have F200:(2:Int)^far 200=1606938044258990275541962092341162602522202993782792835301376:=by rfl
  rw [F200] at g1 g0
  have hcn:=cos_nr (q:=200) (d:=d) (t:=(wvH 200).hi) (t':=(wvH q).hi) qE qN qN (by rw [F200]; omega) (wv_sq (F:=2^far 200) qN (by rw [F200]; omega) (by rw [F200]; omega)) qN (by rw [← hd]; omega) (by rw [← hd]; exact wv_sq (F:=2^far q) qN qN qN) qE hH2 true true
  have c200 : -(2:Int)^60≤cJ true (lS (wvH 200).hi 200 (nW 200)):=cos_H200
  rw [← hd] at hcn
  have c2:=hcn.2
  have cq:cJ true (lS (wvH q).hi q (nW q))=(lS (wvH q).hi q (nW q)).2:=rfl
  rw [cq] at c2
  have c3:=Int.mul_le_mul_of_nonneg_right c200 (show (0:Int)≤2^d by omega)
  rw [show -(2:Int)^60 = -1152921504606846976 by rfl] at c3
  rw [show (2:Int)^200=1606938044258990275541962092341162602522202993782792835301376 by rfl] at hF2
  have hlow : -(40000000000000000000*2^d)≤(lS (wvH q).hi q (nW q)).2:=by
   have e:(4194304*4398046511106+137438953472:Int)*2^d≤20000000000000000000*2^d:=Int.mul_le_mul_of_nonneg_right qE qN
   generalize (2:Int)^d=A at *
   omega
  have hs:(wvH q).hi*(wvH q).hi - (wvR m e q).lo*(wvR m e q).lo=((wvH q).hi - (wvR m e q).lo)*((wvH q).hi+(wvR m e q).lo):=by grind
  have hp1:((wvH q).hi - (wvR m e q).lo)*(3*2^far q)≤((wvH q).hi - (wvR m e q).lo)*(2*((wvH q).hi+(wvR m e q).lo)):=Int.mul_le_mul_of_nonneg_left qN qN
  rw [hs] at hc
  generalize (lS (wvH q).hi q (nW q)).2=Y at *
  generalize (lS (wvR m e q).lo q (nW q)).1=Z at *
  have hfin:(282*((wvH q).hi - (wvR m e q).lo))*2^far q≤(1000*(Z - Y+500000))*2^far q:=by grind
  have:=Int.le_of_mul_le_mul_right hfin qN
  rw [hF2] at f2 hF ⊢
  generalize (2:Int)^d=A at *
  omega
 ·have hs:=sin_low (q:=q) ⟨by omega,by omega⟩ lo0 qN
  omega
theorem wave_big {m e:Int} (h:Xp m e) {q:Int} (hq:160≤q∧q≤800) (w:Int):Big (sM m e q w) (2^far q):=by
 have hI:=wv_in h (q:=q+40) ⟨by omega,by omega⟩
 have hS:=wvS_big h (q:=q+40) ⟨by omega,by omega⟩ w
 have hF:(2:Int)^200≤2^far (q+40):=bW (by unfold far; omega)
 rw [show (2:Int)^200=1606938044258990275541962092341162602522202993782792835301376 by rfl] at hF
 have wd:=hI.wd
 have hlo:2^far (q+40)≤(wvB m e (q+40) w).lo*2^124:=by
  show _≤((wvS m e (q+40) w).1 - ((wvR m e (q+40)).hi - (wvR m e (q+40)).lo))*2^124
  rw [show (2:Int)^122=5316911983139663491615228241121378304 by rfl] at hS
  rw [show (2:Int)^124=21267647932558653966460912964485513216 by rfl]
  omega
 refine rQ ?_ ⟨by omega,by omega⟩ ?_
 ·unfold dW
  split
  ·rw [fJ]; rfl
  ·rfl
 ·unfold dW
  split
  ·right
   have:(b8 (wvB m e (q+40) w) (-1)).hi=(wvB m e (q+40) w).lo * -1:=by unfold b8; rw [if_pos qE]
   rw [this]
   have e : -((wvB m e (q+40) w).lo * -1)=(wvB m e (q+40) w).lo:=by omega
   rw [e]; exact hlo
  ·exact .inl hlo
theorem atanh_gap {t1 t2 q:Int} (hq:20≤q∧q≤1100) (h0:0≤t1) (h12:t1≤t2) (h1:t2≤2^far q) (h2:t2*t2*8≤2^far q*2^far q):(dZ t1 q (nL q)).2+(t2 - t1)≤(dZ t2 q (nL q)).1+1000000:=by
 have hF:=fM (q:=q) hq.1 hq.2
 have hT:t1*t1≤t2*t2:=Int.mul_le_mul h12 h12 h0 qN
 have h11:t1*t1*8≤2^far q*2^far q:=by omega
 have hp:=shrA (q:=q) ⟨by omega,by omega⟩ qE h0 h11
 have ho:=shrA (q:=q) (t:=t2) ⟨by omega,by omega⟩ qE qN h2
 have nnp:=hp.toNx.nonneg (f:=(t1,t1)) (fun b=>by cases b <;> exact h0)
 have nno:=ho.toNx.nonneg (f:=(t2,t2)) (fun b=>by cases b <;> (show 0≤t2; omega))
 have selfo:=ho.self (show 0≤t2 by omega)
 have hn:nL q≤400:=by unfold nL; omega
 have tail:=hp.tail h0 (n:=nL q) (Nat.zero_le _) (τ:=16) qE (tailA (F:=2^far q) (A:=1) (τ:=16) (σ:=1) (f:=t1) (f':=0) qE qE (powL qN qN) qE qN qN (Int.pow_pos qE)).1 (nL q) true (Nat.le_refl _)
 have mono:∀ k,LeP (itN (dP t1 q) (t1,t1) k) (itN (dP t2 q) (t2,t2) k):=sC ⟨h0,h12⟩ fun k p o hpo=>(hpo.times (Int.mul_nonneg h0 h0) hT qE _:LeP (cC p (t1*t1) 1 (2*q)) (cC o (t2*t2) 1 (2*q)))
 have mono2:∀ k,cJ true (itN (dP t1 q) (t1,t1) k)≤cJ true (itN (dP t2 q) (t2,t2) k):=fun k=>by
  induction k with
  | zero=>exact h12
  | succ k ih =>
   have e:∀ t,cJ true (itN (dP t q) (t,t) (k+1))=upz (cJ true (itN (dP t q) (t,t) k)*(t*t)) (1*2^far (2*q)):=fun t=>rfl
   rw [e,e]
   exact upz_le (by have:=cR (2*q); omega) (Int.mul_le_mul ih hT (Int.mul_nonneg h0 h0) (nno k true))
 have term:∀ k:Nat,k≤400→(fR k (itN (dP t1 q) (t1,t1) k)).2≤(fR k (itN (dP t2 q) (t2,t2) k)).1+2000:=fun k hk=>by
  have a1:(fR k (itN (dP t1 q) (t1,t1) k)).2≤cJ true (fR k (itN (dP t2 q) (t2,t2) k)):=by
   have e:∀ p:P2,cJ true (fR k p)=upz (p.2*1) ((2*(k:Int)+1)*2^far 0):=fun p=>rfl
   show cJ true (fR k _)≤_
   rw [e,e]
   refine upz_le (Int.mul_pos qN qE) ?_
   have:=mono2 k
   have e2:∀ p:P2,cJ true p=p.2:=fun p=>rfl
   rw [e2,e2] at this
   omega
  have a2:=term_nr (term:=fR) (.inr rfl) (A:=1) (E:=2*k) qE qN (p:=itN (dP t2 q) (t2,t2) k) (p':=itN (dP t2 q) (t2,t2) k) (nno k) k false true (by
   have s:=selfo k
   have l:=(sC (next:=dP t2 q) (next':=dP t2 q) (f:=(t2,t2)) (f':=(t2,t2)) ⟨by show 0≤t2; omega,Int.le_refl _⟩ (fun k p o hpo=>(hpo.times (Int.mul_nonneg qN qN) (Int.le_refl _) qE _:LeP (cC p (t2*t2) 1 (2*q)) (cC o (t2*t2) 1 (2*q)))) k).2
   have l':cJ false (itN (dP t2 q) (t2,t2) k)≤cJ true (itN (dP t2 q) (t2,t2) k):=l
   exact ⟨by omega,by omega⟩)
  have a3:=a2.1
  have e3:cJ false (fR k (itN (dP t2 q) (t2,t2) k))=(fR k (itN (dP t2 q) (t2,t2) k)).1:=rfl
  rw [e3] at a3
  omega
 have first:∀ t:Int,(fR 0 (itN (dP t q) (t,t) 0)).1=t∧(fR 0 (itN (dP t q) (t,t) 0)).2=t:=fun t=>by
  constructor
  ·show t*1/((2*((0:Nat):Int)+1)*2^far 0)=t
   rw [show (2*((0:Nat):Int)+1)*2^far 0=1 by rfl]; omega
  ·show upz (t*1) ((2*((0:Nat):Int)+1)*2^far 0)=t
   rw [show (2*((0:Nat):Int)+1)*2^far 0=1 by rfl]
   unfold upz; omega
 have sums:∀ n:Nat,n≤400→(smN (dP t1 q) fR (t1,t1) (n+1)).2+(t2 - t1)≤(smN (dP t2 q) fR (t2,t2) (n+1)).1+2000*n:=fun n=>by
  induction n with
  | zero =>
   intro _
   have e1:(smN (dP t1 q) fR (t1,t1) (0+1)).2=0+(fR 0 (itN (dP t1 q) (t1,t1) 0)).2:=rfl
   have e2:(smN (dP t2 q) fR (t2,t2) (0+1)).1=0+(fR 0 (itN (dP t2 q) (t2,t2) 0)).1:=rfl
   rw [e1,e2,(first t1).2,(first t2).1]
   omega
  | succ n ih =>
   intro hn
   have ih:=ih qN
   have ht:=term (n+1) hn
   have e1:(smN (dP t1 q) fR (t1,t1) (n+1+1)).2=(smN (dP t1 q) fR (t1,t1) (n+1)).2+(fR (n+1) (itN (dP t1 q) (t1,t1) (n+1))).2:=rfl
   have e2:(smN (dP t2 q) fR (t2,t2) (n+1+1)).1=(smN (dP t2 q) fR (t2,t2) (n+1)).1+(fR (n+1) (itN (dP t2 q) (t2,t2) (n+1))).1:=rfl
   rw [e1,e2]
   omega
 obtain ⟨n,hn1⟩:∃ n,nL q=n+1:=⟨nL q - 1,by unfold nL; omega⟩
 have hs:=sums n qN
 have e1:(dZ t1 q (nL q)).2=(smN (dP t1 q) fR (t1,t1) (n+1)).2+(fR (nL q) (itN (dP t1 q) (t1,t1) (nL q))).2*2^far 1:=by
  unfold dZ mS
  rw [hn1]
 have e2:(dZ t2 q (nL q)).1=(smN (dP t2 q) fR (t2,t2) (n+1)).1:=by
  unfold dZ mS
  rw [hn1]
 have tl:=kY (term:=fR) (.inr rfl) (nnp (nL q)) (nL q) true
 have tl':(fR (nL q) (itN (dP t1 q) (t1,t1) (nL q))).2≤cJ true (itN (dP t1 q) (t1,t1) (nL q))+1:=tl
 rw [e1,e2,show (2:Int)^far 1=2 by rfl]
 omega
theorem ln2_third {q:Int} (hq:20≤q∧q≤1000):2*(dZ (ofT 3 q) q (nL q)).1≤(cW q).lo+300000000000:=by
 have t1:=oR (c:=3) (q:=q) qE
 have t2:=oR (c:=3) (q:=q+(16:Nat)) qE
 have f1:=fM (q:=q) hq.1 qN
 have f2:=fM (q:=q+(16:Nat)) qN qN
 have hn:=(atanh_nr (q:=q) (d:=16) (e:=2) hq.1 qN t1.1 qN (gP (c:=3) t1.1 qN f1 qE qE qE) t2.1 qN (gP (c:=3) t2.1 qN f2 qE qE qE) qE (by have:=ofT_nr (c:=3) (q:=q) (d:=16) qE qN qN 0 0 qE qE; rwa [Int.add_zero,Int.add_zero] at this) false false).2
 have e1:∀ p:P2,cJ false p=p.1:=fun p=>rfl
 rw [e1,e1,show (2:Int)^16=65536 by rfl] at hn
 have hb:(cW q).lo=(dZ (ofT 3 (q+(16:Nat))) (q+(16:Nat)) (nL (q+(16:Nat)))).1*2/65536:=by
  have:=jM (b:=ofV dZ 3 2 (q+16) (nL (q+16))) (q:=q) false (by rw [ofV_q]; omega)
  rw [ofV_q,show q+16 - q=16 by omega] at this
  exact this
 rw [hb]
 omega
theorem yq_gap {m e q:Int} (h:Xp m e) (hq:60≤q∧q≤1200):∃ g:Int,0<g∧2^far q≤4503599627370496*g∧yq m q≤2*2^far q - g∧(m≠1→2^far q+g≤yq m q):=by
 have hb:=h.bl
 have h1:=gM m h.pos
 have h2:=iK m h.pos
 have hp:=cR (q+1 - (bH m.natAbs:Nat))
 have hodd:=h.low.one
 rw [Nat.pow_zero,Nat.div_one] at hodd
 have hpos:=h.pos
 have eF:(2:Int)^far q=2^(bH m.natAbs - 1)*2^far (q+1 - (bH m.natAbs:Nat)):=by
  rw [← Int.pow_add]; congr 1; unfold far; omega
 have e2:(2:Int)^bH m.natAbs=2*2^(bH m.natAbs - 1):=by
  obtain ⟨n,hn⟩:∃ n,bH m.natAbs=n+1:=⟨bH m.natAbs - 1,by omega⟩
  rw [hn,Nat.add_sub_cancel,Int.pow_succ,Int.mul_comm]
 have e52:(2:Int)^(bH m.natAbs - 1)≤4503599627370496:=by
  have:=bW (show bH m.natAbs - 1≤52 by omega)
  rwa [show (2:Int)^52=4503599627370496 by rfl] at this
 have hne:m≠1→2^(bH m.natAbs - 1)+1≤m:=fun hm=>by
  rcases Nat.lt_or_ge (bH m.natAbs) 2 with h3 | h3
  ·exfalso
   rw [show bH m.natAbs - 1=0 by omega] at e2
   rw [e2] at h2
   omega
  ·obtain ⟨n,hn⟩:∃ n,bH m.natAbs - 1=n+1:=⟨bH m.natAbs - 2,by omega⟩
   have e3:(2:Int)^(bH m.natAbs - 1)=2^n*2:=by rw [hn,Int.pow_succ]
   omega
 refine ⟨2^far (q+1 - (bH m.natAbs:Nat)),by omega,?_,?_,fun hm=>?_⟩
 ·rw [eF]; exact Int.mul_le_mul_of_nonneg_right e52 qN
 ·rw [eF]
  unfold yq
  have:=Int.mul_le_mul_of_nonneg_right (show m≤2*2^(bH m.natAbs - 1) - 1 by omega) (show (0:Int)≤2^far (q+1 - (bH m.natAbs:Nat)) by omega)
  rw [Int.sub_mul,Int.one_mul,Int.mul_assoc] at this
  exact this
 ·rw [eF]
  unfold yq
  have:=Int.mul_le_mul_of_nonneg_right (hne hm) (show (0:Int)≤2^far (q+1 - (bH m.natAbs:Nat)) by omega)
  rw [Int.add_mul,Int.one_mul] at this
  exact this
theorem lgB_gap {m e q:Int} (h:Xp m e) (hq:200≤q∧q≤900):∃ g:Int,0<g∧2^far q≤4503599627370496*g∧4*(lgB m e q).hi≤4*(cW q).lo - g∧(m≠1→g≤4*(lgB m e q).lo):=by
 obtain ⟨g,g0,g1,g2,g3⟩:=yq_gap h (q:=q) ⟨by omega,by omega⟩
 obtain ⟨i1,i2,i3,i4,i5⟩:=log_in h (q:=q) ⟨by omega,by omega⟩
 have hy:=yq_in h (q:=q) ⟨by omega,by omega⟩
 have hF:(2:Int)^200≤2^far q:=bW (by unfold far; omega)
 rw [show (2:Int)^200=1606938044258990275541962092341162602522202993782792835301376 by rfl] at hF
 have hF2:=fM (q:=q) qN qN
 have hlo:(lgD m e q).lo=dv2 false ((yq m q - 2^far q)*2^far q) (yq m q+2^far q):=i5 false
 have hhi:(lgD m e q).hi=dv2 true ((yq m q - 2^far q)*2^far q) (yq m q+2^far q):=i5 true
 have s0:=vC false (x:=(yq m q - 2^far q)*2^far q) (P:=yq m q+2^far q) qN
 have s1:=vC true (x:=(yq m q - 2^far q)*2^far q) (P:=yq m q+2^far q) qN
 rw [← hlo] at s0
 rw [← hhi] at s1
 refine ⟨g,g0,g1,?_,fun hm=>?_⟩
 ·have tOf:=oR (c:=3) (q:=q) qE
  have tOf2:2^far q≤3*ofT 3 q+2:=by
   unfold ofT
   rw [Int.one_mul]; omega
  have hd:9*((lgD m e q).hi - 1)≤3*2^far q - 2*g:=by
   have a1:(yq m q+2^far q)*(9*((lgD m e q).hi - 1))≤(yq m q+2^far q)*(3*2^far q - 2*g):=by
    have b1:2*2^far q*g≤2*2^far q*(2*2^far q - yq m q):=Int.mul_le_mul_of_nonneg_left qN qN
    have b2:(yq m q+2^far q)*(2*g)≤3*2^far q*(2*g):=Int.mul_le_mul_of_nonneg_right qN qN
    have s1':=s1.1
    generalize yq m q=y at *
    generalize (2:Int)^far q=F at *
    grind
   exact Int.le_of_mul_le_mul_left a1 qN
  have gap:=atanh_gap (q:=q) (t1:=(lgD m e q).hi) (t2:=ofT 3 q) ⟨by omega,by omega⟩ qN qN qN (gP (c:=3) tOf.1 qN hF2 qE qE qE)
  have th:=ln2_third (q:=q) ⟨by omega,by omega⟩
  have e:(lgB m e q).hi=(dZ (lgD m e q).hi q (nL q)).2*2:=rfl
  rw [e]
  omega
 ·have gy:=g3 hm
  have a1:g≤3*((lgD m e q).lo+1):=by
   have b1:2^far q*g≤2^far q*(3*((lgD m e q).lo+1)):=by
    have c1:g*2^far q≤(yq m q - 2^far q)*2^far q:=Int.mul_le_mul_of_nonneg_right qN qN
    have c2:(yq m q+2^far q)*((lgD m e q).lo+1)≤3*2^far q*((lgD m e q).lo+1):=Int.mul_le_mul_of_nonneg_right qN qN
    have s0':=s0.2
    generalize yq m q=y at *
    generalize (2:Int)^far q=F at *
    grind
   exact Int.le_of_mul_le_mul_left b1 qN
  have gap:=atanh_gap (q:=q) (t1:=0) (t2:=(lgD m e q).lo) ⟨by omega,by omega⟩ qE i2 qN (gP (c:=3) i2 qN hF2 qE qE qE)
  have z:=vU (t:=0) (t':=0) qE qE q (nL q)
  have z0:0≤(dZ 0 q (nL q)).2:=Int.le_trans z.1 z.2
  have e:(lgB m e q).lo=(dZ (lgD m e q).lo q (nL q)).1*2:=rfl
  rw [e]
  omega
theorem log_big {m e:Int} (h:Xp m e) (hx:¬ (m=1∧e=0)) {q:Int} (hq:160≤q∧q≤800):Big (logA m e q) (2^far q):=by
 obtain ⟨g,g0,g1,g2,g3⟩:=lgB_gap h (q:=q+40) ⟨by omega,by omega⟩
 obtain ⟨b1,b2,b3⟩:=lgB_in h (q:=q+40) ⟨by omega,by omega⟩
 have hL:=iM (q:=q+40) qN qN
 have l1:=hL.lo
 have hF:=cR (q+40)
 have b0:0≤(lgB m e (q+40)).lo:=(b3 false).1
 refine rQ rfl ⟨by omega,by omega⟩ ?_
 rw [show (2:Int)^124=21267647932558653966460912964485513216 by rfl]
 rcases Int.lt_trichotomy (lgS m e) 0 with hs | hs | hs
 ·right
  have e1:(uS m e (cW (q+40))).hi=(lgB m e (q+40)).hi+(cW (q+40)).lo*lgS m e:=by
   show (lgB m e (q+40)).hi+(b8 (cW (q+40)) (lgS m e)).hi=_
   unfold b8; rw [if_pos hs]
  have e2:(cW (q+40)).lo*lgS m e≤(cW (q+40)).lo * -1:=Int.mul_le_mul_of_nonneg_left qN qN
  rw [e1]
  omega
 ·left
  have hm:m≠1:=fun h1=>hx ⟨h1,by subst h1; unfold lgS at hs; rw [show bH (1:Int).natAbs=1 by decide] at hs; omega⟩
  have g4:=g3 hm
  have e1:(uS m e (cW (q+40))).lo=(lgB m e (q+40)).lo+(cW (q+40)).lo*lgS m e:=by
   show (lgB m e (q+40)).lo+(b8 (cW (q+40)) (lgS m e)).lo=_
   unfold b8; rw [if_neg qN]
  rw [e1,hs,Int.mul_zero]
  omega
 ·left
  have e1:(uS m e (cW (q+40))).lo=(lgB m e (q+40)).lo+(cW (q+40)).lo*lgS m e:=by
   show (lgB m e (q+40)).lo+(b8 (cW (q+40)) (lgS m e)).lo=_
   unfold b8; rw [if_neg qN]
  have e2:(cW (q+40)).lo*1≤(cW (q+40)).lo*lgS m e:=Int.mul_le_mul_of_nonneg_left qN qN
  rw [e1]
  omega
theorem log2_big {m e:Int} (h:Xp m e) (hx:¬ (m=1∧e=0)) {q:Int} (hq:160≤q∧q≤800):Big (log2A m e q) (2^far q):=by
 obtain ⟨g,g0,g1,g2,g3⟩:=lgB_gap h (q:=q+40) ⟨by omega,by omega⟩
 obtain ⟨b1,b2,b3⟩:=lgB_in h (q:=q+40) ⟨by omega,by omega⟩
 have hL:=iM (q:=q+40) qN qN
 have l1:=hL.lo
 have l2:=hL.hi
 have l3:=hL.le
 have hF:=cR (q+40)
 have hFs:(2:Int)^200≤2^far (q+40):=bW (by unfold far; omega)
 rw [show (2:Int)^200=1606938044258990275541962092341162602522202993782792835301376 by rfl] at hFs
 have b0:0≤(lgB m e (q+40)).lo:=(b3 false).1
 have hO:=l8 (q:=q+40) ⟨by omega,by omega⟩
 have qlo:(lgB m e (q+40)).lo≤(iT (lgB m e (q+40)) (cW (q+40))).lo:=by
  obtain ⟨x,y,hxy⟩:=bc_div false (lgB m e (q+40)) (cW (q+40))
  have hxy':(iT (lgB m e (q+40)) (cW (q+40))).lo=bc x (lgB m e (q+40))*2^far (q+40)/bc y (cW (q+40)):=by rw [b1] at hxy; exact hxy
  have hX:(lgB m e (q+40)).lo≤bc x (lgB m e (q+40)):=by cases x; exact Int.le_refl _; exact b2
  have hY:0<bc y (cW (q+40))∧bc y (cW (q+40))≤2^far (q+40):=by
   cases y
   ·show 0<(cW (q+40)).lo∧(cW (q+40)).lo≤_; omega
   ·show 0<(cW (q+40)).hi∧(cW (q+40)).hi≤_; omega
  rw [hxy']
  refine Int.le_ediv_of_mul_le hY.1 ?_
  exact Int.mul_le_mul hX hY.2 qN qN
 have qhi:4*(iT (lgB m e (q+40)) (cW (q+40))).hi≤4*2^far (q+40) - g+4:=by
  obtain ⟨x,y,hxy⟩:=bc_div true (lgB m e (q+40)) (cW (q+40))
  have hxy':(iT (lgB m e (q+40)) (cW (q+40))).hi=dv2 true (bc x (lgB m e (q+40))*2^far (q+40)) (bc y (cW (q+40))):=by rw [b1] at hxy; exact hxy
  have hX:bc x (lgB m e (q+40))≤(lgB m e (q+40)).hi:=by cases x; exact b2; exact Int.le_refl _
  have hY:(cW (q+40)).lo≤bc y (cW (q+40))∧bc y (cW (q+40))≤2^far (q+40):=by
   cases y
   ·show (cW (q+40)).lo≤(cW (q+40)).lo∧(cW (q+40)).lo≤_; omega
   ·show (cW (q+40)).lo≤(cW (q+40)).hi∧(cW (q+40)).hi≤_; omega
  have st:=(vC true (x:=bc x (lgB m e (q+40))*2^far (q+40)) (P:=bc y (cW (q+40))) qN).1
  rw [← hxy'] at st
  generalize bc x (lgB m e (q+40))=X at *
  generalize bc y (cW (q+40))=Y at *
  generalize (iT (lgB m e (q+40)) (cW (q+40))).hi=z at *
  have a1:Y*(4*(z - 1))≤Y*(4*2^far (q+40) - g):=by
   have c1:(4*X)*2^far (q+40)≤(4*Y - g)*2^far (q+40):=Int.mul_le_mul_of_nonneg_right qN qN
   have c2:g*Y≤g*2^far (q+40):=Int.mul_le_mul_of_nonneg_left hY.2 qN
   generalize (2:Int)^far (q+40)=F at *
   grind
  have:=Int.le_of_mul_le_mul_left a1 qN
  omega
 refine rQ b1 ⟨by omega,by omega⟩ ?_
 rw [show (2:Int)^124=21267647932558653966460912964485513216 by rfl]
 rcases Int.lt_trichotomy (lgS m e) 0 with hs | hs | hs
 ·right
  have e1:(kG m e (cW (q+40))).hi=(iT (lgB m e (q+40)) (cW (q+40))).hi+2^far (q+40)*lgS m e:=by
   show (iT (lgB m e (q+40)) (cW (q+40))).hi+(b8 (jO (q+40)) (lgS m e)).hi=_
   rw [hO]; unfold b8; rw [if_pos hs]
  have e2:(2:Int)^far (q+40)*lgS m e≤2^far (q+40) * -1:=Int.mul_le_mul_of_nonneg_left qN qN
  rw [e1]
  omega
 ·left
  have hm:m≠1:=fun h1=>hx ⟨h1,by subst h1; unfold lgS at hs; rw [show bH (1:Int).natAbs=1 by decide] at hs; omega⟩
  have g4:=g3 hm
  have e1:(kG m e (cW (q+40))).lo=(iT (lgB m e (q+40)) (cW (q+40))).lo+2^far (q+40)*lgS m e:=by
   show (iT (lgB m e (q+40)) (cW (q+40))).lo+(b8 (jO (q+40)) (lgS m e)).lo=_
   rw [hO]; unfold b8; rw [if_neg qN]
  rw [e1,hs,Int.mul_zero]
  omega
 ·left
  have e1:(kG m e (cW (q+40))).lo=(iT (lgB m e (q+40)) (cW (q+40))).lo+2^far (q+40)*lgS m e:=by
   show (iT (lgB m e (q+40)) (cW (q+40))).lo+(b8 (jO (q+40)) (lgS m e)).lo=_
   rw [hO]; unfold b8; rw [if_neg qN]
  have e2:(2:Int)^far (q+40)*1≤2^far (q+40)*lgS m e:=Int.mul_le_mul_of_nonneg_left qN qN
  rw [e1]
  omega
open Go.RowKit
theorem exp_first {t q:Int} (h0:0≤t) (h1:t≤2^far q) (hq:20≤q∧q≤1000):2^far q≤(rL t q (nE q)).1:=by
 have hs:=shrE h0 h1
 have nn:=hs.toNx.nonneg (f:=(1*2^far q,1*2^far q)) (fun b=>by have:=cR q; cases b <;> (show 0≤1*(2:Int)^far q; omega))
 obtain ⟨n,hn⟩:∃ n,nE q=n+1:=⟨nE q - 1,by unfold nE; omega⟩
 have key:∀ n:Nat,2^far q≤(smN (sO t q) fC (1*2^far q,1*2^far q) (n+1)).1:=fun n=>by
  induction n with
  | zero =>
   show _≤0+1*(2:Int)^far q
   omega
  | succ n ih =>
   have h2:0≤(itN (sO t q) (1*2^far q,1*2^far q) (n+1)).1:=nn (n+1) false
   show _≤(smN (sO t q) fC (1*2^far q,1*2^far q) (n+1)).1+(itN (sO t q) (1*2^far q,1*2^far q) (n+1)).1
   omega
 have e:(rL t q (nE q)).1=(smN (sO t q) fC (1*2^far q,1*2^far q) (n+1)).1:=by rw [hn]; rfl
 rw [e]; exact key n
theorem recast_lo {b:Bal} {q:Int} (hb:b.q=q+40) (hq:160≤q∧q≤900) (h:2^far (q+40)≤b.lo):2^far q≤(c9 b q).lo:=by
 have hP:(2:Int)^far (q+40)=2^far q*1099511627776:=by rw [show (q+40:Int)=q+(40:Nat) by omega,jB qN qN]; rfl
 have e0:(c9 b q).lo=b.lo/2^far (b.q - q):=jM false qN
 rw [hb,show q+40 - q=40 by omega,show (2:Int)^far 40=1099511627776 by rfl] at e0
 rw [hP] at h
 rw [e0]; omega
theorem expA_lo {m e q:Int} (h:Xp m e) (hq:160≤q∧q≤800):2^far q≤(expA m e q).lo:=by
 have hL:=iM (q:=q+40) qN qN
 have hI:=vA h hL ⟨by omega,by omega⟩
 have i1:=hI.lo0
 have i2:=hI.lh
 have i3:=hI.hi1
 have hF:=cR (q+40)
 have hq1:(gY m e (cW (q+40))).q=q+40:=by unfold gY iV; rfl
 refine recast_lo (b:=gW _) hq1 ⟨by omega,by omega⟩ ?_
 unfold gW
 rw [hq1]
 exact exp_first i1 qN ⟨by omega,by omega⟩
theorem exp2A_lo {m e q:Int} (h:Xp m e) (hq:160≤q∧q≤800):2^far q≤(exp2A m e q).lo:=by
 have hL:=iM (q:=q+40) qN qN
 have hI:=exp2_r h hL ⟨by omega,by omega⟩
 have i1:=hI.lo0
 have i2:=hI.lh
 have i3:=hI.hi1
 have hF:=cR (q+40)
 have hq1:=hI.qq
 refine recast_lo (b:=gW _) hq1 ⟨by omega,by omega⟩ ?_
 unfold gW
 rw [hq1]
 exact exp_first i1 qN ⟨by omega,by omega⟩
def BV (f m e q:Int):Bal:=if f=0 then expA m e q else if f=1 then exp2A m e q else if f=2 then logA m e q else if f=3 then log2A m e q else if f=4 then sM m e q 0 else sM m e q 1
def KV (f m e q:Int):Int:=if f=0 then mG m e (cW (q+40)) else if f=1 then e2F m e else 0
theorem six {f:Int} (h:0≤f∧f≤5):f=0∨f=1∨f=2∨f=3∨f=4∨f=5:=by omega
theorem at_all {f m e q:Int} (hf:0≤f∧f≤5) (h:Xp m e) (hq:160≤q∧q≤800) (v:Value):aY Tryz.prog 57 [.int .i64 f,v,.int .i64 q] [(v,dyD m e)] (fun r os fs=>os=[]∧∃ x,r=.tuple #[x,.int .i64 (KV f m e q),.int .i64 0]∧fs=[(x,aN (BV f m e q).lo (BV f m e q).hi (BV f m e q).q)]):=by
 rcases six hf with rfl | rfl | rfl | rfl | rfl | rfl
 ·exact at_exp h hq v
 ·exact at_exp2 h hq v
 ·exact at_log h hq v
 ·exact at_log2 h hq v
 ·exact at_sin h hq v
 ·exact at_cos h hq v
theorem sK {f m e q:Int} (hf:0≤f∧f≤5) (h:Xp m e) (hq:160≤q∧q≤800):Sml (BV f m e q) q:=by
 have hL:=iM (q:=q+40) qN qN
 have h1:(200:Int)≤q+40∧q+40≤1000:=⟨by omega,by omega⟩
 have h2:0≤q∧q≤900:=⟨by omega,by omega⟩
 rcases six hf with rfl | rfl | rfl | rfl | rfl | rfl
 ·exact (exp_sml h hL h1).recast h2
 ·exact (exp2_sml h hL h1).recast h2
 ·exact (log_sml h hL h1).recast h2
 ·exact (log2_sml h hL h1).recast h2
 ·exact (sU h (q:=q+40) ⟨by omega,by omega⟩ 0).recast h2
 ·exact (sU h (q:=q+40) ⟨by omega,by omega⟩ 1).recast h2
theorem KV_in {f m e q:Int} (h:Xp m e) (hq:160≤q∧q≤800):0≤KV f m e q∧KV f m e q≤1480:=by
 unfold KV
 split
 ·have hL:=iM (q:=q+40) qN qN
  have hI:=vA h hL ⟨by omega,by omega⟩
  exact ⟨hI.k0,hI.k1⟩
 ·split
  ·have:=exp2_in h (q:=300) qE
   omega
  ·decide
theorem BV_near {f m e q:Int} {d:Nat} (hf:0≤f∧f≤5) (h:Xp m e) (hq:160≤q) (hd:q+d≤800):BN d 302231454903657293676544 (BV f m e q) (BV f m e (q+d)):=by
 rcases six hf with rfl | rfl | rfl | rfl | rfl | rfl
 ·exact near_exp h hq hd (exp_same h hq hd)
 ·exact near_exp2 h hq hd
 ·exact near_log h hq hd
 ·exact near_log2 h hq hd
 ·exact near_wave h hq hd 0 (wave_same h hq hd)
 ·exact near_wave h hq hd 1 (wave_same h hq hd)
def isOne (f m e:Int):Prop:=(f=2∨f=3)∧m=1∧e=0
theorem BV_big {f m e q:Int} (hf:0≤f∧f≤5) (h:Xp m e) (hx:¬ isOne f m e) (hq:160≤q∧q≤800):Big (BV f m e q) (2^far q):=by
 have hF:=cR q
 rcases six hf with rfl | rfl | rfl | rfl | rfl | rfl
 ·have:=expA_lo h hq
  left
  show _≤(expA m e q).lo*2^125
  rw [show (2:Int)^125=42535295865117307932921825928971026432 by rfl]; omega
 ·have:=exp2A_lo h hq
  left
  show _≤(exp2A m e q).lo*2^125
  rw [show (2:Int)^125=42535295865117307932921825928971026432 by rfl]; omega
 ·exact log_big h (fun hc=>hx ⟨.inl rfl,hc⟩) hq
 ·exact log2_big h (fun hc=>hx ⟨.inr rfl,hc⟩) hq
 ·exact wave_big h hq 0
 ·exact wave_big h hq 1
def xm (p:Nat):Int:=dnM ((sP p:Nat):Int)
def xe (p:Nat):Int:=expo p+(kV ((sP p:Nat):Int):Nat)
theorem xp_of {p:Nat} (h1:4318952042648305664≤p) (h2:p<4652218415073722368):Xp (xm p) (xe p):=by
 have hM:4503599627370496≤sP p∧sP p<9007199254740992:=by unfold sP; omega
 have hX : -116≤expo p∧expo p ≤ -43:=by unfold expo; omega
 have hne:((sP p:Nat):Int)≠0:=by omega
 have hl:=low_shift (iL hne)
 have hd:=dvd_low hne
 have hlt:=lowP_lt hne qN qN
 have hp2:(1:Int)≤2^kV ((sP p:Nat):Int):=Int.pow_pos qE
 have hpos:0<xm p:=by
  rcases Int.lt_or_le 0 (xm p) with h | h
  ·exact h
  ·exfalso
   have:xm p*2^kV ((sP p:Nat):Int)≤0:=Int.mul_nonpos_of_nonpos_of_nonneg h qN
   unfold xm at this
   omega
 have hle:xm p≤((sP p:Nat):Int):=by
  have:=Int.mul_le_mul_of_nonneg_left hp2 (show 0≤xm p by omega)
  unfold xm at this ⊢
  omega
 have b1:=gM (xm p) hpos
 have b2:=iK (xm p) hpos
 have hb:bH (xm p).natAbs+kV ((sP p:Nat):Int)=53:=by
  have c1:=Int.mul_le_mul_of_nonneg_right b1.2 (show (0:Int)≤2^kV ((sP p:Nat):Int) by omega)
  have c2:=Int.mul_lt_mul_of_pos_right b2 (show (0:Int)<2^kV ((sP p:Nat):Int) by omega)
  rw [← Int.pow_add] at c1 c2
  have hd':xm p*2^kV ((sP p:Nat):Int)=((sP p:Nat):Int):=hd
  rw [hd'] at c1 c2
  rcases Nat.lt_trichotomy (bH (xm p).natAbs+kV ((sP p:Nat):Int)) 53 with h | h | h
  ·exfalso
   have:=bW (show bH (xm p).natAbs+kV ((sP p:Nat):Int)≤52 by omega)
   rw [show (2:Int)^52=4503599627370496 by rfl] at this
   omega
  ·exact h
  ·exfalso
   have:=bW (show 53≤bH (xm p).natAbs - 1+kV ((sP p:Nat):Int) by omega)
   rw [show (2:Int)^53=9007199254740992 by rfl] at this
   omega
 have hlg:lgS (xm p) (xe p)=expo p+52:=by unfold lgS xe; omega
 refine ⟨hpos,by omega,hl,by unfold xe; omega,?_,by omega,by omega⟩
 unfold lgS at hlg
 omega
def Off (b:Bal) (k:Nat):Prop:=2^k≤b.lo∨2^k ≤ -b.hi
theorem s8 {b:Bal} {k:Nat} (hle:b.lo≤b.hi) (h:Off b k):2^k≤(c8 b).lo∧b.lo.sign*b.hi.sign=1:=by
 have hp:(1:Int)≤2^k:=cU k
 rcases h with h | h
 ·have e:c8 b=b:=if_neg qN
  rw [e]
  exact ⟨h,by rw [Int.sign_eq_one_of_pos qN,Int.sign_eq_one_of_pos qN]; rfl⟩
 ·have e:c8 b=⟨-b.hi, -b.lo,b.q⟩:=if_pos qN
  rw [e]
  exact ⟨h,by rw [Int.sign_eq_neg_one_of_neg qN,Int.sign_eq_neg_one_of_neg qN]; rfl⟩
theorem scale_off {b:Bal} {q:Int} {k:Nat} (hs:Sml b q) (h:Off b k) (hq:0≤q∧q≤1000):fO b=((bH (c8 b).lo.natAbs:Nat) - 1 - q,true)∧k<bH (c8 b).lo.natAbs∧(bH (c8 b).lo.natAbs:Int)≤q+13:=by
 obtain ⟨h1,h2⟩:=s8 hs.le h
 have hp:(1:Int)≤2^k:=cU k
 have b1:=gM (c8 b).lo qN
 have b2:=iK (c8 b).lo qN
 refine ⟨?_,?_,?_⟩
 ·unfold fO
  rw [if_neg qN,hs.qq]
 ·rcases Nat.lt_or_ge k (bH (c8 b).lo.natAbs) with h3 | h3
  ·exact h3
  ·exfalso
   have:=bW h3
   omega
 ·have hup:(c8 b).lo≤4096*2^far q:=by
   have l1:=hs.lo
   have l2:=hs.hi
   have l3:=hs.le
   have hF:=cR q
   unfold c8
   split <;> (try show -b.hi≤_) <;> omega
  have e:4096*(2:Int)^far q=2^(far q+12):=by rw [Int.pow_add,Int.mul_comm]; rfl
  rw [e] at hup
  rcases Nat.lt_or_ge (far q+12) (bH (c8 b).lo.natAbs - 1) with h3 | h3
  ·exfalso
   have h4:(2:Int)^(far q+13)≤2^(bH (c8 b).lo.natAbs - 1):=bW qN
   have h5:(2:Int)^(far q+13)=2^(far q+12)*2:=Int.pow_succ _ _
   have h6:=cU (far q+12)
   omega
  ·unfold far at h3; omega
theorem off_of_big {b:Bal} {q:Int} (hq:160≤q∧q≤1000) (h:Big b (2^far q)):Off b (far q - 125):=by
 have e:(2:Int)^far q=2^(far q - 125)*2^125:=by rw [← Int.pow_add]; congr 1; unfold far; omega
 have h5:(0:Int)<2^125:=by decide
 unfold Big at h
 rw [e] at h
 rcases h with h | h
 ·exact .inl (Int.le_of_mul_le_mul_right h h5)
 ·exact .inr (Int.le_of_mul_le_mul_right h h5)
theorem off_more {b b':Bal} {d k:Nat} (h:BN d 302231454903657293676544 b b') (ho:Off b k) (hk:80≤k):Off b' (k - 1+d):=by
 have hA:=cU d
 have e:(2:Int)^k=2^(k - 1)*2:=by rw [← Int.pow_succ]; congr 1; omega
 have h79:(604462909807314587353088:Int)≤2^(k - 1):=by
  have:=bW (show 79≤k - 1 by omega)
  rwa [show (2:Int)^79=604462909807314587353088 by rfl] at this
 unfold Off
 rw [Int.pow_add]
 rcases ho with ho | ho
 ·left
  have n1:b.lo*2^d - b'.lo≤302231454903657293676544*2^d:=(h.nr false false).2
  rw [e] at ho
  have a1:=Int.mul_le_mul_of_nonneg_right ho (show (0:Int)≤2^d by omega)
  have a2:=Int.mul_le_mul_of_nonneg_right h79 (show (0:Int)≤2^d by omega)
  generalize (2:Int)^d=A at *
  generalize (2:Int)^(k - 1)=Z at *
  have e3:Z*2*A=2*(Z*A):=by grind
  omega
 ·right
  have n1:b'.hi - b.hi*2^d≤302231454903657293676544*2^d:=(h.nr true true).1
  rw [e] at ho
  have a1:=Int.mul_le_mul_of_nonneg_right ho (show (0:Int)≤2^d by omega)
  have a2:=Int.mul_le_mul_of_nonneg_right h79 (show (0:Int)≤2^d by omega)
  have a3 : -b.hi*2^d = -(b.hi*2^d):=Int.neg_mul _ _
  generalize (2:Int)^d=A at *
  generalize (2:Int)^(k - 1)=Z at *
  have e3:Z*2*A=2*(Z*A):=by grind
  omega
theorem off_less {b b':Bal} {d k:Nat} (h:BN d 302231454903657293676544 b b') (ho:Off b' (k+d)) (hk:80≤k):Off b (k - 1):=by
 have hA:=cU d
 have e:(2:Int)^k=2^(k - 1)*2:=by rw [← Int.pow_succ]; congr 1; omega
 have h79:(604462909807314587353088:Int)≤2^(k - 1):=by
  have:=bW (show 79≤k - 1 by omega)
  rwa [show (2:Int)^79=604462909807314587353088 by rfl] at this
 unfold Off at ho ⊢
 rw [Int.pow_add,e] at ho
 have a2:=Int.mul_le_mul_of_nonneg_right h79 (show (0:Int)≤2^d by omega)
 rcases ho with ho | ho
 ·left
  have n1:b'.lo - b.lo*2^d≤302231454903657293676544*2^d:=(h.nr false false).1
  have:2^(k - 1)*2^d≤b.lo*2^d:=by
   generalize (2:Int)^d=A at *
   generalize (2:Int)^(k - 1)=Z at *
   have e3:Z*2*A=2*(Z*A):=by grind
   omega
  exact Int.le_of_mul_le_mul_right this qN
 ·right
  have n1:b.hi*2^d - b'.hi≤302231454903657293676544*2^d:=(h.nr true true).2
  have a3 : -b.hi*2^d = -(b.hi*2^d):=Int.neg_mul _ _
  have:2^(k - 1)*2^d ≤ -b.hi*2^d:=by
   generalize (2:Int)^d=A at *
   generalize (2:Int)^(k - 1)=Z at *
   have e3:Z*2*A=2*(Z*A):=by grind
   omega
  exact Int.le_of_mul_le_mul_right this qN
def n1V (f:Int) (p:Nat):Int:=(fO (BV f (xm p) (xe p) 300)).1
def qV (f:Int) (p:Nat) (m:Int):Int:=m+160 - min (n1V f p) 0
theorem off_self {b:Bal} {k:Nat} (hle:b.lo≤b.hi) (h:Off b k):Off b (bH (c8 b).lo.natAbs - 1):=by
 have hp:(1:Int)≤2^k:=cU k
 obtain ⟨h1,_⟩:=s8 hle h
 have b1:=gM (c8 b).lo qN
 rcases h with h | h
 ·have e:c8 b=b:=if_neg qN
  left
  rw [e] at b1 ⊢
  exact b1.2
 ·have e:c8 b=⟨-b.hi, -b.lo,b.q⟩:=if_pos qN
  right
  rw [e] at b1 ⊢
  exact b1.2
structure Look1 (f:Int) (p:Nat) (m:Int):Prop where
 s1:fO (BV f (xm p) (xe p) 300)=(n1V f p,true)
 n0 : -125≤n1V f p
 n1:n1V f p≤12
 q0:m+160 - 12≤qV f p m∧161≤qV f p m
 q1:qV f p m≤413
 off:Off (BV f (xm p) (xe p) (qV f p m)) (n1V f p+qV f p m - 1).toNat
 kk:m+159≤n1V f p+qV f p m - 1
theorem look1 {f:Int} {p:Nat} {m:Int} (hf:0≤f∧f≤5) (h1:4318952042648305664≤p) (h2:p<4652218415073722368) (hm:1≤m∧m≤128) (hx:¬ isOne f (xm p) (xe p)):Look1 f p m:=by
 have hX:=xp_of h1 h2
 have hb:=off_of_big (q:=300) qE (BV_big hf hX hx (q:=300) qE)
 have hs:=sK hf hX (q:=300) qE
 obtain ⟨e1,e2,e3⟩:=scale_off hs hb qE
 have ho:=off_self hs.le hb
 have hn:n1V f p=(bH (c8 (BV f (xm p) (xe p) 300)).lo.natAbs:Nat) - 1 - 300:=by unfold n1V; rw [e1]
 have f300:far 300=300:=by decide
 rw [f300] at e2
 have hq:qV f p m=m+160 - min (n1V f p) 0:=rfl
 have hoff:Off (BV f (xm p) (xe p) (qV f p m)) (n1V f p+qV f p m - 1).toNat:=by
  rcases Int.lt_or_le (qV f p m) 300 with h3 | h3
  ·obtain ⟨d,hd⟩:∃ d:Nat,300=qV f p m+d:=⟨(300 - qV f p m).toNat,by omega⟩
   have hN:=BV_near (q:=qV f p m) (d:=d) hf hX qN qN
   rw [← hd] at hN
   have:=off_less (k:=bH (c8 (BV f (xm p) (xe p) 300)).lo.natAbs - 1 - d) hN (by
    rw [show bH (c8 (BV f (xm p) (xe p) 300)).lo.natAbs - 1 - d+d=bH (c8 (BV f (xm p) (xe p) 300)).lo.natAbs - 1 by omega]; exact ho) qN
   rwa [show bH (c8 (BV f (xm p) (xe p) 300)).lo.natAbs - 1 - d - 1=(n1V f p+qV f p m - 1).toNat by omega] at this
  ·obtain ⟨d,hd⟩:∃ d:Nat,qV f p m=300+d:=⟨(qV f p m - 300).toNat,by omega⟩
   have hN:=BV_near (q:=300) (d:=d) hf hX qE qN
   rw [← hd] at hN
   have:=off_more hN ho qN
   rwa [show bH (c8 (BV f (xm p) (xe p) 300)).lo.natAbs - 1 - 1+d=(n1V f p+qV f p m - 1).toNat by omega] at this
 exact ⟨by rw [e1,hn],by omega,by omega,by omega,by omega,hoff,by omega⟩
theorem nrV_in (s x:Int):0≤nrV s x∧nrV s x≤2^far s:=by
 have hp:=cR s
 have e:gpR s x=x%2^far s:=by
  unfold gpR
  have:=Int.mul_ediv_add_emod x (2^far s)
  have c:=Int.mul_comm (x/2^far s) (2^far s)
  omega
 have h1:=Int.emod_lt_of_pos x (show (0:Int)<2^far s by omega)
 have h2:=Int.emod_nonneg x (show (2:Int)^far s≠0 by omega)
 unfold nrV gpT
 rw [e,Int.one_mul]
 split <;> omega
theorem gpL_in (s:Int) (b:Bal):0≤gpL s b∧gpL s b≤2^far s:=by
 have hp:=cR s
 have h1:=nrV_in s (gpF s b)
 have h2:=nrV_in s (gpO s b)
 unfold gpL gpL1 gpA gpB
 split
 ·omega
 ·split <;> assumption
theorem gpM_in {s:Int} (hs:0<s∧s≤4000) (b:Bal):0≤gpM s b∧gpM s b≤2^far s:=by
 have h1:=nrV_in s (gpF s b)
 have h2:=nrV_in s (gpO s b)
 have hH:0≤gpH s∧gpH s≤2^far s:=by
  unfold gpH
  have a1:=cR (s - 1)
  have a2:(2:Int)^far (s - 1)≤2^far s:=bW (by unfold far; omega)
  omega
 unfold gpM gpM1 gpA gpB
 split
 ·exact hH
 ·split <;> assumption
def lookV (f:Int) (p:Nat) (m:Int):Lk7:=if (fO (BV f (xm p) (xe p) 300)).2 then lkB (BV f (xm p) (xe p) (qV f p m)) (KV f (xm p) (xe p) (qV f p m)) (qV f p m) m else lkA (BV f (xm p) (xe p) 300) (KV f (xm p) (xe p) 300)
def LV (f:Int) (p:Nat) (m:Int):Lk7:=if 0≤f∧f≤5∧4318952042648305664≤p∧p<4652218415073722368∧1≤m∧m≤128 then lookV f p m else pS
theorem one_scale:fO (BV 2 1 0 300)=(0,false)∧fO (BV 3 1 0 300)=(0,false):=⟨by kernel_rfl,by kernel_rfl⟩
theorem hard_W:(LV 1 (pat 1 0) 9).h=true:=by kernel_rfl
theorem may_W:(LV 1 (pat 1 0) 9).e=2:=by kernel_rfl
theorem oD {f:Int} {p:Nat} {m:Int} (hf:0≤f∧f≤5) (h1:4318952042648305664≤p) (h2:p<4652218415073722368) (hm:1≤m∧m≤128) :
  (fO (BV f (xm p) (xe p) 300)=(0,false)∧LV f p m=lkA (BV f (xm p) (xe p) 300) (KV f (xm p) (xe p) 300))∨(Look1 f p m∧LV f p m=lkB (BV f (xm p) (xe p) (qV f p m)) (KV f (xm p) (xe p) (qV f p m)) (qV f p m) m):=by
 have e:LV f p m=lookV f p m:=if_pos ⟨hf.1,hf.2,h1,h2,hm.1,hm.2⟩
 rw [e]
 rcases Classical.em (isOne f (xm p) (xe p)) with hx | hx
 ·left
  obtain ⟨h3,h4,h5⟩:=hx
  have hs:fO (BV f (xm p) (xe p) 300)=(0,false):=by
   rw [h4,h5]
   rcases h3 with rfl | rfl
   ·exact one_scale.1
   ·exact one_scale.2
  refine ⟨hs,?_⟩
  unfold lookV
  rw [hs]
  rfl
 ·right
  have h3:=look1 hf h1 h2 hm hx
  refine ⟨h3,?_⟩
  unfold lookV
  rw [h3.s1]
  rfl
structure Look2 (f:Int) (p:Nat) (m:Int):Prop where
 sc:fO (BV f (xm p) (xe p) (qV f p m))=((bH (c8 (BV f (xm p) (xe p) (qV f p m))).lo.natAbs:Nat) - 1 - qV f p m,true)
 lo:m+160≤(bH (c8 (BV f (xm p) (xe p) (qV f p m))).lo.natAbs:Nat)
 hi:((bH (c8 (BV f (xm p) (xe p) (qV f p m))).lo.natAbs:Nat):Int)≤qV f p m+13
theorem look2 {f:Int} {p:Nat} {m:Int} (hf:0≤f∧f≤5) (h1:4318952042648305664≤p) (h2:p<4652218415073722368) (h:Look1 f p m):Look2 f p m:=by
 have q0:=h.q0
 have q1:=h.q1
 have hs:=sK hf (xp_of h1 h2) (q:=qV f p m) ⟨by omega,by omega⟩
 obtain ⟨e1,e2,e3⟩:=scale_off hs h.off ⟨by omega,by omega⟩
 have hk:=h.kk
 exact ⟨e1,by omega,e3⟩
theorem lookRun (f:Int) (p:Nat) (m:Int) (hf:0≤f∧f≤5) (h1:4318952042648305664≤p) (h2:p<4652218415073722368) (hm:1≤m∧m≤128) :
  aY Tryz.prog 30 [.int .i64 f,.int .u64 (p:Nat),.int .i64 m] [] (fun r os fs=>os=[]∧∃ x,r=.tuple #[x,.int .i64 0]∧fs=[(x,fY (LV f p m))]):=by
 have hX:=xp_of h1 h2
 have hM:4503599627370496≤sP p∧sP p<9007199254740992:=by unfold sP; omega
 have hE:expo p ≤ -43:=by unfold expo; omega
 have hne:((sP p:Nat):Int)≠0:=by omega
 have hlt:=lowP_lt hne qN qN
 have hs3:=(sK hf hX (q:=300) qE).ok qE
 rcases oD hf h1 h2 hm with ⟨hs,e⟩ | ⟨hL,e⟩
 ·rw [e]
  exact pLookA p qN qN (sP p) rfl (expo p) rfl (kV ((sP p:Nat):Int)) (iL hne) qN qN f m hm _ _ 17 hs3 qE (fun u=>at_all hf hX qE u) hs
 ·have hL2:=look2 hf h1 h2 hL
  have q0:=hL.q0
  have q1:=hL.q1
  have l1:=hL2.lo
  have l2:=hL2.hi
  have hk:=KV_in (f:=f) (q:=qV f p m) hX ⟨by omega,by omega⟩
  have hs4:=(sK hf hX (q:=qV f p m) ⟨by omega,by omega⟩).ok ⟨by omega,by omega⟩
  have n0:=hL.n0
  have n1:=hL.n1
  rw [e]
  exact pLookB p qN qN (sP p) rfl (expo p) rfl (kV ((sP p:Nat):Int)) (iL hne) qN qN f m hm _ _ 17 hs3 qE (fun u=>at_all hf hX qE u) (n1V f p) hL.s1 ⟨by omega,by omega⟩ _ _ (qV f p m) _ hs4 rfl rfl ⟨by omega,by omega⟩ (by rw [hL2.sc]; simp only; exact ⟨by omega,by omega⟩) (fun u=>at_all hf hX ⟨by omega,by omega⟩ u)
structure LkAll (x:Lk7):Prop where
 ok:x.b.ok 17
 kk:0≤x.k∧x.k≤1480
 ss:0≤x.s∧x.s≤400
 qq:0≤x.b.q∧x.b.q≤413
 ll:0≤x.l∧x.l≤2^x.s.toNat
 mm:0≤x.m∧x.m≤2^x.s.toNat
theorem lkAll (f:Int) (p:Nat) (m:Int):LkAll (LV f p m):=by
 by_cases h:0≤f∧f≤5∧4318952042648305664≤p∧p<4652218415073722368∧1≤m∧m≤128
 ·have hf:0≤f∧f≤5:=⟨h.1,h.2.1⟩
  have h1:=h.2.2.1
  have h2:=h.2.2.2.1
  have hm:1≤m∧m≤128:=h.2.2.2.2
  have hX:=xp_of h1 h2
  rcases oD hf h1 h2 hm with ⟨hs,e⟩ | ⟨hL,e⟩
  ·rw [e]
   have hb:=sK hf hX (q:=300) qE
   exact ⟨hb.ok qE,KV_in hX qE,(by decide:(0:Int)≤0∧(0:Int)≤400),by show 0≤(BV f (xm p) (xe p) 300).q∧(BV f (xm p) (xe p) 300).q≤413; rw [hb.qq]; decide,(by decide:(0:Int)≤0∧(0:Int)≤2^(0:Int).toNat),(by decide:(0:Int)≤0∧(0:Int)≤2^(0:Int).toNat)⟩
  ·have hL2:=look2 hf h1 h2 hL
   have q0:=hL.q0
   have q1:=hL.q1
   have l1:=hL2.lo
   have l2:=hL2.hi
   have hb:=sK hf hX (q:=qV f p m) ⟨by omega,by omega⟩
   have hs:(lkB (BV f (xm p) (xe p) (qV f p m)) (KV f (xm p) (xe p) (qV f p m)) (qV f p m) m).s=(bH (c8 (BV f (xm p) (xe p) (qV f p m))).lo.natAbs:Nat) - 54:=by
    show qV f p m - 53+(fO _).1=_
    rw [hL2.sc]; simp only; omega
   have hS:0<(lkB (BV f (xm p) (xe p) (qV f p m)) (KV f (xm p) (xe p) (qV f p m)) (qV f p m) m).s∧(lkB (BV f (xm p) (xe p) (qV f p m)) (KV f (xm p) (xe p) (qV f p m)) (qV f p m) m).s≤400:=by rw [hs]; omega
   have hfar:far (lkB (BV f (xm p) (xe p) (qV f p m)) (KV f (xm p) (xe p) (qV f p m)) (qV f p m) m).s=(lkB (BV f (xm p) (xe p) (qV f p m)) (KV f (xm p) (xe p) (qV f p m)) (qV f p m) m).s.toNat:=by unfold far; omega
   rw [e]
   refine ⟨hb.ok ⟨by omega,by omega⟩,KV_in hX ⟨by omega,by omega⟩,⟨by omega,hS.2⟩,by show 0≤(BV f (xm p) (xe p) (qV f p m)).q∧(BV f (xm p) (xe p) (qV f p m)).q≤413; rw [hb.qq]; omega,?_,?_⟩
   ·rw [← hfar]; exact gpL_in _ _
   ·rw [← hfar]; exact gpM_in ⟨hS.1,by omega⟩ _
 ·have e:LV f p m=pS:=if_neg h
  rw [e]
  exact ⟨⟨Int.le_refl _,by decide,by decide,iG _,iG _⟩,by decide,by decide,by decide,by decide,by decide⟩
theorem two_sz {x s:Int} (hs:0≤s∧s≤400) (h:0≤x∧x≤2^s.toNat):sz x 60:=sz_pw (n:=s.toNat) h.2 (by have:=cU s.toNat; omega) qN
theorem lookOk:mP LV:=⟨fun f p m hf h1 h2 hm=>lookRun f p m hf h1 h2 hm,fun f p m=>(lkAll f p m).ok.mono qE,fun f p m=>by have:=(lkAll f p m).kk; omega,fun f p m=>by have:=(lkAll f p m).ss; omega,fun f p m=>two_sz (lkAll f p m).ss (lkAll f p m).ll,fun f p m=>two_sz (lkAll f p m).ss (lkAll f p m).mm⟩
theorem bitlen_sz {x:Int} (h:sz x 17):bH x.natAbs≤4096:=by
 unfold sz at h
 have h2:(18446744073709551616:Nat)^17=2^1088:=by
  rw [show (18446744073709551616:Nat)=2^64 by rfl,← Nat.pow_mul,show 64*17=1088 by rfl]
 rw [h2] at h
 unfold bH
 split
 ·omega
 ·rename_i h0
  have:=(Nat.log2_lt h0).2 h
  omega
theorem lookC:LookC LV:=⟨lookOk,fun f p m _ _ _ _ _=>by
 have h:=lkAll f p m
 have hs:=h.ss
 have abs:∀ x:Int,0≤x→x≤2^(LV f p m).s.toNat→x.natAbs≤2^((LV f p m).s.toNat+64):=fun x h0 h1=>by
  have e:((2^(LV f p m).s.toNat:Nat):Int)=(2:Int)^(LV f p m).s.toNat:=by simp
  have e2:(2:Nat)^(LV f p m).s.toNat≤2^((LV f p m).s.toNat+64):=Nat.pow_le_pow_right qE qN
  omega
 have hk:=h.kk
 have hq:=h.qq
 exact ⟨⟨two_sz h.ss h.ll,two_sz h.ss h.mm,by omega,abs _ h.ll.1 h.ll.2,abs _ h.mm.1 h.mm.2⟩,⟨by omega,by omega,h.ok.slo.mono qE,h.ok.shi.mono qE,bitlen_sz h.ok.slo,bitlen_sz h.ok.shi⟩⟩⟩
theorem lookW:LookW LV:=⟨lookC,hard_W,by rw [may_W]; decide⟩
def Gr (x P B:Int):Prop:=∃ j:Int,x - j*P<B∧j*P - x<B
theorem gpR_mod (s x:Int):gpR s x=x%2^far s:=by
 unfold gpR
 have:=Int.mul_ediv_add_emod x (2^far s)
 have c:=Int.mul_comm (x/2^far s) (2^far s)
 omega
theorem nrV_gr (s x:Int) {B:Int} (h:nrV s x<B):Gr x (2^far s) B:=by
 have hp:=cR s
 have d:=Int.mul_ediv_add_emod x (2^far s)
 have c:=Int.mul_comm (x/2^far s) (2^far s)
 have h1:=Int.emod_lt_of_pos x (show (0:Int)<2^far s by omega)
 have h2:=Int.emod_nonneg x (show (2:Int)^far s≠0 by omega)
 unfold nrV gpT at h
 rw [gpR_mod,Int.one_mul] at h
 split at h
 ·refine ⟨x/2^far s+1,?_,?_⟩ <;> rw [Int.add_mul,Int.one_mul] <;> omega
 ·exact ⟨x/2^far s,by omega,by omega⟩
theorem gr_nrV (s x:Int) {B:Int} (h:Gr x (2^far s) B):nrV s x<B:=by
 obtain ⟨j,h3,h4⟩:=h
 have hp:=cR s
 have d:=Int.mul_ediv_add_emod x (2^far s)
 have c:=Int.mul_comm (x/2^far s) (2^far s)
 have h1:=Int.emod_lt_of_pos x (show (0:Int)<2^far s by omega)
 have h2:=Int.emod_nonneg x (show (2:Int)^far s≠0 by omega)
 unfold nrV gpT
 rw [gpR_mod,Int.one_mul]
 generalize x/2^far s=k at *
 rcases Int.lt_or_le k j with h5 | h5
 ·have:(k+1)*2^far s≤j*2^far s:=Int.mul_le_mul_of_nonneg_right qN qN
  rw [Int.add_mul,Int.one_mul] at this
  split <;> omega
 ·have:j*2^far s≤k*2^far s:=Int.mul_le_mul_of_nonneg_right h5 qN
  split <;> omega
theorem Gr.shift {x P B:Int} (k:Int) (h:Gr (x - k*P) P B):Gr x P B:=by
 obtain ⟨j,h1,h2⟩:=h
 refine ⟨j+k,?_,?_⟩ <;> rw [Int.add_mul] <;> omega
theorem Gr.shift' {x P B:Int} (k:Int) (h:Gr x P B):Gr (x - k*P) P B:=by
 obtain ⟨j,h1,h2⟩:=h
 refine ⟨j - k,?_,?_⟩ <;> rw [Int.sub_mul] <;> omega
theorem gap_gr {s:Int} {b:Bal} {B W:Int} (hB:0<B) (hw:b.hi - b.lo≤W) (hle:b.lo≤b.hi) (h:gpL s b<B):Gr b.lo (2^far s) (B+W):=by
 have hp:=cR s
 have d:=Int.mul_ediv_add_emod b.lo (2^far s)
 have c:=Int.mul_comm (b.lo/2^far s) (2^far s)
 have h1:=Int.emod_lt_of_pos b.lo (show (0:Int)<2^far s by omega)
 unfold gpL gpL1 at h
 split at h
 ·rename_i hc
  rcases hc with hc | hc
  ·refine ⟨b.lo/2^far s,?_,?_⟩ <;> (unfold gpF gpW at hc; omega)
  ·refine ⟨b.lo/2^far s+1,?_,?_⟩ <;> rw [Int.add_mul,Int.one_mul] <;> (unfold gpO gpT gpW at hc; omega)
 ·split at h
  ·obtain ⟨j,g1,g2⟩:=(show Gr (b.hi - b.lo/2^far s*2^far s) (2^far s) B from nrV_gr s _ h).shift (b.lo/2^far s)
   exact ⟨j,by omega,by omega⟩
  ·obtain ⟨j,g1,g2⟩:=(show Gr (b.lo - b.lo/2^far s*2^far s) (2^far s) B from nrV_gr s _ h).shift (b.lo/2^far s)
   exact ⟨j,by omega,by omega⟩
theorem gr_gap {s:Int} {b:Bal} {B:Int} (hB:0<B) (h:Gr b.lo (2^far s) B):gpL s b<B:=by
 have h2:=gr_nrV s _ (h.shift' (b.lo/2^far s))
 have h3:nrV s (gpF s b)<B:=h2
 unfold gpL gpL1 gpA gpB
 split
 ·exact hB
 ·split <;> omega
theorem gr_less {X X':Int} {d bl bl':Nat} {R R':Int} (h54:54≤bl) (hn:Nr (2^d) 302231454903657293676544 X X') (hx:2^(bl - 1)≤X∧X<2^bl) (hx':2^(bl' - 1)≤X'∧X'<2^bl') (hR:604462909807314587353088+2*R'≤2*R) (hR1:302231454903657293676544<R)
  (hg:bl'=bl+d→Gr X' (2^(bl' - 54)) (R'*2^d)):Gr X (2^(bl - 54)) R:=by
 have hA:=cU d
 obtain ⟨n1,n2⟩:=hn
 rcases Nat.lt_trichotomy bl' (bl+d) with h | h | h
 ·refine ⟨2^53,?_,?_⟩
  ·have e:(2:Int)^53*2^(bl - 54)=2^(bl - 1):=by rw [← Int.pow_add]; congr 1; omega
   rw [e]
   have h1:(2:Int)^bl'≤2^(bl - 1)*2^d:=by rw [← Int.pow_add]; exact bW qN
   have h2:(X - 2^(bl - 1))*2^d≤302231454903657293676544*2^d:=by rw [Int.sub_mul]; omega
   have:=Int.le_of_mul_le_mul_right h2 qN
   omega
  ·have e:(2:Int)^53*2^(bl - 54)=2^(bl - 1):=by rw [← Int.pow_add]; congr 1; omega
   rw [e]; omega
 ·obtain ⟨j,g1,g2⟩:=hg h
  have e:(2:Int)^(bl' - 54)=2^(bl - 54)*2^d:=by rw [← Int.pow_add]; congr 1; omega
  rw [e,← Int.mul_assoc] at g1 g2
  refine ⟨j,?_,?_⟩
  ·have h2:(X - j*2^(bl - 54))*2^d<(302231454903657293676544+R')*2^d:=by rw [Int.sub_mul,Int.add_mul]; omega
   have:=Int.lt_of_mul_lt_mul_right h2 qN
   omega
  ·have h2:(j*2^(bl - 54) - X)*2^d<(302231454903657293676544+R')*2^d:=by rw [Int.sub_mul,Int.add_mul]; omega
   have:=Int.lt_of_mul_lt_mul_right h2 qN
   omega
 ·refine ⟨2^54,?_,?_⟩
  ·have e:(2:Int)^54*2^(bl - 54)=2^bl:=by rw [← Int.pow_add]; congr 1; omega
   rw [e]; omega
  ·have e:(2:Int)^54*2^(bl - 54)=2^bl:=by rw [← Int.pow_add]; congr 1; omega
   rw [e]
   have h1:(2:Int)^bl*2^d≤2^(bl' - 1):=by rw [← Int.pow_add]; exact bW qN
   have h2:(2^bl - X)*2^d≤302231454903657293676544*2^d:=by rw [Int.sub_mul]; omega
   have:=Int.le_of_mul_le_mul_right h2 qN
   omega
theorem near_plus {b b':Bal} {d k:Nat} (h:BN d 302231454903657293676544 b b') (h0:BN 0 302231454903657293676544 b' b') (hle:b.lo≤b.hi) (hle':b'.lo≤b'.hi) (ho:Off b k) (hk:80≤k) :
  Nr (2^d) 302231454903657293676544 (c8 b).lo (c8 b').lo∧(c8 b').hi - (c8 b').lo≤302231454903657293676544∧(c8 b').lo≤(c8 b').hi:=by
 have hA:=cU d
 have w:b'.hi - b'.lo*1≤302231454903657293676544*1:=(h0.nr false true).1
 have h80:(1208925819614629174706176:Int)≤2^k:=by
  have:=bW hk
  rwa [show (2:Int)^80=1208925819614629174706176 by rfl] at this
 rcases ho with ho | ho
 ·have n1:=h.nr false false
  have n2:b.lo*2^d - b'.lo≤302231454903657293676544*2^d:=n1.2
  have n3:=Int.mul_le_mul_of_nonneg_right (show (1208925819614629174706176:Int)≤b.lo by omega) (show (0:Int)≤2^d by omega)
  have e1:c8 b=b:=if_neg qN
  have e2:c8 b'=b':=if_neg qN
  rw [e1,e2]
  exact ⟨n1,by omega,hle'⟩
 ·have n1:=h.nr true true
  have n2:b'.hi - b.hi*2^d≤302231454903657293676544*2^d:=n1.1
  have n3:=Int.mul_le_mul_of_nonneg_right (show b.hi≤(-1208925819614629174706176:Int) by omega) (show (0:Int)≤2^d by omega)
  have e1:c8 b=⟨-b.hi, -b.lo,b.q⟩:=if_pos qN
  have e2:c8 b'=⟨-b'.hi, -b'.lo,b'.q⟩:=if_pos qN
  rw [e1,e2]
  exact ⟨n1.neg,by show -b'.lo - -b'.hi≤_; omega,by show -b'.hi ≤ -b'.lo; omega⟩
theorem bitlen_le_of {x:Int} {t:Nat} (h0:0≤x) (h:x<2^t):bH x.natAbs≤t:=by
 rcases Int.lt_or_eq_of_le h0 with h1 | h1
 ·obtain ⟨b1,b2⟩:=gM x h1
  rcases Nat.lt_or_ge t (bH x.natAbs) with h2 | h2
  ·exfalso
   have:=bW (show t≤bH x.natAbs - 1 by omega)
   omega
  ·exact h2
 ·subst h1; exact Nat.zero_le _
theorem lt_of_bitlen {x:Int} {t:Nat} (h0:0≤x) (h:bH x.natAbs≤t):x<2^t:=by
 have:=cU t
 rcases Int.lt_or_eq_of_le h0 with h1 | h1
 ·have b2:=iK x h1
  have:=bW h
  omega
 ·omega
theorem hard_less {b b':Bal} {d bl bl' t r:Nat} (hbl:bl=bH (c8 b).lo.natAbs) (hbl':bl'=bH (c8 b').lo.natAbs) (hx:0<(c8 b).lo) (hx':0<(c8 b').lo)
  (hn:Nr (2^d) 302231454903657293676544 (c8 b).lo (c8 b').lo) (hw:(c8 b').hi - (c8 b').lo≤302231454903657293676544) (hle:(c8 b').lo≤(c8 b').hi)
  (h54:54≤bl) (h54':54≤bl') (hi':bl'≤4000) (hi:bl≤4000) (ht:106≤t) (hr:r+1≤t) (h:bl'=bl+d→gpL (bl' - 54:Nat) (c8 b')<2^(r+d)):gpL (bl - 54:Nat) (c8 b)<2^t:=by
 have c1:=gM _ hx
 have c2:=iK _ hx
 have c3:=gM _ hx'
 have c4:=iK _ hx'
 rw [← hbl] at c1 c2
 rw [← hbl'] at c3 c4
 have f1:far ((bl - 54:Nat):Int)=bl - 54:=by unfold far; omega
 have f2:far ((bl' - 54:Nat):Int)=bl' - 54:=by unfold far; omega
 have hT:=cU t
 have hR:=cU r
 have hA:=cU d
 have t106:(2417851639229258349412352:Int)≤2^(t - 1):=by
  have:=bW (show 81≤t - 1 by omega)
  rwa [show (2:Int)^81=2417851639229258349412352 by rfl] at this
 have tr:=bW (show r≤t - 1 by omega)
 have te:(2:Int)^t=2^(t - 1)*2:=by rw [← Int.pow_succ]; congr 1; omega
 refine gr_gap qN ?_
 rw [f1]
 refine gr_less (R':=2^r+302231454903657293676544) h54 hn ⟨c1.2,c2⟩ ⟨c3.2,c4⟩ qN qN fun e=>?_
 have h2:=gap_gr (by have:=cU (r+d); omega) hw hle (h e)
 rw [f2] at h2
 obtain ⟨j,g1,g2⟩:=h2
 have e2:(2^r+302231454903657293676544)*(2:Int)^d=2^(r+d)+302231454903657293676544*2^d:=by rw [Int.add_mul,Int.pow_add]
 exact ⟨j,by omega,by omega⟩
theorem lookF:LookF LV:=⟨lookW,fun f p m n hf h1 h2 hm hmn hn hh=>by
 rcases Int.lt_or_eq_of_le hmn with hlt | heq
 rotate_left
 ·rw [heq]; exact hh
 rcases oD hf h1 h2 (m:=m) ⟨hm,by omega⟩ with ⟨hs,e⟩ | ⟨hL,e⟩
 ·rw [e]; rfl
 rcases oD hf h1 h2 (m:=n) ⟨by omega,hn⟩ with ⟨hs,e'⟩ | ⟨hL',e'⟩
 ·have:=hL.s1
  rw [hs] at this
  exact Bool.noConfusion (show false=true from congrArg Prod.snd this)
 have hX:=xp_of h1 h2
 have hL2:=look2 hf h1 h2 hL
 have hL2':=look2 hf h1 h2 hL'
 have q0:=hL.q0
 have q1:=hL.q1
 have q1':=hL'.q1
 have kk:=hL.kk
 have hq:qV f p n=qV f p m+((n - m).toNat:Nat):=by unfold qV; omega
 have hN:=BV_near (q:=qV f p m) (d:=(n - m).toNat) hf hX qN qN
 have hN0:=BV_near (q:=qV f p n) (d:=0) hf hX qN qN
 rw [← hq] at hN
 rw [show qV f p n+(0:Nat)=qV f p n by omega] at hN0
 have s1:=sK hf hX (q:=qV f p m) ⟨by omega,by omega⟩
 have s2:=sK hf hX (q:=qV f p n) ⟨by omega,by omega⟩
 have l1:=hL2.lo
 have l2:=hL2.hi
 have l1':=hL2'.lo
 have l2':=hL2'.hi
 have c1:=hL2.sc
 have c2:=hL2'.sc
 obtain ⟨n1,n2,n3⟩:=near_plus hN hN0 s1.le s2.le hL.off qN
 obtain ⟨p1,_⟩:=s8 s1.le hL.off
 obtain ⟨p1',_⟩:=s8 s2.le hL'.off
 have p2:=cU (n1V f p+qV f p m - 1).toNat
 have p2':=cU (n1V f p+qV f p n - 1).toNat
 rw [e'] at hh
 rw [e]
 generalize hb:BV f (xm p) (xe p) (qV f p m)=b at *
 generalize hb':BV f (xm p) (xe p) (qV f p n)=b' at *
 have hh':((bH (gpL (qV f p n - 53+(fO b').1) (c8 b')).natAbs:Nat):Int)≤qV f p n - 53+(fO b').1 - n:=of_decide_eq_true hh
 refine decide_eq_true (p:=((bH (gpL (qV f p m - 53+(fO b).1) (c8 b)).natAbs:Nat):Int)≤qV f p m - 53+(fO b).1 - m) ?_
 rw [c2] at hh'
 rw [c1]
 simp only at hh' ⊢
 generalize hbl:bH (c8 b).lo.natAbs=bl at *
 generalize hbl':bH (c8 b').lo.natAbs=bl' at *
 rw [show qV f p n - 53+((bl':Int) - 1 - qV f p n)=((bl' - 54:Nat):Int) by omega] at hh'
 rw [show qV f p m - 53+((bl:Int) - 1 - qV f p m)=((bl - 54:Nat):Int) by omega]
 have hg:=hard_less (t:=(((bl - 54:Nat):Int) - m).toNat) (r:=(((bl - 54:Nat):Int) - n).toNat) hbl.symm hbl'.symm qN qN n1 n2 n3 qN qN qN qN qN qN fun e=>lt_of_bitlen (gpL_in _ _).1 qN
 have:=bitlen_le_of (gpL_in _ _).1 hg
 omega⟩
theorem topFiner_meets (v:Value) (z:Int) (j0:Jb) (h0:j0.in64) (_ : -9223372036854775808≤z∧z<9223372036854775808):aY Tryz.prog 4 [v,.int .i64 z] [(v,cO j0)] (fun r os fs=>os=[]∧fs=[]∧r=.bool true):=tFiner lookF v j0 z h0
open Go.ChangeShapes Go.WideShapes Go.ChangeAt Go.RowKit
open Go.Joins (open_agg2)
set_option maxRecDepth 100000 in
theorem tW (os:Os) (started:os.Started) (H:Type) (enc:TypeId×Value→H) :
  ReturnsInHanded {} Tryz.checked os 4 .any (Rows.topFinerSpec.pre6 enc Tryz.prog Tryz.f4 Rows.topFinerRow.domain false) (Rows.topFinerSpec.post enc Tryz.prog Tryz.f4 false true false false):=by
 refine returnsInHanded_of_change (C:=Tryz.checked) own0 started qK Tryz.func4
  (ChangeSpec.witness6 (enc:=enc) (C:=Tryz.checked) false ⟨#[], #[.agg #[.int .i64 0,.int .i64 0,.int .u64 0,.int .u64 0,.int .i64 0],.int .i64 0],[]⟩ 8 qK qK qK qK) ?_
 intro Wd base args ds gs before hval0 hW hcnd _
 have hval:∀ (j:Nat) t v,Tryz.f4.params[j]? = some t→args[j]? = some v→Value.okWide Tryz.prog Wd .any base t v:=hval0
 have hW':=hW
 obtain ⟨p,q,hA0,hV,rfl,hfz,hnd⟩:=hW
 have hA:DataW.TrodAll enc Tryz.prog Wd 0 (fun _=>true) true Tryz.f4.params.toList args.toList ds p:=hA0
 rw [Tryz.params4] at hA hval
 obtain ⟨v0,vs0,d0,ds0,p0,q0,hargs,rfl,rfl,h0,r0⟩:=trodAll_cons hA
 obtain ⟨v1,vs1,d1,ds1,p1,q1,rfl,rfl,rfl,h1,r1⟩:=trodAll_cons r0
 obtain ⟨rfl,rfl,rfl⟩:=trodAll_nil r1
 obtain rfl:args = #[v0,v1]:=by cases args; simp_all
 obtain ⟨rfl,rfl⟩:=trodVars_none hV
 have k0:=h0
 have lt0:∀ x∈p0,x.block<Wd.heap.size:=by obtain ⟨m,hm⟩:=k0; exact DataW.trod_lt m _ _ _ hm
 obtain ⟨m0,lm0,rd0⟩:=rd_job (hval 0 24 v0 rfl rfl) h0
 obtain ⟨x1,rfl,rfl,rfl,w1⟩:=open_int Tryz.underlying3 (hval 1 3 v1 rfl rfl) h1
 clear hA0 hval0
 refine (calls_of_meets (w:=Wd) (topFiner_meets v0 x1 m0 lm0 (i64_of w1)) ?_).mono fun e W2 ⟨he,bel⟩=>?_
 ·intro F hF
  simp only [List.mem_cons,List.not_mem_nil,or_false] at hF
  subst hF; exact rd0
 subst he
 exact ⟨_,rfl,_,_,_,[],_,[],hW',trodAll_mk1 (shut_bool Tryz.underlying4 _),(trodAll_cons_mk (Below.trod laid0 qK (of_decide_eq_true qK) k0 bel lt0) (trodAll_cons_mk (shut_int Tryz.underlying3 w1) trodAll_mk0)),rfl,bel.frame _,fun h=>by cases h⟩
theorem topFiner_holds:Rows.TopFinerSaid :=
 OpenClaim.holds_of_wide 4 Tryz.f4 rfl rfl rfl rfl rfl rfl rfl ⟨rfl,rfl,rfl,rfl,rfl⟩ rfl rfl rfl rfl rfl qK Tryz.func4 qK
  (of_decide_eq_true qK) (by unfold Func.isWrapper; first | (rw [if_pos (by decide +kernel)]; kernel_rfl) | (rw [if_neg (by decide +kernel)]; exact ⟨rfl,rfl⟩))
  (fun os started H enc _=>tW os started H enc)
#print axioms topFiner_holds
end Go.Proofs.YtpbhjlljgbjjlaaGreat
