/- Towards the statement, part 2 of 6: contracts of functions, and what they rest on. Conditions: each theorem names its own. -/
import Derived.Test.YtjebljkoiaojaaaGreatM1
set_option linter.unusedVariables false
set_option linter.unusedSimpArgs false
namespace Go.Proofs.YtjebljkoiaojaaaGreat
open Go.RowKit
theorem p4 {P:Program} {t:TypeId} {x y:Operand} {k':IntKind} {z s:Int} (a n:Nat) {os:List Own} {fs:List bD} {K:bZ} (hz:z=(a:Int)) (hs:s=(n:Int)) (hn:n≤64)
  (h1:K (.int .u64 ((a*2^n%18446744073709551616:Nat):Int)) os fs):BinK P .shl t x y (.int .u64 z) (.int k' s) os fs K:=by
 subst hs hz
 refine ⟨eL _ (fun w=>?_) h1⟩
 have h0:¬ ((n:Int)<0):=by omega
 have hb:min n IntKind.u64.bits=n:=Nat.min_eq_left hn
 have h2:IntKind.u64.wrap ((a:Int)*2^n)=((a*2^n%18446744073709551616:Nat):Int):=by
  have:(a:Int)*2^n=((a*2^n:Nat):Int):=by simp
  rw [this]
  generalize a*2^n=q
  simp [IntKind.wrap,IntKind.bits,IntKind.signed]
 simp [eqGuard,binOp,Op.shift,h0,hb,h2]
theorem or_rule {P:Program} {t:TypeId} {x y:Operand} {z u:Int} (a b:Nat) {os:List Own} {fs:List bD} {K:bZ} (hz:z=(a:Int)) (hu:u=(b:Int)) (ha:a<18446744073709551616) (hb:b<18446744073709551616)
  (h1:K (.int .u64 ((a ||| b:Nat):Int)) os fs):BinK P .or t x y (.int .u64 z) (.int .u64 u) os fs K:=by
 subst hz hu
 refine ⟨eL _ (fun w=>?_) h1⟩
 have hlt:a ||| b<2^64:=Nat.or_lt_two_pow ha hb
 have hb':(BitVec.ofInt 64 (a:Int) ||| BitVec.ofInt 64 (b:Int)).toNat=a ||| b:=by
  rw [BitVec.toNat_or]
  have e1:(BitVec.ofInt 64 (a:Int)).toNat=a:=by rw [BitVec.toNat_ofInt]; omega
  have e2:(BitVec.ofInt 64 (b:Int)).toNat=b:=by rw [BitVec.toNat_ofInt]; omega
  rw [e1,e2]
 have hd:∀ X Y:BitVec 64,(X ||| Y).toNat=a ||| b→IntKind.u64.wrap ((X ||| Y).toNat:Int)=((a ||| b:Nat):Int):=fun X Y h=>by
  rw [h]; exact cJ ⟨Int.natCast_nonneg _,by omega⟩
 simp only [eqGuard,binOp,Op.intBits,Sem.run_bind,Sem.run_pure,Result.andThen_ok,IntKind.bits,ne_eq,not_true,if_false]
 exact congrArg (fun n=>Result.ok (Value.int .u64 n) w) (hd _ _ hb')
theorem nQ {s:Nat} (h:s≤64):2^s*2^(64 - s)=18446744073709551616:=by
 rw [← Nat.pow_add,show s+(64 - s)=64 by omega]
theorem shl_low {x s:Nat} (h:s≤64):x*2^s%18446744073709551616=2^s*(x%2^(64 - s)):=by
 rw [← nQ h,Nat.mul_comm x,Nat.mul_mod_mul_left]
theorem shl_high {x s:Nat} (h:s≤64):x*2^s/18446744073709551616=x/2^(64 - s):=by
 rw [← nQ h,Nat.mul_comm x,Nat.mul_div_mul_left _ _ (Nat.pow_pos qE)]
def far (n:Int):Nat:=(max 0 (min n 8192)).toNat
theorem shl_or {o x s:Nat} (hs:s≤64) (ho:o<2^s):o ||| (x*2^s%18446744073709551616)=o+x*2^s%18446744073709551616:=by
 rw [shl_low hs,Nat.or_comm,← Nat.two_pow_add_eq_or_of_lt ho,Nat.add_comm]
theorem shl_lt {x s:Nat} (hs:s<64) (hx:x<18446744073709551616):x/2^(64 - s)<2^s:=by
 rw [Nat.div_lt_iff_lt_mul (Nat.pow_pos qE),nQ qN]; exact hx
theorem shl_eq {N P q D o s1 n1 n2:Nat} (h1:n1+P*o=N+P*(o+q%18446744073709551616)) (h2:n2+P*18446744073709551616*0=n1+P*18446744073709551616*s1) (hs:s1=q/18446744073709551616) (hD:D=P*q) :
  n2=N+D:=by
 have:=Nat.mod_add_div q 18446744073709551616
 subst hs hD
 rw [Nat.mul_add] at h1
 have e:P*q=P*(q%18446744073709551616)+P*18446744073709551616*(q/18446744073709551616):=by
  rw [Nat.mul_assoc,← Nat.mul_add,this]
 omega
theorem p5 (v:Value) (a:List Nat) (n:Int) (ha:Lim a) (la:a.length≤1099511627776) :
  Meets Tryz.prog 152 [v,.int .i64 n] [(v,U a)] (fun r os fs=>os=[]∧fs=[(r,U (bT (nv a*2^far n)))]):=by
 refine mV Tryz.func152 ?_
 refine cG (cO v a) fun v'=>?_
 rw [dE ha]
 have hla:=fW ha
 have hA:=a0 (nv a)
 have eA:=cK (nv a)
 generalize bT (nv a)=x at *
 refine min2_rule ?_
 refine kV ?_
 have hK:max 0 (min n 8192)=(far n:Int):=by unfold far; omega
 have hK2:far n≤8192:=by unfold far; omega
 rw [hK]
 generalize far n=K at *
 refine eI K 6 64 rfl rfl rfl qE ?_
 refine dW ⟨_,Tryz.underlying3⟩ Tryz.underlying162 (K:Int) (cJ ⟨by omega,by omega⟩) ?_
 refine mZ K 6 64 rfl rfl rfl qN qE ?_
 have hr:K%64<64:=Nat.mod_lt _ qE
 have hKe:64*(K/64)+K%64=K:=Nat.div_add_mod K 64
 have hpow:2^K=18446744073709551616^(K/64)*2^(K%64):=by rw [show (18446744073709551616:Nat)=2^64 from rfl,← Nat.pow_mul,← Nat.pow_add,hKe]
 have hwd:K/64≤128:=by omega
 generalize K/64=wd at *
 generalize K%64=s at *
 refine aT qM fun _=>?_
 refine ar rfl qI ?_
 refine ar rfl qI ?_
 refine o6 (x.length+wd+1) qN qN qN qN fun vo ho=>?_
 refine aT qM fun _=>?_
 refine aO (X:=Nat×List Nat) (fun z=>([(5,.int .i64 (wd:Nat)),(6,.int .u64 (s:Nat)),(7,vo),(26,v'),(27,.int .i64 (x.length:Nat)),(28,.int .i64 (z.1:Nat))],[jX vo z.2],[(v',U x)]))
  (fun z=>z.1≤x.length∧z.2.length=x.length+wd+1∧Lim z.2∧nv z.2=nv (x.take z.1)*2^K∧z.2.getD (z.1+wd) 0<2^s∧∀ j,z.1+wd<j→z.2.getD j 0=0) (fun z=>x.length - z.1) rfl ?_ ?_
 ·exact aU (0,List.replicate (x.length+wd+1) 0) ⟨Nat.zero_le _,by simp,Lim.replicate _,by simp [nT,nv],by simp only [jP]; exact Nat.pow_pos qE,fun j _=>jP _ _⟩ trivial qF (aB qS)
 ·rintro ⟨i,l⟩ ⟨h1,h2,h3,h4,h5,h6⟩
  simp only at h1 h2 h3 h4 h5 h6 ⊢
  refine aD _ rfl (fun hc=>?_) (fun hc=>?_)
  ·have hx:=hA.get i
   refine aQ qM i rfl qN fun p=>?_
   refine bO qM ?_
   refine ar rfl qI ?_
   refine eG 0 rfl ho (i+wd) rfl qN ?_
   refine kH 0 rfl (i+wd) qN ?_
   refine p4 (x.getD i 0) s rfl rfl qN ?_
   refine or_rule _ _ rfl rfl (h3.get _) (Nat.mod_lt _ qE) ?_
   rw [shl_or qN h5]
   have hsum:l.getD (i+wd) 0+x.getD i 0*2^s%18446744073709551616<18446744073709551616:=by
    rw [← shl_or qN h5]
    exact Nat.or_lt_two_pow (n:=64) (h3.get _) (Nat.mod_lt _ qE)
   refine eG 0 rfl ho (i+wd) rfl qN ?_
   refine eV 0 rfl _ rfl qN ?_
   have hval:nv (x.take (i+1))*2^K=nv (x.take i)*2^K+18446744073709551616^(i+wd)*(x.getD i 0*2^s):=by
    rw [bX,Nat.add_mul,hpow,Nat.pow_add]
    congr 1
    generalize 18446744073709551616^i=A1
    generalize 18446744073709551616^wd=A2
    generalize x.getD i 0=A3
    generalize 2^s=A4
    rw [Nat.mul_assoc,Nat.mul_assoc]; congr 1; rw [Nat.mul_left_comm]
   have e1:=nv_set (l:=l) (j:=i+wd) (s:=l.getD (i+wd) 0+x.getD i 0*2^s%18446744073709551616) qN
   refine aD _ rfl (fun hd=>?_) (fun hd=>?_)
   ·refine ar rfl qI ?_
    refine ar rfl qI ?_
    refine ar rfl qI ?_
    refine eI (x.getD i 0) (64 - s) (2^(64 - s)) rfl qN rfl (by simp [IntKind.bits]) ?_
    refine eG 0 rfl ho (i+wd+1) rfl (by simp; omega) ?_
    refine eV 0 rfl _ rfl (by simp; omega) ?_
    refine ar rfl qI ?_
    have hlt:=shl_lt (x:=x.getD i 0) (s:=s) qN hx
    have e2:=nv_set (l:=l.set (i+wd) (l.getD (i+wd) 0+x.getD i 0*2^s%18446744073709551616)) (j:=i+wd+1) (s:=x.getD i 0/2^(64 - s)) (by simp; omega)
    rw [dX qN,if_neg qN,h6 (i+wd+1) qN,Nat.pow_succ] at e2
    refine aU (i+1,(l.set (i+wd) (l.getD (i+wd) 0+x.getD i 0*2^s%18446744073709551616)).set (i+wd+1) (x.getD i 0/2^(64 - s))) ⟨by omega,by simp [h2],(h3.set _ hsum).set _ (by
     have:x.getD i 0/2^(64 - s)≤x.getD i 0:=Nat.div_le_self _ _
     omega),?_,?_,fun j hj=>?_⟩ (by simp only; omega) qF (aB qS)
    ·simp only
     rw [hval,← h4]
     exact shl_eq e1 e2 (shl_high qN).symm rfl
    ·simp only
     rw [show i+1+wd=i+wd+1 by omega,dX (by simp; omega),if_pos rfl]; exact hlt
    ·simp only
     rw [dX (by simp; omega),if_neg qN,dX qN,if_neg qN]; exact h6 j qN
   ·have hs0:s=0:=by omega
    subst hs0
    refine ar rfl qI ?_
    refine aU (i+1,l.set (i+wd) (l.getD (i+wd) 0+x.getD i 0*2^0%18446744073709551616)) ⟨by omega,by simp [h2],h3.set _ hsum,?_,?_,fun j hj=>?_⟩ (by simp only; omega) qF (aB qS)
    ·simp only
     rw [hval,← h4]
     rw [Nat.mul_add] at e1
     rw [Nat.pow_zero,Nat.mul_one] at e1 ⊢
     rw [Nat.mod_eq_of_lt hx] at e1 ⊢
     omega
    ·simp only
     rw [dX qN,if_neg qN,h6 _ qN]; decide
    ·simp only
     rw [dX qN,if_neg qN]; exact h6 j qN
  ·have hi:i=x.length:=by omega
   refine dK (cO vo l) (Seals.U 0 rfl ho) qS ?_
   rintro r _ _ ⟨rfl,rfl⟩
   exact fin ⟨rfl,rfl⟩ (a7 ((bC qM).cast (by rw [dE h3,h4,hi,List.take_length,eA])) (aH _ _))
theorem nv_drop (l:List Nat) (k:Nat) (h:Lim l):nv (l.drop k)=nv l/18446744073709551616^k:=by
 have h1:nv l=nv (l.take k)+18446744073709551616^k*nv (l.drop k):=by
  by_cases hk:k≤l.length
  ·have:=iX (l.take k) (l.drop k)
   rw [List.take_append_drop] at this
   have hl:(l.take k).length=k:=by simp; omega
   rw [hl] at this
   exact this
  ·rw [List.take_of_length_le qN,List.drop_eq_nil_of_le qN]; simp [nv]
 have h2:nv (l.take k)<18446744073709551616^k:=by
  refine Nat.lt_of_lt_of_le (jF (h.take k)) (Nat.pow_le_pow_right qE ?_)
  simp; omega
 rw [h1,Nat.add_mul_div_left _ _ (Nat.pow_pos qE),Nat.div_eq_of_lt h2,Nat.zero_add]
theorem shr_or {c d s:Nat} (hs:s<64) (hc:c<18446744073709551616):c/2^s ||| (d*2^(64 - s)%18446744073709551616)=c/2^s+2^(64 - s)*(d%2^s):=by
 have h1:c/2^s<2^(64 - s):=by
  rw [Nat.div_lt_iff_lt_mul (Nat.pow_pos qE),Nat.mul_comm,nQ qN]; exact hc
 rw [shl_or (s:=64 - s) qN h1,shl_low qN,show 64 - (64 - s)=s by omega]
theorem shr_eq {T S c0 P ci cj M:Nat} {s:Nat} (hs:s≤64) (hM:M=2^s) (h:T*M+c0=S+P*(ci%M)) :
  (T+P*(ci/M+2^(64 - s)*(cj%M)))*M+c0=(S+P*ci)+P*18446744073709551616*(cj%M):=by
 have h1:=Nat.mod_add_div ci M
 have h2:P*(ci/M+2^(64 - s)*(cj%M))*M=P*(M*(ci/M))+P*18446744073709551616*(cj%M):=by
  rw [← nQ hs,← hM,Nat.mul_add,Nat.add_mul]
  generalize 2^(64 - s)=R
  generalize cj%M=y
  generalize ci/M=z
  rw [Nat.mul_assoc P z M,Nat.mul_comm z M]
  congr 1
  rw [Nat.mul_assoc,Nat.mul_assoc P (M*R) y]; congr 1
  rw [Nat.mul_comm (R*y) M,← Nat.mul_assoc]
 rw [Nat.add_mul,h2]
 have h3:P*ci=P*(ci%M)+P*(M*(ci/M)):=by rw [← Nat.mul_add,h1]
 omega
theorem shr_meets (v:Value) (a:List Nat) (n:Int) (ha:Lim a) (la:a.length≤1099511627776) :
  Meets Tryz.prog 167 [v,.int .i64 n] [(v,U a)] (fun r os fs=>os=[]∧fs=[(r,U (bT (nv a/2^far n)))]):=by
 refine mV Tryz.func167 ?_
 refine cG (cO v a) fun v'=>?_
 rw [dE ha]
 have hla:=fW ha
 have hA:=a0 (nv a)
 have eA:=cK (nv a)
 generalize bT (nv a)=x at *
 refine min2_rule ?_
 refine kV ?_
 have hK:max 0 (min n 8192)=(far n:Int):=by unfold far; omega
 have hK2:far n≤8192:=by unfold far; omega
 rw [hK]
 generalize far n=K at *
 refine eI K 6 64 rfl rfl rfl qE ?_
 refine dW ⟨_,Tryz.underlying3⟩ Tryz.underlying162 (K:Int) (cJ ⟨by omega,by omega⟩) ?_
 refine mZ K 6 64 rfl rfl rfl qN qE ?_
 have hr:K%64<64:=Nat.mod_lt _ qE
 have hKe:64*(K/64)+K%64=K:=Nat.div_add_mod K 64
 have hpow:2^K=18446744073709551616^(K/64)*2^(K%64):=by rw [show (18446744073709551616:Nat)=2^64 from rfl,← Nat.pow_mul,← Nat.pow_add,hKe]
 have hwd:K/64≤128:=by omega
 have hq:nv a/2^K=nv (x.drop (K/64))/2^(K%64):=by rw [hpow,← Nat.div_div_eq_div_mul,nv_drop _ _ hA,eA]
 generalize K/64=wd at *
 generalize K%64=s at *
 refine aT qM fun _=>?_
 refine aD _ rfl (fun hc=>?_) (fun hc=>?_)
 ·refine fin ⟨rfl,rfl⟩ (a7 ((dM 1 (UE [])).cast ?_) (aH _ _))
  rw [hq,List.drop_eq_nil_of_le qN,show nv []=0 from rfl,Nat.zero_div,bR]
  rfl
 ·refine oN (kl:=.i64) (kh:=.i64) qM wd x.length _ _ (.inr rfl) (.inl ⟨rfl,rfl⟩) qN qN fun u=>?_
  have hdl:(x.drop wd).length=x.length - wd:=by simp
  refine dK (cfs:=[(u,U (x.drop wd))]) (pR u (x.drop wd) qN) (Seals.add (((bC (List.Mem.head _)).sl_cong (e':=UE (x.drop wd)) fun i hi=>?_).cast (show Dat.sl 1 (x.length - wd) (UE (x.drop wd))=U (x.drop wd) by rw [U,hdl]; rfl))) qS ?_
  ·simp only [UE,gE,List.getElem?_drop]
  rintro vc _ _ ⟨rfl,hvc,rfl⟩
  have hC:Lim (x.drop wd):=hA.drop wd
  have hget:∀ j,(x.drop wd).getD j 0=x.getD (j+wd) 0:=fun j=>by simp [gE,List.getElem?_drop,Nat.add_comm]
  rw [hq]
  generalize hy:x.drop wd=y at *
  refine len_U 0 rfl hvc fun _=>?_
  refine aO (X:=Nat×List Nat) (fun z=>([(0,v'),(5,.int .i64 (wd:Nat)),(6,.int .u64 (s:Nat)),(7,vc),(28,.int .i64 (y.length:Nat)),(29,.int .i64 (z.1:Nat))],[jX vc z.2],[(v',U x)]))
   (fun z=>z.1≤y.length∧z.2.length=y.length∧Lim z.2∧(∀ j,z.1≤j→z.2.getD j 0=y.getD j 0)∧nv (z.2.take z.1)*2^s+y.getD 0 0%2^s=nv (y.take z.1)+18446744073709551616^z.1*(y.getD z.1 0%2^s)) (fun z=>y.length - z.1) rfl ?_ ?_
  ·exact aU (0,y) ⟨Nat.zero_le _,rfl,hC,fun _ _=>rfl,by simp [nv]⟩ trivial qF (aB qS)
  ·rintro ⟨i,l⟩ ⟨h1,h2,h3,h4,h5⟩
   simp only at h1 h2 h3 h4 h5 ⊢
   have hr64:s<64:=hr
   refine aD _ rfl (fun hc2=>?_) (fun hc2=>?_)
   ·have hyi:=hC.get i
    have hyj:=hC.get (i+1)
    refine eG 0 rfl hvc i rfl qN ?_
    refine kH 0 rfl i qN ?_
    rw [h4 i (Nat.le_refl _)]
    refine eI (y.getD i 0) s (2^s) rfl rfl rfl (by simp [IntKind.bits]; omega) ?_
    refine eG 0 rfl hvc i rfl qN ?_
    refine eV 0 rfl _ rfl qN ?_
    have hlow:y.getD i 0/2^s≤y.getD i 0:=Nat.div_le_self _ _
    have key:∀ val,val=y.getD i 0/2^s+2^(64 - s)*(y.getD (i+1) 0%2^s)→nv ((l.set i val).take (i+1))*2^s+y.getD 0 0%2^s=nv (y.take (i+1))+18446744073709551616^(i+1)*(y.getD (i+1) 0%2^s):=fun val hv=>by
     rw [fJ qN,bX,Nat.pow_succ,hv]
     exact shr_eq qN rfl h5
    refine aD _ rfl (fun hd=>?_) (fun hd=>?_)
    ·refine ar rfl qI ?_
     refine ar rfl qI ?_
     refine aT qM fun _=>?_
     refine aD _ rfl (fun he=>?_) (fun he=>?_)
     ·refine aY [0,1,2,3,4,5,6,7,8,9,10,11,12,13,14,15,16] [0,1,2,3,4,5,6,7,8,9,10,11,12,13,14,15,16] qK qK ?_
      refine eG 0 rfl hvc i rfl (by simp; omega) ?_
      refine kH 0 rfl i (by simp; omega) ?_
      rw [dX qN,if_pos rfl]
      refine ar rfl qI ?_
      refine ar rfl qI ?_
      refine aQ qM (i+1+wd) qN qN fun p=>?_
      refine bO qM ?_
      rw [← hget (i+1)]
      refine ar rfl qI ?_
      refine p4 (y.getD (i+1) 0) (64 - s) rfl qN qN ?_
      refine or_rule _ _ rfl rfl qN (Nat.mod_lt _ qE) ?_
      have hlt:y.getD i 0/2^s ||| y.getD (i+1) 0*2^(64 - s)%18446744073709551616<18446744073709551616:=Nat.or_lt_two_pow (n:=64) qN (Nat.mod_lt _ qE)
      refine eG 0 rfl hvc i rfl (by simp; omega) ?_
      refine eV 0 rfl _ rfl (by simp; omega) ?_
      refine ar rfl qI ?_
      refine aU (i+1,(l.set i (y.getD i 0/2^s)).set i (y.getD i 0/2^s ||| y.getD (i+1) 0*2^(64 - s)%18446744073709551616)) ⟨by omega,by simp [h2],(h3.set _ qN).set _ hlt,fun j hj=>?_,?_⟩ (by simp only; omega) qF (aB qS)
      ·simp only at hj ⊢
       rw [dX (by simp; omega),if_neg qN,dX qN,if_neg qN]; exact h4 j qN
      ·simp only
       rw [List.set_set]
       exact key _ (shr_or hr64 hyi)
     ·refine ar rfl qI ?_
      refine aU (i+1,l.set i (y.getD i 0/2^s)) ⟨by omega,by simp [h2],h3.set _ qN,fun j hj=>?_,?_⟩ (by simp only; omega) qF (aB qS)
      ·simp only at hj ⊢
       rw [dX qN,if_neg qN]; exact h4 j qN
      ·simp only
       refine key _ ?_
       rw [fT (l:=y) (i:=i+1) qN]; simp
    ·have hs0:s=0:=by omega
     refine ar rfl qI ?_
     refine aU (i+1,l.set i (y.getD i 0/2^s)) ⟨by omega,by simp [h2],h3.set _ qN,fun j hj=>?_,?_⟩ (by simp only; omega) qF (aB qS)
     ·simp only at hj ⊢
      rw [dX qN,if_neg qN]; exact h4 j qN
     ·simp only
      refine key _ ?_
      subst hs0
      simp [Nat.mod_one]
   ·have hi:i=y.length:=by omega
    refine dK (cO vc l) (Seals.U 0 rfl hvc) qS ?_
    rintro r _ _ ⟨rfl,rfl⟩
    refine fin ⟨rfl,rfl⟩ (a7 ((bC qM).cast ?_) (aH _ _))
    rw [dE h3]
    congr 2
    rw [hi,List.take_length,List.take_of_length_le qN,fT (l:=y) (i:=y.length) qN] at h5
    rw [Nat.zero_mod,Nat.mul_zero,Nat.add_zero] at h5
    rw [← h5,Nat.add_comm,Nat.add_mul_div_right _ _ (Nat.pow_pos qE),Nat.div_eq_of_lt (Nat.mod_lt _ (Nat.pow_pos qE)),Nat.zero_add]
def cutQ {Y:Type} (id:Nat) (J:Y→Fr×List Own×List bD) (okJ:Y→Prop) (Q:pC):pC
 | .exit i=>match Nat.beq i id with
  | true=>fun f os fs=>AtK J okJ f os fs fun _=>True
  | false=>Q (.exit i)
 | e=>Q e
theorem loop_cut {P:Program} {N:Nat} {c:Code} {f:Fr} {os:List Own} {fs:List bD} {Q:pC} {Y:Type} (id:Nat) (J:Y→Fr×List Own×List bD) (okJ:Y→Prop)
  (h1:LoopK P N c f os fs (cutQ id J okJ Q)) (h2:∀ y,okJ y→Q (.exit id) (J y).1 (J y).2.1 (J y).2.2):LoopK P N c f os fs Q:=by
 refine ⟨fun G a w hk hw=>Code.wp_mono ?_ (h1.out G a w hk hw)⟩
 rintro e a' w' ⟨f',os',fs',hk',hw',hq⟩
 cases e with
 | exit i =>
  simp only [cutQ] at hq
  cases hb:Nat.beq i id with
  | true =>
   simp only [hb] at hq
   obtain ⟨⟨y,hy,_,g1,g2⟩⟩:=hq
   have:=Nat.eq_of_beq_eq_true hb
   subst this
   exact ⟨_,_,_,hk'.sub g1,g2 G w' hw',h2 y hy⟩
  | false=>simp only [hb] at hq; exact ⟨f',os',fs',hk',hw',hq⟩
 | normal=>exact ⟨f',os',fs',hk',hw',hq⟩
 | goto l=>exact ⟨f',os',fs',hk',hw',hq⟩
 | ret=>exact ⟨f',os',fs',hk',hw',hq⟩
 | panic ch=>exact ⟨f',os',fs',hk',hw',hq⟩
 | outgrown=>exact ⟨f',os',fs',hk',hw',hq⟩
structure DivStep (u y y1 y0 u1 q:Nat):Prop where
 hy:y=y1*4294967296+y0
 h1:2147483648≤y1
 h2:y1<4294967296
 h3:y0<4294967296
 h4:u<y
 h5:u1<4294967296
 hq:q=(u*4294967296+u1)/y
theorem DivStep.lt {u y y1 y0 u1 q:Nat} (h:DivStep u y y1 y0 u1 q):q<4294967296:=by
 rw [h.hq,Nat.div_lt_iff_lt_mul (by have:=h.h4; omega)]
 have:=Nat.mul_le_mul_right 4294967296 (Nat.succ_le_of_lt h.h4)
 have:=h.h5
 have e:u.succ*4294967296=u*4294967296+4294967296:=Nat.succ_mul _ _
 rw [Nat.mul_comm 4294967296 y]
 omega
theorem DivStep.first {u y y1 y0 u1 q:Nat} (h:DivStep u y y1 y0 u1 q):q≤u/y1∧u/y1≤4294967297:=by
 obtain ⟨hy,h1,h2,h3,h4,h5,hq⟩:=h
 have hd:=Nat.div_add_mod u y1
 have hm:=Nat.mod_lt u (show 0<y1 by omega)
 generalize u/y1=g at *
 generalize u%y1=r at *
 constructor
 ·rw [hq]
  refine Nat.le_of_lt_succ ((Nat.div_lt_iff_lt_mul qN).2 ?_)
  have e1:(g+1)*y1=y1*g+y1:=by rw [Nat.add_mul,Nat.mul_comm]; omega
  have e2:(g+1)*y=(g+1)*y1*4294967296+(g+1)*y0:=by rw [hy,Nat.mul_add,Nat.mul_assoc]
  have e3:(u+1)*4294967296≤(g+1)*y1*4294967296:=Nat.mul_le_mul_right _ qN
  rw [Nat.succ_eq_add_one,e2]
  omega
 ·refine Nat.le_of_lt_succ (Nat.lt_of_mul_lt_mul_left (a:=y1) ?_)
  have:y1*(4294967297+1)=y1*4294967296+2*y1:=by omega
  omega
theorem DivStep.high {u y y1 y0 u1 q g r:Nat} (h:DivStep u y y1 y0 u1 q) (hg:g*y1+r=u) (ht:4294967296*r+u1<g*y0):q<g:=by
 obtain ⟨hy,h1,h2,h3,h4,h5,hq⟩:=h
 rw [hq,Nat.div_lt_iff_lt_mul qN,hy,Nat.mul_add,← Nat.mul_assoc,← hg,Nat.add_mul]
 omega
theorem DivStep.low {u y y1 y0 u1 q g r:Nat} (h:DivStep u y y1 y0 u1 q) (hg:g*y1+r=u) (ht:g*y0≤4294967296*r+u1):g≤q:=by
 obtain ⟨hy,h1,h2,h3,h4,h5,hq⟩:=h
 rw [hq,Nat.le_div_iff_mul_le qN,hy,Nat.mul_add,← Nat.mul_assoc,← hg,Nat.add_mul]
 omega
theorem norm_top {y k:Nat} (h:IsLen y k) (hy:y≠0):y*2^(64 - k)<18446744073709551616∧9223372036854775808≤y*2^(64 - k):=by
 obtain ⟨h1,h2,h3⟩:=h
 have hk:k≠0:=fun e=>by subst e; simp at h1; omega
 have h2':2^(k - 1)≤y:=h2.resolve_left hk
 have hp:0<2^(64 - k):=Nat.pow_pos qE
 constructor
 ·have:y*2^(64 - k)<2^k*2^(64 - k):=Nat.mul_lt_mul_of_pos_right h1 hp
  rwa [← Nat.pow_add,show k+(64 - k)=64 by omega] at this
 ·have:2^(k - 1)*2^(64 - k)≤y*2^(64 - k):=Nat.mul_le_mul_right _ h2'
  rwa [← Nat.pow_add,show k - 1+(64 - k)=63 by omega] at this
theorem fN (n:Int):IntKind.u64.wrap n=n%18446744073709551616:=by simp [IntKind.wrap,IntKind.bits,IntKind.signed]
theorem div_final {hi lo y q1 q0 r1 r0 un32 un1 un0 S:Nat} (hS:0<S) (hu:un32*18446744073709551616+(un1*4294967296+un0)=(hi*18446744073709551616+lo)*S)
  (h1:q1*(y*S)+r1=un32*4294967296+un1) (h0:q0*(y*S)+r0=r1*4294967296+un0) (hr:r0<y*S) :
  q1*4294967296+q0=(hi*18446744073709551616+lo)/y∧r0/S=(hi*18446744073709551616+lo)%y:=by
 have hy:0<y:=Nat.pos_of_ne_zero fun e=>by subst e; simp at hr
 have key:(hi*18446744073709551616+lo)*S=(q1*4294967296+q0)*(y*S)+r0:=by
  rw [← hu,Nat.add_mul,Nat.mul_right_comm]
  omega
 have hd:(hi*18446744073709551616+lo)*S/(y*S)=(hi*18446744073709551616+lo)/y:=Nat.mul_div_mul_right _ _ hS
 have hm:(hi*18446744073709551616+lo)*S%(y*S)=(hi*18446744073709551616+lo)%y*S:=Nat.mul_mod_mul_right _ _ _
 rw [key] at hd hm
 rw [Nat.mul_comm (q1*4294967296+q0) (y*S),Nat.mul_add_div (Nat.mul_pos hy hS),Nat.div_eq_of_lt hr,Nat.add_zero] at hd
 rw [Nat.mul_comm (q1*4294967296+q0) (y*S),Nat.mul_add_mod,Nat.mod_eq_of_lt hr] at hm
 exact ⟨hd,by rw [hm,Nat.mul_div_cancel _ hS]⟩
theorem wR (hi lo y:Nat) (h1:hi<y) (h2:lo<18446744073709551616) (h3:y<18446744073709551616) :
  Meets Tryz.prog 176 [.int .u64 (hi:Int),.int .u64 (lo:Int),.int .u64 (y:Int)] [] (fun r os fs=>os=[]∧fs=[] ∧
   r=.tuple #[.int .u64 (((hi*18446744073709551616+lo)/y:Nat):Int),.int .u64 (((hi*18446744073709551616+lo)%y:Nat):Int)]):=by
 refine mV Tryz.func176 ?_
 refine cX rfl qN ?_
 refine cX rfl qN ?_
 refine aD _ rfl (fun hc=>?_) (fun hc=>?_)
 ·have h0:hi=0:=by omega
  subst h0
  refine aY [0,1,2,3,4,5,6,7] [0,1,2,6,3,4,5,7] qK qK ?_
  have hdl:lo/y≤lo:=Nat.div_le_self _ _
  refine p9 qN qN (by rw [← Int.natCast_ediv]; exact ⟨Int.natCast_nonneg _,by omega⟩) ?_
  refine tX qN qN ?_
  refine fin ⟨rfl,rfl,?_⟩ (aH _ _)
  simp [tup]
 ·refine cF (lz64_meets y h3) ?_
  rintro _ _ _ ⟨rfl,rfl,k,rfl,hk⟩
  have hk64:=hk.2.2
  have hnt:=norm_top hk qN
  have hs64:64 - k<64:=by
   have:k≠0:=fun e=>by have:=hk.1; rw [e] at this; simp at this; omega
   omega
  generalize 64 - k=s at *
  refine dW ⟨_,Tryz.underlying3⟩ Tryz.underlying162 (s:Int) (cJ ⟨by omega,by omega⟩) ?_
  have hSp:0<2^s:=Nat.pow_pos qE
  have hhi:hi*2^s<y*2^s:=Nat.mul_lt_mul_of_pos_right h1 hSp
  refine p4 y s rfl rfl qN ?_
  rw [Nat.mod_eq_of_lt hnt.1]
  refine eI (y*2^s) 32 4294967296 rfl rfl rfl qE ?_
  refine mZ (y*2^s) 32 4294967296 rfl rfl rfl hnt.1 qE ?_
  refine p4 hi s rfl rfl qN ?_
  rw [Nat.mod_eq_of_lt (Nat.lt_trans hhi hnt.1)]
  refine ar rfl qI ?_
  refine eI lo (64 - s) (2^(64 - s)) rfl qN rfl (by simp [IntKind.bits]) ?_
  have hlolt:=shl_lt hs64 h2
  have hor:hi*2^s ||| lo/2^(64 - s)=hi*2^s+lo/2^(64 - s):=by rw [Nat.mul_comm hi,← Nat.two_pow_add_eq_or_of_lt hlolt]
  refine or_rule _ _ rfl rfl qN (by have:lo/2^(64 - s)≤lo:=Nat.div_le_self _ _; omega) ?_
  rw [hor]
  refine p4 lo s rfl rfl qN ?_
  have hun:(hi*2^s+lo/2^(64 - s))*18446744073709551616+lo*2^s%18446744073709551616=(hi*18446744073709551616+lo)*2^s:=by
   rw [← shl_high (x:=lo) (by omega:s≤64),Nat.add_mul,Nat.add_mul,Nat.mul_right_comm hi]
   have:=Nat.div_add_mod (lo*2^s) 18446744073709551616
   generalize lo*2^s=Z at *
   omega
  have hult:hi*2^s+lo/2^(64 - s)<y*2^s:=by
   have:(hi+1)*2^s≤y*2^s:=Nat.mul_le_mul_right _ h1
   rw [Nat.add_mul] at this
   omega
  have hlm:lo*2^s%18446744073709551616<18446744073709551616:=Nat.mod_lt _ qE
  have hfin:=@div_final hi lo y
  generalize hY:y*2^s=Y at *
  generalize hi*2^s+lo/2^(64 - s)=u at *
  generalize lo*2^s%18446744073709551616=un10 at *
  refine eI un10 32 4294967296 rfl rfl rfl qE ?_
  refine mZ un10 32 4294967296 rfl rfl rfl hlm qE ?_
  obtain ⟨y1,hy1⟩:∃ y1,y1=Y/4294967296:=⟨_,rfl⟩
  obtain ⟨y0,hy0⟩:∃ y0,y0=Y%4294967296:=⟨_,rfl⟩
  obtain ⟨u1,hu1⟩:∃ u1,u1=un10/4294967296:=⟨_,rfl⟩
  obtain ⟨u0,hu0⟩:∃ u0,u0=un10%4294967296:=⟨_,rfl⟩
  obtain ⟨q1,hq1⟩:∃ q1,q1=(u*4294967296+u1)/Y:=⟨_,rfl⟩
  obtain ⟨r1,hr1⟩:∃ r1,r1=(u*4294967296+u1)%Y:=⟨_,rfl⟩
  have hst:DivStep u Y y1 y0 u1 q1:=⟨by omega,by omega,by omega,by omega,hult,by omega,hq1⟩
  have hf:=hst.first
  have hfd:=Nat.div_add_mod u y1
  have hfm:=Nat.mod_lt u (show 0<y1 by omega)
  have hqd:Y*q1+r1=u*4294967296+u1:=by rw [hq1,hr1]; exact Nat.div_add_mod _ _
  have hqm:r1<Y:=by rw [hr1]; exact Nat.mod_lt _ qN
  clear hq1 hr1
  rw [← hy1,← hy0,← hu1,← hu0]
  have hdle:u/y1≤u:=Nat.div_le_self _ _
  refine p9 qN qN (by rw [← Int.natCast_ediv]; exact ⟨Int.natCast_nonneg _,by omega⟩) ?_
  rw [← Int.natCast_ediv]
  have hle:u/y1*y1≤u:=Nat.div_mul_le_self _ _
  refine cU rfl ((u/y1*y1:Nat):Int) (by rw [← Int.natCast_mul]; exact cJ ⟨Int.natCast_nonneg _,by omega⟩) ?_
  refine cU rfl ((u%y1:Nat):Int) (by rw [show ((u:Int) - ((u/y1*y1:Nat):Int))=((u%y1:Nat):Int) from by have:=Nat.mul_comm y1 (u/y1); omega]; exact cJ ⟨by omega,by omega⟩) ?_
  refine loop_cut (Y:=Nat) 0 (fun g=>([(2,.int .u64 (Y:Nat)),(8,.int .u64 (s:Nat)),(9,.int .u64 (y1:Nat)),(10,.int .u64 (y0:Nat)),(11,.int .u64 (u:Nat)),(13,.int .u64 (u1:Nat)),(14,.int .u64 (u0:Nat)),(15,.int .u64 (g:Nat))],[],[]))
   (fun g=>g=q1) ?_ ?_
  ·refine aO (X:=Nat×Nat) (fun x=>([(2,.int .u64 (Y:Nat)),(8,.int .u64 (s:Nat)),(9,.int .u64 (y1:Nat)),(10,.int .u64 (y0:Nat)),(11,.int .u64 (u:Nat)),(13,.int .u64 (u1:Nat)),(14,.int .u64 (u0:Nat)),(15,.int .u64 (x.1:Nat)),(16,.int .u64 (x.2:Nat))],[],[]))
    (fun x=>x.1*y1+x.2=u∧x.2<4294967296∧q1≤x.1∧x.1≤4294967297) (fun x=>x.1) rfl ?_ ?_
   ·exact aU (u/y1,u%y1) ⟨by simp only; rw [Nat.mul_comm]; exact hfd,by simp only; omega,hf.1,hf.2⟩ trivial qF (aB qS)
   ·
    rintro ⟨g,r⟩ ⟨g1,g2,g3,g4⟩
    simp only at g1 g2 g3 g4 ⊢
    have hlt:=hst.lt
    have b1:g*y0≤4294967297*y0:=Nat.mul_le_mul_right _ g4
    refine aD _ rfl (fun hc=>?_) (fun hc=>?_)
    ·refine ar rfl qI ?_
     refine ar rfl qI ?_
     have e1:(g - 1)*y1+(r+y1)=g*y1+r:=by
      obtain ⟨g',rfl⟩:∃ g',g=g'+1:=⟨g - 1,by omega⟩
      rw [Nat.add_mul]; simp; omega
     refine aD _ rfl (fun hd=>?_) (fun hd=>?_)
     ·refine aU (g - 1) ?_ trivial qF (aB qS)
      have b2:(g - 1)*y0≤4294967296*y0:=Nat.mul_le_mul_right _ qN
      have:=hst.low (e1.trans g1) (by have:=hst.h3; omega)
      omega
     ·exact aU (g - 1,r+y1) ⟨by simp only; exact e1.trans g1,by simp only; omega,by simp only; omega,by simp only; omega⟩ (by simp only; omega) qF (aB qS)
    ·have b0:g*y0≤4294967295*4294967295:=Nat.mul_le_mul qN (by have:=hst.h3; omega)
     refine cU rfl ((g*y0:Nat):Int) (by rw [← Int.natCast_mul]; exact cJ ⟨Int.natCast_nonneg _,by omega⟩) ?_
     refine ar rfl qI ?_
     refine ar rfl qI ?_
     refine aD _ rfl (fun hd=>?_) (fun hd=>?_)
     ·have hh:=hst.high g1 qN
      refine ar rfl qI ?_
      refine ar rfl qI ?_
      have e1:(g - 1)*y1+(r+y1)=g*y1+r:=by
       obtain ⟨g',rfl⟩:∃ g',g=g'+1:=⟨g - 1,by omega⟩
       rw [Nat.add_mul]; simp; omega
      refine aD _ rfl (fun he=>?_) (fun he=>?_)
      ·refine aU (g - 1) ?_ trivial qF (aB qS)
       have b2:(g - 1)*y0≤4294967296*y0:=Nat.mul_le_mul_right _ qN
       have:=hst.low (e1.trans g1) (by have:=hst.h3; omega)
       omega
      ·exact aU (g - 1,r+y1) ⟨by simp only; exact e1.trans g1,by simp only; omega,by simp only; omega,by simp only; omega⟩ (by simp only; omega) qF (aB qS)
     ·refine aU g ?_ trivial qF (aB qS)
      have:=hst.low g1 qN
      omega
  ·rintro g rfl
   have hr1B:r1<18446744073709551616:=by omega
   refine cU rfl (((u*4294967296:Nat):Int)%18446744073709551616) (by rw [fN]; rfl) ?_
   refine cU rfl ((((u*4294967296:Nat):Int)+u1)%18446744073709551616) (by rw [fN]; omega) ?_
   refine cU rfl (((Y*g:Nat):Int)%18446744073709551616) (by rw [fN,← Int.natCast_mul,Nat.mul_comm]) ?_
   refine cU rfl ((r1:Nat):Int) (by rw [fN]; omega) ?_
   obtain ⟨q0,hq0⟩:∃ q0,q0=(r1*4294967296+u0)/Y:=⟨_,rfl⟩
   obtain ⟨r0,hr0⟩:∃ r0,r0=(r1*4294967296+u0)%Y:=⟨_,rfl⟩
   have hst2:DivStep r1 Y y1 y0 u0 q0:=⟨by omega,by omega,by omega,by omega,hqm,by omega,hq0⟩
   have hf2:=hst2.first
   have hfd2:=Nat.div_add_mod r1 y1
   have hfm2:=Nat.mod_lt r1 (show 0<y1 by omega)
   have hqd2:Y*q0+r0=r1*4294967296+u0:=by rw [hq0,hr0]; exact Nat.div_add_mod _ _
   have hqm2:r0<Y:=by rw [hr0]; exact Nat.mod_lt _ qN
   clear hq0 hr0
   have hdle2:r1/y1≤r1:=Nat.div_le_self _ _
   refine p9 qN qN (by rw [← Int.natCast_ediv]; exact ⟨Int.natCast_nonneg _,by omega⟩) ?_
   rw [← Int.natCast_ediv]
   have hle2:r1/y1*y1≤r1:=Nat.div_mul_le_self _ _
   refine cU rfl ((r1/y1*y1:Nat):Int) (by rw [← Int.natCast_mul]; exact cJ ⟨Int.natCast_nonneg _,by omega⟩) ?_
   refine cU rfl ((r1%y1:Nat):Int) (by rw [show ((r1:Int) - ((r1/y1*y1:Nat):Int))=((r1%y1:Nat):Int) from by have:=Nat.mul_comm y1 (r1/y1); omega]; exact cJ ⟨by omega,by omega⟩) ?_
   have hglt:=hst.lt
   clear hst hf
   refine loop_cut (Y:=Nat) 2 (fun h=>([(2,.int .u64 (Y:Nat)),(8,.int .u64 (s:Nat)),(14,.int .u64 (u0:Nat)),(15,.int .u64 (g:Nat)),(17,.int .u64 (r1:Nat)),(18,.int .u64 (h:Nat))],[],[]))
    (fun h=>h=q0) ?_ ?_
   ·refine aO (X:=Nat×Nat) (fun x=>([(2,.int .u64 (Y:Nat)),(8,.int .u64 (s:Nat)),(9,.int .u64 (y1:Nat)),(10,.int .u64 (y0:Nat)),(14,.int .u64 (u0:Nat)),(15,.int .u64 (g:Nat)),(17,.int .u64 (r1:Nat)),(18,.int .u64 (x.1:Nat)),(16,.int .u64 (x.2:Nat))],[],[]))
     (fun x=>x.1*y1+x.2=r1∧x.2<4294967296∧q0≤x.1∧x.1≤4294967297) (fun x=>x.1) rfl ?_ ?_
    ·exact aU (r1/y1,r1%y1) ⟨by simp only; rw [Nat.mul_comm]; exact hfd2,by simp only; omega,hf2.1,hf2.2⟩ trivial qF (aB qS)
    ·have hst:=hst2
     rintro ⟨g,r⟩ ⟨g1,g2,g3,g4⟩
     simp only at g1 g2 g3 g4 ⊢
     have hlt:=hst.lt
     have b1:g*y0≤4294967297*y0:=Nat.mul_le_mul_right _ g4
     refine aD _ rfl (fun hc=>?_) (fun hc=>?_)
     ·refine ar rfl qI ?_
      refine ar rfl qI ?_
      have e1:(g - 1)*y1+(r+y1)=g*y1+r:=by
       obtain ⟨g',rfl⟩:∃ g',g=g'+1:=⟨g - 1,by omega⟩
       rw [Nat.add_mul]; simp; omega
      refine aD _ rfl (fun hd=>?_) (fun hd=>?_)
      ·refine aU (g - 1) ?_ trivial qF (aB qS)
       have b2:(g - 1)*y0≤4294967296*y0:=Nat.mul_le_mul_right _ qN
       have:=hst.low (e1.trans g1) (by have:=hst.h3; omega)
       omega
      ·exact aU (g - 1,r+y1) ⟨by simp only; exact e1.trans g1,by simp only; omega,by simp only; omega,by simp only; omega⟩ (by simp only; omega) qF (aB qS)
     ·have b0:g*y0≤4294967295*4294967295:=Nat.mul_le_mul qN (by have:=hst.h3; omega)
      refine cU rfl ((g*y0:Nat):Int) (by rw [← Int.natCast_mul]; exact cJ ⟨Int.natCast_nonneg _,by omega⟩) ?_
      refine ar rfl qI ?_
      refine ar rfl qI ?_
      refine aD _ rfl (fun hd=>?_) (fun hd=>?_)
      ·have hh:=hst.high g1 qN
       refine ar rfl qI ?_
       refine ar rfl qI ?_
       have e1:(g - 1)*y1+(r+y1)=g*y1+r:=by
        obtain ⟨g',rfl⟩:∃ g',g=g'+1:=⟨g - 1,by omega⟩
        rw [Nat.add_mul]; simp; omega
       refine aD _ rfl (fun he=>?_) (fun he=>?_)
       ·refine aU (g - 1) ?_ trivial qF (aB qS)
        have b2:(g - 1)*y0≤4294967296*y0:=Nat.mul_le_mul_right _ qN
        have:=hst.low (e1.trans g1) (by have:=hst.h3; omega)
        omega
       ·exact aU (g - 1,r+y1) ⟨by simp only; exact e1.trans g1,by simp only; omega,by simp only; omega,by simp only; omega⟩ (by simp only; omega) qF (aB qS)
      ·refine aU g ?_ trivial qF (aB qS)
       have:=hst.low g1 qN
       omega
   ·rintro h rfl
    have hhlt:=hst2.lt
    refine ar rfl qI ?_
    refine ar rfl qI ?_
    refine cU rfl (((r1*4294967296:Nat):Int)%18446744073709551616) (by rw [fN]; rfl) ?_
    refine cU rfl ((((r1*4294967296:Nat):Int)+u0)%18446744073709551616) (by rw [fN]; omega) ?_
    refine cU rfl (((Y*h:Nat):Int)%18446744073709551616) (by rw [fN,← Int.natCast_mul,Nat.mul_comm]) ?_
    refine cU rfl ((r0:Nat):Int) (by rw [fN]; omega) ?_
    refine eI r0 s (2^s) rfl rfl rfl (by simp [IntKind.bits]; omega) ?_
    obtain ⟨e1,e2⟩:=hfin (q1:=g) (q0:=h) (r1:=r1) (r0:=r0) (un32:=u) (un1:=u1) (un0:=u0) hSp (by rw [← hun]; omega) (by rw [hY,Nat.mul_comm]; exact hqd) (by rw [hY,Nat.mul_comm]; exact hqd2) (by rw [hY]; exact hqm2)
    refine fin ⟨rfl,rfl,?_⟩ (aH _ _)
    rw [← e1,← e2]
    simp [tup]
theorem short_meets (v:Value) (a:List Nat) (y:Nat) (ha:Lim a) (la:a.length≤1099511627776) (hy:y<18446744073709551616) (h0:y≠0) :
  Meets Tryz.prog 158 [v,.int .u64 (y:Int)] [(v,U a)] (fun r os fs=>os=[]∧∃ q s,r=.tuple #[q,s,.bool true]∧fs=[(q,U (bT (nv a/y))),(s,U (bT (nv a%y)))]):=by
 refine mV Tryz.func158 ?_
 refine aT qM fun _=>?_
 refine o6 a.length rfl rfl qN qN fun vo ho=>?_
 refine aT qM fun _=>?_
 refine ar rfl qI ?_
 refine aO (X:=Nat×List Nat×Nat) (fun x=>([(0,v),(1,.int .u64 (y:Nat)),(7,vo),(8,.int .u64 (x.2.2:Nat)),(9,.int .i64 ((x.1:Int) - 1))],[jX vo x.2.1],[(v,U a)]))
  (fun x=>x.1≤a.length∧x.2.1.length=a.length∧Lim x.2.1∧x.2.2<y∧nv (a.drop x.1)=nv (x.2.1.drop x.1)*y+x.2.2) (fun x=>x.1) rfl ?_ ?_
 ·exact aU (a.length,List.replicate a.length 0,0) ⟨Nat.le_refl _,by simp,Lim.replicate _,by simp only; omega,by simp [nv]⟩ trivial qF (aB qS)
 ·rintro ⟨k,l,r⟩ ⟨h1,h2,h3,h4,h5⟩
  simp only at h1 h2 h3 h4 h5 ⊢
  refine aD _ rfl (fun hc=>?_) (fun hc=>?_)
  ·obtain ⟨i,rfl⟩:∃ i,k=i+1:=⟨k - 1,by omega⟩
   have hx:=ha.get i
   refine aQ qM i qN qN fun p=>?_
   refine bO qM ?_
   refine cH (wR r (a.getD i 0) y h4 hx hy) ?_
   have hq:(r*18446744073709551616+a.getD i 0)/y<18446744073709551616:=by
    rw [Nat.div_lt_iff_lt_mul qN]
    have:(r+1)*18446744073709551616≤y*18446744073709551616:=Nat.mul_le_mul_right _ h4
    rw [Nat.mul_comm 18446744073709551616 y]
    omega
   refine eG 0 rfl ho i qN qN ?_
   refine eV 0 rfl _ rfl qN ?_
   refine ar rfl qI ?_
   refine aU (i,l.set i ((r*18446744073709551616+a.getD i 0)/y),(r*18446744073709551616+a.getD i 0)%y) ⟨by omega,by simp [h2],h3.set _ hq,Nat.mod_lt _ qN,?_⟩ (by simp only; omega) qF (aB qS)
   simp only
   have e1:nv (a.drop i)=a.getD i 0+18446744073709551616*nv (a.drop (i+1)):=by
    rw [List.drop_eq_getElem_cons qN,nv]; simp [gE,show i<a.length by omega]
   have e2:nv ((l.set i ((r*18446744073709551616+a.getD i 0)/y)).drop i)=(r*18446744073709551616+a.getD i 0)/y+18446744073709551616*nv (l.drop (i+1)):=by
    rw [List.drop_eq_getElem_cons (by simp; omega),nv,List.drop_set_of_lt qN]; simp
   have hd:=Nat.div_add_mod (r*18446744073709551616+a.getD i 0) y
   rw [e1,e2,h5,Nat.mul_add,Nat.add_mul]
   have e3:18446744073709551616*(nv (l.drop (i+1))*y)=18446744073709551616*nv (l.drop (i+1))*y:=(Nat.mul_assoc _ _ _).symm
   have e4:=Nat.mul_comm y ((r*18446744073709551616+a.getD i 0)/y)
   omega
  ·have hk:k=0:=by omega
   subst hk
   rw [List.drop_zero,List.drop_zero] at h5
   refine dK (cO vo l) (Seals.U 0 rfl ho) qS ?_
   rintro q _ _ ⟨rfl,rfl⟩
   refine lit_U r rfl fun w=>?_
   refine cG (cO w [r]) fun s=>?_
   have hdm:nv a/y=nv l∧nv a%y=r:=by
    rw [h5,Nat.mul_comm]
    exact ⟨by rw [Nat.mul_add_div qN,Nat.div_eq_of_lt h4,Nat.add_zero],by rw [Nat.mul_add_mod,Nat.mod_eq_of_lt h4]⟩
   refine fin ⟨rfl,q,s,rfl,rfl⟩ (a7 ((bC qM).cast ?_) (a7 ((bC qM).cast ?_) (aH _ _)))
   ·rw [dE h3,hdm.1]
   ·rw [dE (Lim.cons qN Lim.nil),hdm.2]; simp [nv]
theorem fB {P:Program} {g:FuncId} {fn:Func} {c:Code} {args:List Value} {os:List Own} {fs:List bD} {K:bZ}
  (hf : P.funcs[g]? = some fn) (hname : (fn.name == "runtime.NumGoroutine") = false) (hb : fn.body = some c) (hok : jB fn.ntmps c = true) (hn : args.length ≤ fn.ntmps)
  (h:VC P fn.ntmps c (argF 0 args) os fs (retQ P fn K)):CallK P false (.func (.func g) #[] #[]) args os fs K:=by
 refine ⟨fun G w hw=>?_,fun h=>by cases h⟩
 have hrun:(do let x ← Deferred.ofValue (.func (.func g) #[] #[]) args.toArray; invoke x.target x.args:Sem Next).run P w=.ok (.enter g args.toArray) w:=by
  simp only [Deferred.ofValue,pure_bind,invoke,Array.empty_append,Array.append_empty]
  simp only [callFunc,Sem.run_bind,run_program,Result.andThen_ok,hf,hname,hb]
  rfl
 rw [hrun]
 refine calls_of_wp hf hb ?_
 have hk:Knows fn.ntmps (argF 0 args) { tmps:=args.toArray++Array.replicate (fn.ntmps - args.toArray.size) undef,defers:=[] }:=by
  refine ⟨rfl,by simp; omega,fun t v ht=>?_⟩
  obtain ⟨_,h2⟩:=qV args 0 t v ht
  have h2':args[t]? = some v:=by simpa using h2
  have hlt:t<args.length:=(List.getElem?_eq_some_iff.1 h2').1
  rw [Array.getElem?_append_left (by simpa using hlt)]
  simpa using h2'
 refine wp_mono (VC.sound (G:=G) c _ os fs _ hok h _ w hk hw) ?_
 rintro e a' w' ⟨f',os',fs',hk',hw',hq⟩
 have fin:RetK P f' K fn.results.toList [] os' fs'→a'.defers=[]∧∃ v,(results fn a'.tmps).run P w'=.ok v w' ∧
   ∃ v1,Ending.returned v=.returned v1∧∃ os' fs',K v1 os' fs'∧Holds G os' fs' w':=fun hq=>by
  obtain ⟨vs,os1,fs1,h1,h2,h3⟩:=RetK.sound hk' _ _ _ _ hq hw'
  exact ⟨hk'.defers,_,mK h1,_,rfl,os1,fs1,by simpa using h2,h3⟩
 cases e with
 | normal=>exact fin hq
 | ret=>exact fin hq
 | exit id=>exact hq.elim
 | goto l=>exact hq.elim
 | panic ch=>exact hq.elim
 | outgrown=>exact hq.elim
def wsl (v:Value) (j m:Nat):Value :=
 match v with
 | .slice (some a) _ _=>.slice (some (a.add (j*1))) m m
 | _=>undef
theorem ownU_ne {G:Ctx} {os:List Own} {fs:List bD} {w:World} (hw:Holds G os fs w) {pos:Nat} {u:Value} {l:List Nat} (h:a8 os pos=some (jX u l)) (hs:isSl u) (hl:0<l.length) :
  ∃ r cap,u=.slice (some ⟨r,0,none⟩) l.length cap∧l.length≤cap:=by
 rcases hw.own _ (bF h) 0 Nat.zero_lt_one with ⟨_,h2⟩ | ⟨r,cap,h1,_,h2,_⟩ | ⟨r,h1,_⟩ | ⟨h2,_⟩
 rotate_right
 ·simp only [jX,bE] at h2; omega
 ·simp only [jX,bE] at h2; omega
 ·exact ⟨r,cap,h1,h2⟩
 ·obtain ⟨_,_,_,rfl⟩:=hs; simp [jX,bE] at h1
theorem win_rule {P:Program} {t e:TypeId} {u:Value} {l:List Nat} {k1 k2 k3:IntKind} {x y z:Int} {os:List Own} {fs:List bD} {K:bZ} [ht:TSl P t e 1] (pos:Nat) (h:a8 os pos=some (jX u l)) (hs:isSl u)
  (j m:Nat) (hx:x=(j:Int)) (hy:y=((j+m:Nat):Int)) (hz:z=((j+m:Nat):Int)) (hm:0<m) (hl:j+m≤l.length)
  (k:K (wsl u j m) os fs):SliceK P t u (some (.int k1 x)) (some (.int k2 y)) (some (.int k3 z)) os fs K:=by
 subst hx hy hz
 refine ⟨fun G w hw=>?_⟩
 obtain ⟨r,cap,rfl,hc⟩:=ownU_ne hw h hs qN
 refine ⟨_,fs,fun w' _=>c9 (v:=.slice (some (Addr.add ⟨r,0,none⟩ (j*1))) m m) ?_,k,hw⟩
 have h1:((j:Int)≤((j+m:Nat):Int)):=by omega
 have h2:(((j+m:Nat):Int)≤(cap:Int)):=by omega
 have h3:j+m≠j:=by omega
 have h1':((j:Int)≤(j:Int)+(m:Int)):=by omega
 have h2':((j:Int)+(m:Int)≤(cap:Int)):=by omega
 have h5:(0:Int)≤(j:Int)+(m:Int):=by omega
 have h6:((j:Int)+(m:Int)).toNat=j+m:=by omega
 have h7:m≠0:=by omega
 simp [Instr.sliceAt,run_underlying ht.und,Instr.slice,Instr.sliceBounds,Instr.sliceBound,asIntOf,h1',h2',h5,h6,h7,bQ ht.size]
theorem i9 {P:Program} {t e:TypeId} {u:Value} {l:List Nat} {kk:IntKind} {x:Int} {os:List Own} {fs:List bD} {K:bZ} [ht:TSl P t e 1] (pos:Nat) (h:a8 os pos=some (jX u l)) (hs:isSl u)
  {j m:Nat} (i:Nat) (hx:x=(i:Int)) (hi:i<m) (hl:j+m≤l.length) (k:K (k6 u ((j+i)*1)) os fs):eM P t (wsl u j m) (.int kk x) os fs K:=by
 subst hx
 refine ⟨fun G w hw=>?_⟩
 obtain ⟨r,cap,rfl,hc⟩:=ownU_ne hw h hs qN
 refine ⟨_,fs,fun w' _=>c9 ?_,k,hw⟩
 simp only [wsl]
 rw [pJ ht _ _ _ _ _ qN qN w']
 simp [k6,eX]
def win (l:List Nat) (j m:Nat):List Nat:=(l.drop j).take m
theorem win_set {l:List Nat} {j i s:Nat} (h:j+i<l.length):nv (win (l.set (j+i) s) j (i+1))=nv (win l j i)+18446744073709551616^i*s:=by
 unfold win
 rw [List.drop_set,if_neg qN,show j+i - j=i by omega]
 exact fJ (by simp; omega)
theorem lM (l:List Nat) (j i:Nat):nv (win l j (i+1))=nv (win l j i)+18446744073709551616^i*l.getD (j+i) 0:=by
 unfold win
 rw [bX]
 simp [gE,List.getElem?_drop]
theorem takes_eq {Sn So P s c c' x V b b' t:Nat} (h:Sn+t*V=So+P*(b+c)) (hs:s+x*t+c+b=c'+18446744073709551616*b') (o:Nat) (ho:c'=o) :
  (Sn+P*s)+t*(V+P*x)=(So+P*o)+P*18446744073709551616*b':=by
 subst ho
 have e:P*s+t*(P*x)+P*(b+c)=P*c'+P*18446744073709551616*b':=by
  have:t*(P*x)=P*(x*t):=by rw [Nat.mul_left_comm,Nat.mul_comm t]
  rw [this,← Nat.mul_add,← Nat.mul_add,Nat.mul_assoc,← Nat.mul_add]
  congr 1
  omega
 rw [Nat.mul_add]
 omega
theorem takes_call {K:bZ} {os:List Own} {fs:List bD} (pos:Nat) {u v:Value} {l0 vl:List Nat} {j n t:Nat} (h:a8 os pos=some (jX u l0)) (hs:isSl u) (hv:(v,U vl)∈fs) (hn:vl.length=n)
  (hl0:Lim l0) (hvl:Lim vl) (hj:j+(n+1)≤l0.length) (ll:l0.length≤1099511627777) (ht:t<18446744073709551616)
  (k:∀ l' b,l'.length=l0.length→Lim l'→(∀ x,x<j∨j+n<x→l'.getD x 0=l0.getD x 0)→b≤1→nv (win l' j (n+1))+t*nv vl=nv (win l0 j (n+1))+18446744073709551616^(n+1)*b →
   K (.bool (decide (b≠0))) (setOwn os pos (jX u l')) fs):CallK Tryz.prog false (.func (.func 196) #[] #[]) [wsl u j (n+1),v,.int .u64 (t:Int)] os fs K:=by
 refine fB Tryz.func196 qK rfl qK (Nat.le_of_ble_eq_true rfl) ?_
 refine aT hv fun _=>?_
 refine aO (X:=Nat×List Nat×Nat×Nat) (fun x=>([(0,wsl u j (n+1)),(1,v),(2,.int .u64 (t:Nat)),(7,.int .u64 (x.2.2.1:Nat)),(8,.int .u64 (x.2.2.2:Nat)),(14,v),(15,.int .i64 (vl.length:Nat)),(16,.int .i64 (x.1:Nat))],setOwn os pos (jX u x.2.1),fs))
  (fun x=>x.1≤n∧x.2.1.length=l0.length∧Lim x.2.1∧x.2.2.1≤1∧x.2.2.2<18446744073709551616∧(∀ y,y<j∨j+x.1≤y→x.2.1.getD y 0=l0.getD y 0) ∧
   nv (win x.2.1 j x.1)+t*nv (vl.take x.1)=nv (win l0 j x.1)+18446744073709551616^x.1*(x.2.2.1+x.2.2.2)) (fun x=>n - x.1) rfl ?_ ?_
 ·exact aU (0,l0,0,0) ⟨Nat.zero_le _,rfl,hl0,by simp,by simp,fun _ _=>rfl,by simp [win,nv]⟩ trivial qF (by simp only; rw [set_same h]; exact Seals.refl _ _)
 ·rintro ⟨i,l,b,c⟩ ⟨h1,h2,h3,h4,h5,h6,h7⟩
  simp only at h1 h2 h3 h4 h5 h6 h7 ⊢
  have hn':a8 (setOwn os pos (jX u l)) pos=some (jX u l):=l4 h
  refine aD _ rfl (fun hc=>?_) (fun hc=>?_)
  ·have hx:=hvl.get i
   have hui:=hl0.get (j+i)
   refine aQ hv i rfl qN fun p=>?_
   refine bO qM ?_
   refine cH (pH (vl.getD i 0) t hx ht) ?_
   have hp:vl.getD i 0*t≤18446744073709551615*18446744073709551615:=Nat.mul_le_mul qN qN
   have hstep:=fun (s c' b':Nat)=>takes_eq (P:=18446744073709551616^i) (x:=vl.getD i 0) (s:=s) (c':=c') (b':=b') h7
   generalize vl.getD i 0*t=q at *
   refine iP (q%18446744073709551616) c 0 rfl rfl rfl qE ?_
   refine cU rfl ((q/18446744073709551616+(q%18446744073709551616+c+0)/18446744073709551616:Nat):Int) (by rw [← Int.natCast_add]; exact cJ ⟨Int.natCast_nonneg _,by omega⟩) ?_
   refine i9 pos hn' hs i rfl qN qN ?_
   refine kH pos hn' (j+i) qN ?_
   rw [h6 _ (.inr (Nat.le_refl _))]
   refine oM (l0.getD (j+i) 0) ((q%18446744073709551616+c+0)%18446744073709551616) b rfl rfl rfl h4 ?_
   refine i9 pos hn' hs i rfl qN qN ?_
   refine eV pos hn' _ rfl qN ?_
   refine ar rfl qI ?_
   refine aU (i+1,l.set (j+i) ((l0.getD (j+i) 0+18446744073709551616 - (q%18446744073709551616+c+0)%18446744073709551616 - b)%18446744073709551616),if l0.getD (j+i) 0<(q%18446744073709551616+c+0)%18446744073709551616+b then 1 else 0,q/18446744073709551616+(q%18446744073709551616+c+0)/18446744073709551616)
    ⟨by omega,by simp [h2],h3.set _ qN,by simp only; split <;> omega,by simp only; omega,fun y hy=>?_,?_⟩ (by simp only; omega) qF (by rw [set_set]; exact aB (fun F hF=>by simp [hF]))
   ·simp only at hy ⊢
    rw [dX qN,if_neg qN]; exact h6 y qN
   ·simp only
    rw [win_set qN,lM,bX,Nat.pow_succ]
    exact hstep _ _ _ (by split <;> omega) _ rfl
  ·have hi:i=n:=by omega
   subst hi
   have hun:=hl0.get (j+i)
   refine aT hv fun _=>?_
   refine aT hv fun _=>?_
   refine i9 pos hn' hs i qN qN qN ?_
   refine kH pos hn' (j+i) qN ?_
   rw [h6 _ (.inr (Nat.le_refl _))]
   refine oM (l0.getD (j+i) 0) c b rfl rfl rfl h4 ?_
   refine i9 pos hn' hs i qN qN qN ?_
   refine eV pos hn' _ rfl qN ?_
   rw [set_set]
   have hk:=k (l.set (j+i) ((l0.getD (j+i) 0+18446744073709551616 - c - b)%18446744073709551616)) (if l0.getD (j+i) 0<c+b then 1 else 0) (by simp [h2]) (h3.set _ qN) (fun y hy=>by rw [dX qN,if_neg qN]; exact h6 y qN) (by split <;> omega) (by
    rw [win_set qN,lM,Nat.pow_succ]
    rw [List.take_of_length_le qN] at h7
    have:=takes_eq (P:=18446744073709551616^i) (x:=0) (s:=(l0.getD (j+i) 0+18446744073709551616 - c - b)%18446744073709551616) (b':=if l0.getD (j+i) 0<c+b then 1 else 0) (c':=l0.getD (j+i) 0) h7 (by split <;> omega) _ rfl
    simpa using this)
   refine aD _ rfl (fun hz=>?_) (fun hz=>?_)
   ·refine fin ?_ (aB (fun F hF=>by simpa using hF))
    have:((if l0.getD (j+i) 0<c+b then 1 else 0:Nat)≠0):=by omega
    rw [show decide ((if l0.getD (j+i) 0<c+b then 1 else 0:Nat)≠0)=true from decide_eq_true this] at hk
    exact hk
   ·refine fin ?_ (aB (fun F hF=>by simpa using hF))
    have:¬ ((if l0.getD (j+i) 0<c+b then 1 else 0:Nat)≠0):=by omega
    rw [show decide ((if l0.getD (j+i) 0<c+b then 1 else 0:Nat)≠0)=false from decide_eq_false this] at hk
    exact hk
theorem gives_eq {Sn So P s c c' x V:Nat} (h:Sn+P*c=So+V) (o:Nat) (hs:s+18446744073709551616*c'=o+x+c) :
  (Sn+P*s)+P*18446744073709551616*c'=(So+P*o)+(V+P*x):=by
 have e:P*s+P*18446744073709551616*c'=P*o+P*x+P*c:=by rw [Nat.mul_assoc,← Nat.mul_add,hs,Nat.mul_add,Nat.mul_add]
 omega
theorem gives_call {K:bZ} {os:List Own} {fs:List bD} (pos:Nat) {u v:Value} {l0 vl:List Nat} {j n:Nat} (h:a8 os pos=some (jX u l0)) (hs:isSl u) (hv:(v,U vl)∈fs) (hn:vl.length=n)
  (hl0:Lim l0) (hvl:Lim vl) (hj:j+(n+1)≤l0.length) (ll:l0.length≤1099511627777)
  (k:∀ l' b,l'.length=l0.length→Lim l'→(∀ x,x<j∨j+n<x→l'.getD x 0=l0.getD x 0)→b≤1→nv (win l' j (n+1))+18446744073709551616^(n+1)*b=nv (win l0 j (n+1))+nv vl →
   K (.tuple #[]) (setOwn os pos (jX u l')) fs):CallK Tryz.prog false (.func (.func 197) #[] #[]) [wsl u j (n+1),v] os fs K:=by
 refine fB Tryz.func197 qK rfl qK (Nat.le_of_ble_eq_true rfl) ?_
 refine aT hv fun _=>?_
 refine aO (X:=Nat×List Nat×Nat) (fun x=>([(0,wsl u j (n+1)),(1,v),(4,.int .u64 (x.2.2:Nat)),(7,v),(8,.int .i64 (vl.length:Nat)),(9,.int .i64 (x.1:Nat))],setOwn os pos (jX u x.2.1),fs))
  (fun x=>x.1≤n∧x.2.1.length=l0.length∧Lim x.2.1∧x.2.2≤1∧(∀ y,y<j∨j+x.1≤y→x.2.1.getD y 0=l0.getD y 0) ∧
   nv (win x.2.1 j x.1)+18446744073709551616^x.1*x.2.2=nv (win l0 j x.1)+nv (vl.take x.1)) (fun x=>n - x.1) rfl ?_ ?_
 ·exact aU (0,l0,0) ⟨Nat.zero_le _,rfl,hl0,by simp,fun _ _=>rfl,by simp [win,nv]⟩ trivial qF (by simp only; rw [set_same h]; exact Seals.refl _ _)
 ·rintro ⟨i,l,c⟩ ⟨h1,h2,h3,h4,h6,h7⟩
  simp only at h1 h2 h3 h4 h6 h7 ⊢
  have hn':a8 (setOwn os pos (jX u l)) pos=some (jX u l):=l4 h
  refine aD _ rfl (fun hc=>?_) (fun hc=>?_)
  ·have hx:=hvl.get i
   have hui:=hl0.get (j+i)
   refine aQ hv i rfl qN fun p=>?_
   refine bO qM ?_
   refine i9 pos hn' hs i rfl qN qN ?_
   refine kH pos hn' (j+i) qN ?_
   rw [h6 _ (.inr (Nat.le_refl _))]
   refine iP (l0.getD (j+i) 0) (vl.getD i 0) c rfl rfl rfl h4 ?_
   refine i9 pos hn' hs i rfl qN qN ?_
   refine eV pos hn' _ rfl qN ?_
   refine ar rfl qI ?_
   refine aU (i+1,l.set (j+i) ((l0.getD (j+i) 0+vl.getD i 0+c)%18446744073709551616),(l0.getD (j+i) 0+vl.getD i 0+c)/18446744073709551616)
    ⟨by omega,by simp [h2],h3.set _ qN,by simp only; omega,fun y hy=>?_,?_⟩ (by simp only; omega) qF (by rw [set_set]; exact aB (fun F hF=>by simp [hF]))
   ·simp only at hy ⊢
    rw [dX qN,if_neg qN]; exact h6 y qN
   ·simp only
    rw [win_set qN,lM,bX,Nat.pow_succ]
    exact gives_eq h7 _ (Nat.mod_add_div _ _)
  ·have hi:i=n:=by omega
   subst hi
   have hun:=hl0.get (j+i)
   refine aT hv fun _=>?_
   refine i9 pos hn' hs i qN qN qN ?_
   refine kH pos hn' (j+i) qN ?_
   rw [h6 _ (.inr (Nat.le_refl _))]
   refine cU rfl (((l0.getD (j+i) 0+c)%18446744073709551616:Nat):Int) (by rw [fN]; omega) ?_
   refine i9 pos hn' hs i qN qN qN ?_
   refine eV pos hn' _ rfl qN ?_
   rw [set_set]
   refine fin (k (l.set (j+i) ((l0.getD (j+i) 0+c)%18446744073709551616)) ((l0.getD (j+i) 0+c)/18446744073709551616) (by simp [h2]) (h3.set _ qN) (fun y hy=>by rw [dX qN,if_neg qN]; exact h6 y qN) qN ?_) (aB (fun F hF=>by simpa using hF))
   rw [win_set qN,lM,Nat.pow_succ]
   rw [List.take_of_length_le qN] at h7
   have:=gives_eq (P:=18446744073709551616^i) (x:=0) h7 (l0.getD (j+i) 0) (s:=(l0.getD (j+i) 0+c)%18446744073709551616) (c':=(l0.getD (j+i) 0+c)/18446744073709551616) qN
   simpa using this
def takeC:Nat→Code→Code
 | 0,_=>.skip
 | k+1,c=>match c with
  | .seq a b=>.seq a (takeC k b)
  | c=>c
def dropC:Nat→Code→Code
 | 0,c=>c
 | k+1,c=>match c with
  | .seq _ b=>dropC k b
  | _=>.skip
def cutN {Y:Type} (J:Y→Fr×List Own×List bD) (okJ:Y→Prop) (Q:pC):pC
 | .normal=>fun f os fs=>AtK J okJ f os fs fun _=>True
 | e=>Q e
theorem VC.sound2 {P:Program} {N:Nat} {G:Ctx} {Q:pC} {Y:Type} (J:Y→Fr×List Own×List bD) (okJ:Y→Prop) :
  ∀ (k:Nat) (c:Code) (f:Fr) (os:List Own) (fs:List bD),jB N c=true→VC P N (takeC k c) f os fs (cutN J okJ Q) →
   (∀ y,okJ y→VC P N (dropC k c) (J y).1 (J y).2.1 (J y).2.2 Q) →
   ∀ (a:Act) (w:World),Knows N f a→Holds G os fs w→c.wp P (tW N G Q) a w:=by
 intro k
 induction k with
 | zero =>
  intro c f os fs hok h h2 a w hk hw
  obtain ⟨⟨y,hy,_,g1,g2⟩⟩:=h
  exact VC.sound c _ _ _ Q hok (h2 y hy) a w (hk.sub g1) (g2 G w hw)
 | succ k ih =>
  intro c f os fs hok h h2 a w hk hw
  have other:∀ (c:Code),jB N c=true→VC P N c f os fs (cutN J okJ Q)→(∀ y,okJ y→VC P N .skip (J y).1 (J y).2.1 (J y).2.2 Q)→c.wp P (tW N G Q) a w:=by
   intro c hok h h2
   refine wp_mono (VC.sound (G:=G) c f os fs _ hok h a w hk hw) ?_
   rintro e a' w' ⟨f',os',fs',hk',hw',hq⟩
   cases e with
   | normal =>
    obtain ⟨⟨y,hy,_,g1,g2⟩⟩:=hq
    exact ⟨_,_,_,hk'.sub g1,g2 G w' hw',h2 y hy⟩
   | exit id=>exact ⟨f',os',fs',hk',hw',hq⟩
   | goto l=>exact ⟨f',os',fs',hk',hw',hq⟩
   | ret=>exact ⟨f',os',fs',hk',hw',hq⟩
   | panic ch=>exact ⟨f',os',fs',hk',hw',hq⟩
   | outgrown=>exact ⟨f',os',fs',hk',hw',hq⟩
  cases c with
  | seq x y =>
   simp only [jB,Bool.and_eq_true] at hok
   refine wp_seq (wp_mono (VC.sound (G:=G) x f os fs (thenQ (fun f os fs=>VC P N (takeC k y) f os fs (cutN J okJ Q)) (cutN J okJ Q)) hok.1 h a w hk hw) ?_)
   rintro e a' w' ⟨f',os',fs',hk',hw',hq⟩
   cases e with
   | normal=>exact ih y f' os' fs' hok.2 hq h2 a' w' hk' hw'
   | exit id=>exact ⟨f',os',fs',hk',hw',hq⟩
   | goto l=>exact ⟨f',os',fs',hk',hw',hq⟩
   | ret=>exact ⟨f',os',fs',hk',hw',hq⟩
   | panic ch=>exact ⟨f',os',fs',hk',hw',hq⟩
   | outgrown=>exact ⟨f',os',fs',hk',hw',hq⟩
  | skip=>exact other _ hok h h2
  | region id ops d=>exact other _ hok h h2
  | cond c x y=>exact other _ hok h h2
  | block id c=>exact other _ hok h h2
  | loop c=>exact other _ hok h h2
  | exit id=>exact other _ hok h h2
  | scope c=>exact other _ hok h h2
  | label l=>exact other _ hok h h2
  | ret=>exact other _ hok h h2
  | goto l=>exact other _ hok h h2
  | refuse r=>exact other _ hok h h2
  | rangeFunc a b c d=>exact other _ hok h h2
theorem inline_wp {P:Program} {g:FuncId} {fn:Func} {c:Code} {args:List Value} {os:List Own} {fs:List bD} {K:bZ}
  (hf : P.funcs[g]? = some fn) (hname : (fn.name == "runtime.NumGoroutine") = false) (hb : fn.body = some c) (hn : args.length ≤ fn.ntmps)
  (h:∀ G (a:Act) w,Knows fn.ntmps (argF 0 args) a→Holds G os fs w→c.wp P (tW fn.ntmps G (retQ P fn K)) a w):CallK P false (.func (.func g) #[] #[]) args os fs K:=by
 refine ⟨fun G w hw=>?_,fun h=>by cases h⟩
 have hrun:(do let x ← Deferred.ofValue (.func (.func g) #[] #[]) args.toArray; invoke x.target x.args:Sem Next).run P w=.ok (.enter g args.toArray) w:=by
  simp only [Deferred.ofValue,pure_bind,invoke,Array.empty_append,Array.append_empty]
  simp only [callFunc,Sem.run_bind,run_program,Result.andThen_ok,hf,hname,hb]
  rfl
 rw [hrun]
 refine calls_of_wp hf hb ?_
 have hk:Knows fn.ntmps (argF 0 args) { tmps:=args.toArray++Array.replicate (fn.ntmps - args.toArray.size) undef,defers:=[] }:=by
  refine ⟨rfl,by simp; omega,fun t v ht=>?_⟩
  obtain ⟨_,h2⟩:=qV args 0 t v ht
  have h2':args[t]? = some v:=by simpa using h2
  have hlt:t<args.length:=(List.getElem?_eq_some_iff.1 h2').1
  rw [Array.getElem?_append_left (by simpa using hlt)]
  simpa using h2'
 refine wp_mono (h G _ w hk hw) ?_
 rintro e a' w' ⟨f',os',fs',hk',hw',hq⟩
 have fin:RetK P f' K fn.results.toList [] os' fs'→a'.defers=[]∧∃ v,(results fn a'.tmps).run P w'=.ok v w' ∧
   ∃ v1,Ending.returned v=.returned v1∧∃ os' fs',K v1 os' fs'∧Holds G os' fs' w':=fun hq=>by
  obtain ⟨vs,os1,fs1,h1,h2,h3⟩:=RetK.sound hk' _ _ _ _ hq hw'
  exact ⟨hk'.defers,_,mK h1,_,rfl,os1,fs1,by simpa using h2,h3⟩
 cases e with
 | normal=>exact fin hq
 | ret=>exact fin hq
 | exit id=>exact hq.elim
 | goto l=>exact hq.elim
 | panic ch=>exact hq.elim
 | outgrown=>exact hq.elim
theorem inline_cut {P:Program} {g:FuncId} {fn:Func} {c:Code} {args:List Value} {os:List Own} {fs:List bD} {K:bZ} {Y:Type} (k:Nat) (J:Y→Fr×List Own×List bD) (okJ:Y→Prop)
  (hf : P.funcs[g]? = some fn) (hname : (fn.name == "runtime.NumGoroutine") = false) (hb : fn.body = some c) (hok : jB fn.ntmps c = true) (hn : args.length ≤ fn.ntmps)
  (h1:VC P fn.ntmps (takeC k c) (argF 0 args) os fs (cutN J okJ (retQ P fn K)))
  (h2:∀ y,okJ y→VC P fn.ntmps (dropC k c) (J y).1 (J y).2.1 (J y).2.2 (retQ P fn K)):CallK P false (.func (.func g) #[] #[]) args os fs K :=
 inline_wp hf hname hb hn fun _ a w hk hw=>VC.sound2 J okJ k c _ os fs hok h1 h2 a w hk hw
def bodyOf (fn:Func):Code :=
 match fn.body with
 | some c=>c
 | none=>.skip
theorem meets_wp {P:Program} {g:FuncId} {fn:Func} {c:Code} {args:List Value} {fs:List bD} {R:Value→List Own→List bD→Prop}
  (hf : P.funcs[g]? = some fn) (hname : (fn.name == "runtime.NumGoroutine") = false) (hb : fn.body = some c) (hn : args.length ≤ fn.ntmps)
  (h:∀ G (a:Act) w,Knows fn.ntmps (argF 0 args) a→Holds G [] fs w→c.wp P (tW fn.ntmps G (retQ P fn R)) a w):Meets P g args fs R:=by
 refine ⟨fun xs w=>?_,fun A w hA hfs=>?_⟩
 ·simp only [callFunc,Sem.run_bind,run_program,Result.andThen_ok,hf,hname,hb]
  rfl
 ·refine calls_of_wp hf hb ?_
  have hk:Knows fn.ntmps (argF 0 args) { tmps:=args.toArray++Array.replicate (fn.ntmps - args.toArray.size) undef,defers:=[] }:=by
   refine ⟨rfl,by simp; omega,fun t v ht=>?_⟩
   obtain ⟨_,h2⟩:=qV args 0 t v ht
   have h2':args[t]? = some v:=by simpa using h2
   have hlt:t<args.length:=(List.getElem?_eq_some_iff.1 h2').1
   rw [Array.getElem?_append_left (by simpa using hlt)]
   simpa using h2'
  have hw:Holds ⟨A,w.heap.size,w⟩ [] fs w:=by
   refine ⟨hA,Nat.le_refl _,Below.refl _ _,trivial,fun o ho=>(by cases ho),?_⟩
   exact hfs.mono (fun _ _=>rfl) fun b ⟨h1,h2⟩=>⟨h1,h2,fun h=>h⟩
  refine wp_mono (h ⟨A,w.heap.size,w⟩ _ w hk hw) ?_
  rintro e a' w' ⟨f',os',fs',hk',hw',hq⟩
  have fin:RetK P f' R fn.results.toList [] os' fs'→a'.defers=[]∧∃ v,(results fn a'.tmps).run P w'=.ok v w' ∧
    ∃ v1 os' fs',Ending.returned v=.returned v1∧R v1 os' fs'∧Holds ⟨A,w.heap.size,w⟩ os' fs' w':=fun hq=>by
   obtain ⟨vs,os1,fs1,h1,h2,h3⟩:=RetK.sound hk' _ _ _ _ hq hw'
   exact ⟨hk'.defers,_,mK h1,_,os1,fs1,rfl,by simpa using h2,h3⟩
  cases e with
  | normal=>exact fin hq
  | ret=>exact fin hq
  | exit id=>exact hq.elim
  | goto l=>exact hq.elim
  | panic ch=>exact hq.elim
  | outgrown=>exact hq.elim
theorem meets_cut {P:Program} {g:FuncId} {fn:Func} {c:Code} {args:List Value} {fs:List bD} {R:Value→List Own→List bD→Prop} {Y:Type} (k:Nat) (J:Y→Fr×List Own×List bD) (okJ:Y→Prop)
  (hf : P.funcs[g]? = some fn) (hname : (fn.name == "runtime.NumGoroutine") = false) (hb : fn.body = some c) (hok : jB fn.ntmps c = true) (hn : args.length ≤ fn.ntmps)
  (h1:VC P fn.ntmps (takeC k c) (argF 0 args) [] fs (cutN J okJ (retQ P fn R)))
  (h2:∀ y,okJ y→VC P fn.ntmps (dropC k c) (J y).1 (J y).2.1 (J y).2.2 (retQ P fn R)):Meets P g args fs R :=
 meets_wp hf hname hb hn fun _ a w hk hw=>VC.sound2 J okJ k c _ [] fs hok h1 h2 a w hk hw
structure KN (B P ul u0 u1 u2 vw v2 v1 U V:Nat):Prop where
 hU:U=ul+P*(u0+B*(u1+B*u2))
 hV:V=vw+P*(v2+B*v1)
 hul:ul<P
 hvw:vw<P
 hu0:u0<B
 hu1:u1<B
 hv2:v2<B
 hv1:v1<B
 htop:B≤2*v1
 hlt:U<B*V
theorem KN.high {B P ul u0 u1 u2 vw v2 v1 U V g r:Nat} (h:KN B P ul u0 u1 u2 vw v2 v1 U V) (hg:g*v1+r=u2*B+u1) (ht:r*B+u0<g*v2):U<g*V:=by
 obtain ⟨hU,hV,hul,hvw,hu0,hu1,hv2,hv1,htop,hlt⟩:=h
 have e1:U<P*(u0+B*(u1+B*u2)+1):=by rw [hU,Nat.mul_add P _ 1]; omega
 have e2:u0+B*(u1+B*u2)+1≤g*(v2+B*v1):=by
  rw [Nat.add_comm u1,Nat.mul_comm B u2,← hg,Nat.mul_add,Nat.mul_add,Nat.mul_comm B r,Nat.mul_left_comm g B v1]
  omega
 have e3:P*(u0+B*(u1+B*u2)+1)≤P*(g*(v2+B*v1)):=Nat.mul_le_mul_left _ e2
 have e4:g*V=g*vw+P*(g*(v2+B*v1)):=by rw [hV,Nat.mul_add,Nat.mul_left_comm g P]
 omega
theorem KN.vhi {B P ul u0 u1 u2 vw v2 v1 U V:Nat} (h:KN B P ul u0 u1 u2 vw v2 v1 U V):V<P*(B*(v1+1)):=by
 obtain ⟨hU,hV,hul,hvw,hu0,hu1,hv2,hv1,htop,hlt⟩:=h
 have e:P*(v2+B*v1+1)≤P*(B*(v1+1)):=Nat.mul_le_mul_left _ (by rw [Nat.mul_add]; omega)
 rw [hV]
 rw [Nat.mul_add P _ 1] at e
 omega
theorem KN.vlo {B P ul u0 u1 u2 vw v2 v1 U V:Nat} (h:KN B P ul u0 u1 u2 vw v2 v1 U V):P*(B*v1)≤V:=by
 rw [h.hV,Nat.mul_add]; omega
theorem KN.ulo {B P ul u0 u1 u2 vw v2 v1 U V:Nat} (h:KN B P ul u0 u1 u2 vw v2 v1 U V):P*(B*(u2*B+u1))≤U:=by
 have e:u1+B*u2=u2*B+u1:=by rw [Nat.mul_comm B,Nat.add_comm]
 rw [h.hU,e,Nat.mul_add P u0]; omega
theorem KN.over {B P ul u0 u1 u2 vw v2 v1 U V g:Nat} (h:KN B P ul u0 u1 u2 vw v2 v1 U V) (h1:g*v1≤u2*B+u1) (h2:g≤B) (hg:0<g):g*V<U+2*V:=by
 have a:=h.vhi
 have b:=h.vlo
 have c:=h.ulo
 have e1:g*V<g*(P*(B*(v1+1))):=Nat.mul_lt_mul_of_pos_left a hg
 have e2:g*(P*(B*(v1+1)))=P*(B*(g*v1))+P*(B*g):=by
  rw [Nat.mul_left_comm,Nat.mul_left_comm g B,Nat.mul_add,Nat.mul_one,Nat.mul_add,Nat.mul_add]
 have e3:P*(B*(g*v1))≤P*(B*(u2*B+u1)):=Nat.mul_le_mul_left _ (Nat.mul_le_mul_left _ h1)
 have e4:P*(B*g)≤P*(B*(2*v1)):=Nat.mul_le_mul_left _ (Nat.mul_le_mul_left _ (Nat.le_trans h2 h.htop))
 have e5:P*(B*(2*v1))=2*(P*(B*v1)):=by rw [Nat.mul_left_comm B,Nat.mul_left_comm P]
 omega
theorem KN.first {B P ul u0 u1 u2 vw v2 v1 U V:Nat} (h:KN B P ul u0 u1 u2 vw v2 v1 U V) (hlt:u2<v1) :
  U<((u2*B+u1)/v1+1)*V∧(u2*B+u1)/v1*V<U+2*V∧(u2*B+u1)/v1<B:=by
 have hd:=Nat.div_add_mod (u2*B+u1) v1
 have hm:=Nat.mod_lt (u2*B+u1) (show 0<v1 by omega)
 have hB:(u2*B+u1)/v1<B:=by
  rw [Nat.div_lt_iff_lt_mul qN]
  have:=Nat.mul_le_mul_right B (Nat.succ_le_of_lt hlt)
  rw [Nat.succ_mul] at this
  have:=h.hu1
  rw [Nat.mul_comm B v1]
  omega
 have hVp:0<V:=by
  have:=h.vlo
  have:0<P*(B*v1):=Nat.mul_pos (by have:=h.hul; omega) (Nat.mul_pos (by have:=h.hu1; omega) qN)
  omega
 refine ⟨?_,?_,hB⟩
 ·have e1:U<P*(B*(u2*B+u1+1)):=by
   have:P*(u0+B*(u1+B*u2)+1)≤P*(B*(u2*B+u1+1)):=Nat.mul_le_mul_left _ (by
    rw [Nat.mul_add B _ 1,Nat.add_comm (u2*B),Nat.mul_comm u2]; have:=h.hu0; omega)
   rw [Nat.mul_add P _ 1] at this
   rw [h.hU]; have:=h.hul; omega
  have e2:u2*B+u1+1≤((u2*B+u1)/v1+1)*v1:=by
   rw [Nat.add_mul,Nat.mul_comm _ v1]; omega
  have e3:P*(B*(u2*B+u1+1))≤P*(B*(((u2*B+u1)/v1+1)*v1)):=Nat.mul_le_mul_left _ (Nat.mul_le_mul_left _ e2)
  have e4:P*(B*(((u2*B+u1)/v1+1)*v1))=((u2*B+u1)/v1+1)*(P*(B*v1)):=by rw [Nat.mul_left_comm B,Nat.mul_left_comm P]
  have e5:((u2*B+u1)/v1+1)*(P*(B*v1))≤((u2*B+u1)/v1+1)*V:=Nat.mul_le_mul_left _ h.vlo
  omega
 ·rcases Nat.eq_zero_or_pos ((u2*B+u1)/v1) with h0 | h0
  ·rw [h0]; omega
  ·exact h.over (by rw [Nat.mul_comm]; omega) (Nat.le_of_lt hB) h0
theorem KN.max {B P ul u0 u1 u2 vw v2 v1 U V:Nat} (h:KN B P ul u0 u1 u2 vw v2 v1 U V) (hle:v1≤u2):(B - 1)*V<U+2*V:=by
 have h1:2≤B∨B≤1:=by omega
 rcases h1 with h1 | h1
 ·refine h.over ?_ qN qN
  have:(B - 1)*v1≤B*u2:=Nat.mul_le_mul qN hle
  rw [Nat.mul_comm u2]; omega
 ·have:=h.hv1; have:=h.htop; omega
theorem win_lt {l:List Nat} (h:Lim l) (j n:Nat) (hl:j+n≤l.length):nv (win l j n)<18446744073709551616^n:=by
 have:=jF ((h.drop j).take n)
 rw [List.length_take,List.length_drop,Nat.min_eq_left qN] at this
 exact this
theorem kn_of {l vl:List Nat} {j m:Nat} (hl:Lim l) (hv:Lim vl) (hj:j+(m+3)≤l.length) (hn:vl.length=m+2) (ht:9223372036854775808≤vl.getD (m+1) 0)
  (hlt:nv (win l j (m+3))<18446744073709551616*nv vl) :
  KN 18446744073709551616 (18446744073709551616^m) (nv (win l j m)) (l.getD (j+m) 0) (l.getD (j+(m+1)) 0) (l.getD (j+(m+2)) 0) (nv (vl.take m)) (vl.getD m 0) (vl.getD (m+1) 0) (nv (win l j (m+3))) (nv vl):=by
 refine ⟨?_,?_,win_lt hl j m qN,?_,hl.get _,hl.get _,hv.get _,hv.get _,by omega,hlt⟩
 ·rw [lM,lM,lM]
  simp only [Nat.pow_succ]
  generalize 18446744073709551616^m=P
  rw [Nat.mul_add,Nat.mul_add,Nat.mul_add,Nat.mul_assoc,Nat.mul_assoc,Nat.mul_assoc]
  omega
 ·have:nv vl=nv (vl.take (m+2)):=by rw [List.take_of_length_le qN]
  rw [this,bX,bX,Nat.pow_succ]
  generalize 18446744073709551616^m=P
  rw [Nat.mul_add,Nat.mul_assoc]
  omega
 ·have:=jF (hv.take m)
  rwa [List.length_take,Nat.min_eq_left qN] at this
theorem give_step {A W V U T g b:Nat} (h:A+T*b=W+V) (h':W+(g*V+V)=U+T) (hb:b≤1):A+g*V=U+T*(1 - b):=by
 obtain rfl | rfl:b=0∨b=1:=by omega
 ·rw [Nat.mul_zero] at h; rw [Nat.sub_zero,Nat.mul_one]; omega
 ·rw [Nat.mul_one] at h; rw [Nat.sub_self,Nat.mul_zero]; omega
theorem top_none {W L Q t:Nat} (h:W=L+Q*t) (hw:W<Q):t=0:=by
 rcases Nat.eq_zero_or_pos t with h0 | h0
 ·exact h0
 ·have:=Nat.le_mul_of_pos_right Q h0
  omega
theorem top_full {W L Q B t:Nat} (h:W=L+Q*t) (hl:L<Q) (hw:Q*B<W+Q):B≤t+1:=by
 refine Nat.le_of_not_lt fun hlt=>?_
 have:=Nat.mul_le_mul_left Q (Nat.succ_le_of_lt hlt)
 rw [Nat.succ_eq_add_one,Nat.mul_add,Nat.mul_add,Nat.mul_one] at this
 omega
theorem digit_tail {K:bZ} {os:List Own} {fs:List bD} (pos:Nat) {u v:Value} {l0 vl:List Nat} {j m:Nat} (h:a8 os pos=some (jX u l0)) (hs:isSl u) (hv:(v,U vl)∈fs) (hn:vl.length=m+2)
  (hl0:Lim l0) (hvl:Lim vl) (hj:j+(m+3)≤l0.length) (ll:l0.length≤1099511627777) (htop:9223372036854775808≤vl.getD (m+1) 0)
  (hlt:nv (win l0 j (m+3))<18446744073709551616*nv vl)
  (k:∀ l' g,l'.length=l0.length→Lim l'→(∀ x,x<j∨j+(m+2)<x→l'.getD x 0=l0.getD x 0)→g<18446744073709551616→nv (win l' j (m+3))+g*nv vl=nv (win l0 j (m+3)) →
   nv (win l' j (m+3))<nv vl→K (.int .u64 (g:Int)) (setOwn os pos (jX u l')) fs)
  (g:Nat) (hB:g<18446744073709551616) (hU:nv (win l0 j (m+3))<(g+1)*nv vl) (hO:g*nv vl<nv (win l0 j (m+3))+2*nv vl) :
  VC Tryz.prog Tryz.f178.ntmps (dropC 4 (bodyOf Tryz.f178)) [(0,wsl u j (m+3)),(1,v),(5,.int .i64 (vl.length:Nat)),(6,.int .u64 (g:Nat))] os fs (retQ Tryz.prog Tryz.f178 K):=by
 have hVlt:nv vl<18446744073709551616^(m+2):=by rw [← hn]; exact jF hvl
 refine takes_call pos h hs (by first | exact hv | exact .tail _ hv | exact .tail _ (.tail _ hv) | exact .tail _ (.tail _ (.tail _ hv)) | exact .tail _ (.tail _ (.tail _ (.tail _ hv)))) hn hl0 hvl hj ll (t:=g) hB ?_
 intro l1 b e1 e2 e3 e4 e5
 replace e5:nv (win l1 j (m+3))+g*nv vl=nv (win l0 j (m+3))+18446744073709551616^(m+3)*b:=e5
 obtain rfl | rfl:b=0∨b=1:=by omega
 ·rw [show decide ((0:Nat)≠0)=false from rfl]
  rw [Nat.mul_zero,Nat.add_zero] at e5
  have hlast:nv (win l1 j (m+3))<nv vl:=by rw [Nat.add_mul,Nat.one_mul] at hU; omega
  exact fin (k l1 g e1 e2 e3 hB e5 hlast) (aB (fun F hF=>by first | exact hF | exact .tail _ hF | exact .tail _ (.tail _ hF) | exact .tail _ (.tail _ (.tail _ hF)) | exact .tail _ (.tail _ (.tail _ (.tail _ hF)))))
 ·rw [show decide ((1:Nat)≠0)=true from rfl]
  rw [Nat.mul_one] at e5
  have hwl:=win_lt e2 j (m+3) qN
  have hg0:g≠0:=fun e=>by rw [e,Nat.zero_mul,Nat.add_zero] at e5; omega
  obtain ⟨g',hg'⟩:∃ g',g'+1=g:=⟨g - 1,by omega⟩
  rw [← hg',Nat.add_mul,Nat.one_mul] at e5
  have hU0:nv (win l0 j (m+3))<(g'+1)*nv vl:=by rw [Nat.add_mul,Nat.one_mul]; omega
  have hO':g'*nv vl<nv (win l0 j (m+3))+nv vl:=by rw [← hg',Nat.add_mul,Nat.one_mul] at hO; omega
  refine cU rfl ((g':Nat):Int) (by rw [show (((g:Nat):Int) - 1)=((g':Nat):Int) from by omega]; exact cJ ⟨by omega,by omega⟩) ?_
  refine gives_call (n:=m+2) pos (l4 h) hs (by first | exact hv | exact .tail _ hv | exact .tail _ (.tail _ hv) | exact .tail _ (.tail _ (.tail _ hv)) | exact .tail _ (.tail _ (.tail _ (.tail _ hv)))) hn e2 hvl qN qN ?_
  intro l2 b2 c1 c2 c3 c4 c5
  replace c5:nv (win l2 j (m+3))+18446744073709551616^(m+3)*b2=nv (win l1 j (m+3))+nv vl:=c5
  refine aO (X:=Nat×List Nat×Nat) (fun x=>([(0,wsl u j (m+3)),(1,v),(5,.int .i64 (vl.length:Nat)),(6,.int .u64 (x.1:Nat))],setOwn os pos (jX u x.2.1),fs))
   (fun x=>x.1<18446744073709551616∧x.2.1.length=l0.length∧Lim x.2.1∧x.2.2≤1∧(∀ y,y<j∨j+(m+2)<y→x.2.1.getD y 0=l0.getD y 0) ∧
    nv (win x.2.1 j (m+3))+x.1*nv vl=nv (win l0 j (m+3))+18446744073709551616^(m+3)*x.2.2∧nv (win l0 j (m+3))<(x.1+1)*nv vl∧x.1*nv vl<nv (win l0 j (m+3))+nv vl) (fun x=>x.1) rfl ?_ ?_
  ·refine aU (g',l2,1 - b2) ⟨by simp only; omega,by simp only; omega,c2,by simp only; omega,fun y hy=>by simp only; rw [c3 y qN,e3 y qN],?_,hU0,hO'⟩ trivial qF (by rw [set_set]; exact (aB (fun F hF=>by first | exact hF | exact .tail _ hF | exact .tail _ (.tail _ hF) | exact .tail _ (.tail _ (.tail _ hF)) | exact .tail _ (.tail _ (.tail _ (.tail _ hF))))))
   exact give_step c5 e5 c4
  ·rintro ⟨g,l,d⟩ ⟨d1,d2,d3,d4,d5,d6,d7,d8⟩
   simp only at d1 d2 d3 d4 d5 d6 d7 d8 ⊢
   have hn':a8 (setOwn os pos (jX u l)) pos=some (jX u l):=l4 h
   have htp:=d3.get (j+(m+2))
   have hsp:nv (win l j (m+3))=nv (win l j (m+2))+18446744073709551616^(m+2)*l.getD (j+(m+2)) 0:=lM l j (m+2)
   have hwn:=win_lt d3 j (m+2) qN
   have hwl:=win_lt d3 j (m+3) qN
   have hpp:18446744073709551616^(m+3)=18446744073709551616^(m+2)*18446744073709551616:=Nat.pow_succ ..
   refine i9 pos hn' hs (m+2) qN qN qN ?_
   refine kH pos hn' (j+(m+2)) qN ?_
   obtain rfl | rfl:d=0∨d=1:=by omega
   ·rw [Nat.mul_zero,Nat.add_zero] at d6
    rw [Nat.add_mul,Nat.one_mul] at d7
    have hlast:nv (win l j (m+3))<nv vl:=by omega
    have hz:l.getD (j+(m+2)) 0=0:=by
     exact top_none hsp (Nat.lt_trans hlast hVlt)
    refine cX rfl qN ?_
    exact fin (k l g d2 d3 d5 d1 d6 hlast) (aB (fun F hF=>by first | exact hF | exact .tail _ hF | exact .tail _ (.tail _ hF) | exact .tail _ (.tail _ (.tail _ hF)) | exact .tail _ (.tail _ (.tail _ (.tail _ hF)))))
   ·rw [Nat.mul_one] at d6
    have hz:l.getD (j+(m+2)) 0=18446744073709551615:=by
     have hfull:18446744073709551616^(m+2)*18446744073709551616<nv (win l j (m+3))+18446744073709551616^(m+2):=by rw [← hpp]; omega
     have:=top_full hsp hwn hfull
     omega
    refine dI rfl qN ?_
    refine i9 pos hn' hs (m+2) qN qN qN ?_
    refine kH pos hn' (j+(m+2)) qN ?_
    refine dI rfl qN ?_
    have hg0:g≠0:=fun e=>by rw [e,Nat.zero_mul,Nat.add_zero] at d6; omega
    obtain ⟨g'',rfl⟩:∃ g'',g=g''+1:=⟨g - 1,by omega⟩
    refine cU rfl ((g'':Nat):Int) (by rw [show (((g''+1:Nat):Int) - 1)=((g'':Nat):Int) from by omega]; exact cJ ⟨by omega,by omega⟩) ?_
    refine gives_call (n:=m+2) pos hn' hs (by first | exact hv | exact .tail _ hv | exact .tail _ (.tail _ hv) | exact .tail _ (.tail _ (.tail _ hv)) | exact .tail _ (.tail _ (.tail _ (.tail _ hv)))) hn d3 hvl qN qN ?_
    intro l3 b3 c1 c2 c3 c4 c5
    replace c5:nv (win l3 j (m+3))+18446744073709551616^(m+3)*b3=nv (win l j (m+3))+nv vl:=c5
    rw [Nat.add_mul,Nat.one_mul] at d6 d8
    have hU1:nv (win l0 j (m+3))<(g''+1)*nv vl:=by rw [Nat.add_mul,Nat.one_mul]; omega
    have hw3:=win_lt c2 j (m+3) qN
    refine aU (g'',l3,1 - b3) ⟨by simp only; omega,by simp only; omega,c2,by simp only; omega,fun y hy=>by simp only; rw [c3 y qN,d5 y qN],?_,hU1,by simp only; omega⟩ (by simp only; omega) qF (by rw [set_set]; exact (aB (fun F hF=>by first | exact hF | exact .tail _ hF | exact .tail _ (.tail _ hF) | exact .tail _ (.tail _ (.tail _ hF)) | exact .tail _ (.tail _ (.tail _ (.tail _ hF))))))
    exact give_step c5 d6 c4
theorem digit_guess {K:bZ} {os:List Own} {fs:List bD} (pos:Nat) {u v:Value} {l0 vl:List Nat} {j m:Nat} (h:a8 os pos=some (jX u l0)) (hs:isSl u) (hv:(v,U vl)∈fs) (hn:vl.length=m+2)
  (hl0:Lim l0) (hvl:Lim vl) (hj:j+(m+3)≤l0.length) (ll:l0.length≤1099511627777) (htop:9223372036854775808≤vl.getD (m+1) 0)
  (hlt:nv (win l0 j (m+3))<18446744073709551616*nv vl) :
  VC Tryz.prog Tryz.f178.ntmps (takeC 4 (bodyOf Tryz.f178)) (argF 0 [wsl u j (m+3),v]) os fs (cutN (fun g:Nat=>([(0,wsl u j (m+3)),(1,v),(5,.int .i64 (vl.length:Nat)),(6,.int .u64 (g:Nat))],os,fs))
   (fun g=>g<18446744073709551616∧nv (win l0 j (m+3))<(g+1)*nv vl∧g*nv vl<nv (win l0 j (m+3))+2*nv vl) (retQ Tryz.prog Tryz.f178 K)):=by
 have hkn:=kn_of hl0 hvl hj hn htop hlt
 have hu2:=hl0.get (j+(m+2))
 have hu1:=hl0.get (j+(m+1))
 have hu0:=hl0.get (j+m)
 have hv1:=hvl.get (m+1)
 have hv2:=hvl.get m
 have hVlt:nv vl<18446744073709551616^(m+2):=by rw [← hn]; exact jF hvl
 have hVpos:0<nv vl:=by
  have:=hkn.vlo
  have:0<18446744073709551616^m*(18446744073709551616*vl.getD (m+1) 0):=Nat.mul_pos (Nat.pow_pos qE) qN
  omega
 refine aT hv fun _=>?_
 refine aY [0,1,2,3,4,5,6,7,8,9] [0,1,2,3,4,5,6,7,8,9] qK qK ?_
 refine i9 pos h hs (m+2) qN qN qN ?_
 refine kH pos h (j+(m+2)) qN ?_
 refine ar rfl qI ?_
 refine aQ (by first | exact hv | exact .tail _ hv | exact .tail _ (.tail _ hv) | exact .tail _ (.tail _ (.tail _ hv)) | exact .tail _ (.tail _ (.tail _ (.tail _ hv)))) (m+1) qN qN fun p=>?_
 refine bO qM ?_
 refine aD _ rfl (fun hc=>?_) (fun hc=>?_)
 ·refine aY [0,1,2,3,4,5,6,7,8,9,10,11,12,13,14,15,16,17,18,19] [0,1,2,3,4,5,6,7,8,9,10,11,12,13,14,15,16,18,17,19] qK qK ?_
  refine i9 pos h hs (m+2) qN qN qN ?_
  refine kH pos h (j+(m+2)) qN ?_
  refine ar rfl qI ?_
  refine i9 pos h hs (m+1) qN qN qN ?_
  refine kH pos h (j+(m+1)) qN ?_
  refine ar rfl qI ?_
  refine aQ (by first | exact hv | exact .tail _ hv | exact .tail _ (.tail _ hv) | exact .tail _ (.tail _ (.tail _ hv)) | exact .tail _ (.tail _ (.tail _ (.tail _ hv)))) (m+1) qN qN fun p=>?_
  refine bO qM ?_
  refine cH (wR (l0.getD (j+(m+2)) 0) (l0.getD (j+(m+1)) 0) (vl.getD (m+1) 0) qN hu1 hv1) ?_
  have hf:=hkn.first qN
  have hd:=Nat.div_add_mod (l0.getD (j+(m+2)) 0*18446744073709551616+l0.getD (j+(m+1)) 0) (vl.getD (m+1) 0)
  have hm:=Nat.mod_lt (l0.getD (j+(m+2)) 0*18446744073709551616+l0.getD (j+(m+1)) 0) (show 0<vl.getD (m+1) 0 by omega)
  refine loop_cut (Y:=Nat) 0 (fun g=>([(0,wsl u j (m+3)),(1,v),(5,.int .i64 (vl.length:Nat)),(7,.int .u64 (g:Nat))],os,fs))
   (fun g=>g<18446744073709551616∧nv (win l0 j (m+3))<(g+1)*nv vl∧g*nv vl<nv (win l0 j (m+3))+2*nv vl) ?_ ?_
  ·refine aO (X:=Nat×Nat) (fun x=>([(0,wsl u j (m+3)),(1,v),(5,.int .i64 (vl.length:Nat)),(7,.int .u64 (x.1:Nat)),(8,.int .u64 (x.2:Nat))],os,fs))
    (fun x=>x.1<18446744073709551616∧nv (win l0 j (m+3))<(x.1+1)*nv vl∧x.1*nv vl<nv (win l0 j (m+3))+2*nv vl∧x.2<18446744073709551616 ∧
     x.1*vl.getD (m+1) 0+x.2=l0.getD (j+(m+2)) 0*18446744073709551616+l0.getD (j+(m+1)) 0) (fun x=>x.1) rfl ?_ ?_
   ·exact aU ((l0.getD (j+(m+2)) 0*18446744073709551616+l0.getD (j+(m+1)) 0)/vl.getD (m+1) 0,(l0.getD (j+(m+2)) 0*18446744073709551616+l0.getD (j+(m+1)) 0)%vl.getD (m+1) 0) ⟨hf.2.2,hf.1,hf.2.1,by simp only; omega,by simp only; rw [Nat.mul_comm]; exact hd⟩ trivial qF (aB (fun F hF=>by first | exact hF | exact .tail _ hF | exact .tail _ (.tail _ hF) | exact .tail _ (.tail _ (.tail _ hF)) | exact .tail _ (.tail _ (.tail _ (.tail _ hF)))))
   ·clear hf hd hm
    rintro ⟨g,r⟩ ⟨d1,d2,d3,d4,d5⟩
    simp only at d1 d2 d3 d4 d5 ⊢
    refine ar rfl qI ?_
    refine aQ (by first | exact hv | exact .tail _ hv | exact .tail _ (.tail _ hv) | exact .tail _ (.tail _ (.tail _ hv)) | exact .tail _ (.tail _ (.tail _ (.tail _ hv)))) m qN qN fun p=>?_
    refine bO qM ?_
    refine cH (pH g (vl.getD m 0) d1 hv2) ?_
    have hdm:=Nat.div_add_mod (g*vl.getD m 0) 18446744073709551616
    have hml:=Nat.mod_lt (g*vl.getD m 0) (show 0<18446744073709551616 by decide)
    have hgo:∀ {q:Nat},g*vl.getD m 0=q→r*18446744073709551616+l0.getD (j+m) 0<q→nv (win l0 j (m+3))<g*nv vl:=fun he hq=>hkn.high d5 (by rw [he]; exact hq)
    obtain ⟨hi,hhi⟩:∃ hi,hi=g*vl.getD m 0/18446744073709551616:=⟨_,rfl⟩
    obtain ⟨lo,hlo⟩:∃ lo,lo=g*vl.getD m 0%18446744073709551616:=⟨_,rfl⟩
    rw [← hhi,← hlo] at hdm
    rw [← hlo] at hml
    rw [← hhi,← hlo]
    clear hhi hlo
    refine aD _ rfl (fun ha=>?_) (fun ha=>?_)
    ·exact aU g ⟨d1,d2,d3⟩ trivial qF (aB (fun F hF=>by first | exact hF | exact .tail _ hF | exact .tail _ (.tail _ hF) | exact .tail _ (.tail _ (.tail _ hF)) | exact .tail _ (.tail _ (.tail _ (.tail _ hF)))))
    ·refine aD _ rfl (fun hb=>?_) (fun hb=>?_)
     ·refine ar rfl qI ?_
      refine i9 pos h hs m qN qN qN ?_
      refine kH pos h (j+m) qN ?_
      refine aD _ rfl (fun hd=>?_) (fun hd=>?_)
      ·exact aU g ⟨d1,d2,d3⟩ trivial qF (aB (fun F hF=>by first | exact hF | exact .tail _ hF | exact .tail _ (.tail _ hF) | exact .tail _ (.tail _ (.tail _ hF)) | exact .tail _ (.tail _ (.tail _ (.tail _ hF)))))
      ·
       have hU2:=hgo hdm.symm qN
       have hg0:g≠0:=fun e=>by rw [e,Nat.zero_mul] at hU2; omega
       obtain ⟨g',rfl⟩:∃ g',g=g'+1:=⟨g - 1,by omega⟩
       refine cU rfl ((g':Nat):Int) (by rw [show (((g'+1:Nat):Int) - 1)=((g':Nat):Int) from by omega]; exact cJ ⟨by omega,by omega⟩) ?_
       refine ar rfl qI ?_
       refine aQ (by first | exact hv | exact .tail _ hv | exact .tail _ (.tail _ hv) | exact .tail _ (.tail _ (.tail _ hv)) | exact .tail _ (.tail _ (.tail _ (.tail _ hv)))) (m+1) qN qN fun p=>?_
       refine bO qM ?_
       have hO2:g'*nv vl<nv (win l0 j (m+3))+2*nv vl:=by rw [Nat.add_mul,Nat.one_mul] at d3; omega
       rw [Nat.add_mul,Nat.one_mul] at d5
       refine cU rfl (((r+vl.getD (m+1) 0)%18446744073709551616:Nat):Int) (by rw [fN]; omega) ?_
       refine aD _ rfl (fun he=>?_) (fun he=>?_)
       ·exact aU g' ⟨by omega,hU2,hO2⟩ trivial qF (aB (fun F hF=>by first | exact hF | exact .tail _ hF | exact .tail _ (.tail _ hF) | exact .tail _ (.tail _ (.tail _ hF)) | exact .tail _ (.tail _ (.tail _ (.tail _ hF)))))
       ·exact aU (g',(r+vl.getD (m+1) 0)%18446744073709551616) ⟨by simp only; omega,hU2,hO2,by simp only; omega,by simp only; omega⟩ (by simp only; omega) qF (aB (fun F hF=>by first | exact hF | exact .tail _ hF | exact .tail _ (.tail _ hF) | exact .tail _ (.tail _ (.tail _ hF)) | exact .tail _ (.tail _ (.tail _ (.tail _ hF)))))
     ·
      have hU2:=hgo hdm.symm qN
      have hg0:g≠0:=fun e=>by rw [e,Nat.zero_mul] at hU2; omega
      obtain ⟨g',rfl⟩:∃ g',g=g'+1:=⟨g - 1,by omega⟩
      refine cU rfl ((g':Nat):Int) (by rw [show (((g'+1:Nat):Int) - 1)=((g':Nat):Int) from by omega]; exact cJ ⟨by omega,by omega⟩) ?_
      refine ar rfl qI ?_
      refine aQ (by first | exact hv | exact .tail _ hv | exact .tail _ (.tail _ hv) | exact .tail _ (.tail _ (.tail _ hv)) | exact .tail _ (.tail _ (.tail _ (.tail _ hv)))) (m+1) qN qN fun p=>?_
      refine bO qM ?_
      have hO2:g'*nv vl<nv (win l0 j (m+3))+2*nv vl:=by rw [Nat.add_mul,Nat.one_mul] at d3; omega
      rw [Nat.add_mul,Nat.one_mul] at d5
      refine cU rfl (((r+vl.getD (m+1) 0)%18446744073709551616:Nat):Int) (by rw [fN]; omega) ?_
      refine aD _ rfl (fun he=>?_) (fun he=>?_)
      ·exact aU g' ⟨by omega,hU2,hO2⟩ trivial qF (aB (fun F hF=>by first | exact hF | exact .tail _ hF | exact .tail _ (.tail _ hF) | exact .tail _ (.tail _ (.tail _ hF)) | exact .tail _ (.tail _ (.tail _ (.tail _ hF)))))
      ·exact aU (g',(r+vl.getD (m+1) 0)%18446744073709551616) ⟨by simp only; omega,hU2,hO2,by simp only; omega,by simp only; omega⟩ (by simp only; omega) qF (aB (fun F hF=>by first | exact hF | exact .tail _ hF | exact .tail _ (.tail _ hF) | exact .tail _ (.tail _ (.tail _ hF)) | exact .tail _ (.tail _ (.tail _ (.tail _ hF)))))
  ·rintro g ⟨hB,hU,hO⟩
   exact aU g ⟨hB,hU,hO⟩ trivial qF (aB (fun F hF=>by first | exact hF | exact .tail _ hF | exact .tail _ (.tail _ hF) | exact .tail _ (.tail _ (.tail _ hF)) | exact .tail _ (.tail _ (.tail _ (.tail _ hF)))))
 ·have hU:nv (win l0 j (m+3))<(18446744073709551615+1)*nv vl:=hlt
  have hO:=hkn.max qN
  have hB:18446744073709551615<18446744073709551616:=by decide
  exact aU 18446744073709551615 ⟨hB,hU,hO⟩ trivial qF (aB (fun F hF=>by first | exact hF | exact .tail _ hF | exact .tail _ (.tail _ hF) | exact .tail _ (.tail _ (.tail _ hF)) | exact .tail _ (.tail _ (.tail _ (.tail _ hF)))))
theorem digit_call {K:bZ} {os:List Own} {fs:List bD} (pos:Nat) {u v:Value} {l0 vl:List Nat} {j m:Nat} (h:a8 os pos=some (jX u l0)) (hs:isSl u) (hv:(v,U vl)∈fs) (hn:vl.length=m+2)
  (hl0:Lim l0) (hvl:Lim vl) (hj:j+(m+3)≤l0.length) (ll:l0.length≤1099511627777) (htop:9223372036854775808≤vl.getD (m+1) 0)
  (hlt:nv (win l0 j (m+3))<18446744073709551616*nv vl)
  (k:∀ l' g,l'.length=l0.length→Lim l'→(∀ x,x<j∨j+(m+2)<x→l'.getD x 0=l0.getD x 0)→g<18446744073709551616→nv (win l' j (m+3))+g*nv vl=nv (win l0 j (m+3)) →
   nv (win l' j (m+3))<nv vl→K (.int .u64 (g:Int)) (setOwn os pos (jX u l')) fs):CallK Tryz.prog false (.func (.func 178) #[] #[]) [wsl u j (m+3),v] os fs K :=
 inline_cut 4 (fun g:Nat=>([(0,wsl u j (m+3)),(1,v),(5,.int .i64 (vl.length:Nat)),(6,.int .u64 (g:Nat))],os,fs)) (fun g=>g<18446744073709551616∧nv (win l0 j (m+3))<(g+1)*nv vl∧g*nv vl<nv (win l0 j (m+3))+2*nv vl) Tryz.func178 qK rfl qK (Nat.le_of_ble_eq_true rfl)
  (digit_guess pos h hs hv hn hl0 hvl hj ll htop hlt) (fun g hg=>digit_tail pos h hs hv hn hl0 hvl hj ll htop hlt k g hg.1 hg.2.1 hg.2.2)
theorem copy_rule {P:Program} {t ty e:TypeId} {size bytes:Nat} {a b:Value} {n m:Nat} {el el':Nat→Dat} {os:List Own} {fs:List bD} {K:bZ} [ht:TSl P t e size] [he:TEl P e size bytes] (pos:Nat)
  (h:a8 os pos=some (bE a size n el)) (hs:isSl a) (hb:Knw os fs b (.sl size m el')) (hm:m≤n)
  (k:K (.int .i64 m) (setOwn os pos (bE a size n (fun i=>if i<m then el' i else el i))) fs):CopyK P [t,t] ty a b os fs K:=by
 refine ⟨fun G w hw=>?_⟩
 obtain ⟨ti,z,i1,rfl,i3,i4,i5,i6⟩:=he.info
 obtain ⟨ba,bc,news,rfl,n1,n2,n3,n4⟩:=src_cells (P:=P) (hb G w hw)
 have hmin:Nat.min m n=m:=Nat.min_eq_left hm
 rcases hw.own _ (bF h) 0 Nat.zero_lt_one with ⟨h1,h2⟩ | ⟨r,cap,h1,h2⟩ | ⟨r,h1,_⟩ | ⟨_,_,_,_,_,_,⟨r,_,_,h1,_⟩ | ⟨r,_,_,_,_,_,_,h1,_⟩⟩
 rotate_right
 ·obtain ⟨_,_,_,rfl⟩:=hs; simp [bE] at h1
 rotate_right
 ·obtain ⟨_,_,_,rfl⟩:=hs; simp [bE] at h1
 ·simp only [bE] at h1 h2
  subst h1 h2
  have hm0:m=0:=by omega
  subst hm0
  have hn:news=[]:=List.eq_nil_of_length_eq_zero (by simpa using n1)
  subst hn
  have hrun:(Builtin.copy_ [t,t].toArray ty #[.slice none 0 0,.slice ba 0 bc]).run P w=.ok (.int .i64 (0:Nat)) w:=by
   have:=n3 w fun _=>rfl
   simp [Builtin.copy_,run_underlying ht.und,sizeOf,typeInfo,i1,Builtin.lenOf,this,goInt]
  rw [iT hrun]
  exact ⟨_,fs,k,hw.step h rfl rfl rfl (Nat.le_refl _) (fun _ _ _=>rfl) (fun b ⟨x,_,hxb⟩=>by simp [bE,l8] at hxb) (fun i j b hi hj _ _=>by simp only [bE] at hi hj; omega) fun mono x hx=>.inl ⟨rfl,rfl⟩⟩
 ·simp only [bE] at h1 h2
  subst h1
  obtain ⟨b1,b2,b3,cur,t0,b4,b5,b6⟩:=h2
  have hfit:news.length≤cur.size:=by
   rw [n1,b5]
   exact Nat.mul_le_mul_right _ qN
  have hst:=run_storeCells_at P r 0 t0 news 0 cur w b4 (by simpa using hfit) n2
  simp only [Nat.add_zero] at hst
  have hrun:(Builtin.copy_ [t,t].toArray ty #[.slice (some ⟨r,0,none⟩) n cap,.slice ba m bc]).run P w =
    .ok (.int .i64 (m:Nat)) (w.setRow r (cur.toList.take 0++news++cur.toList.drop (0+news.length)).toArray):=by
   have:=n3 w fun _=>rfl
   simp only [Builtin.copy_]
   simp [run_underlying ht.und,sizeOf,typeInfo,i1,Builtin.lenOf,hmin,this,goInt,hst]
  rw [iT hrun]
  refine ⟨_,fs,k,hw.step h rfl rfl rfl qP (fun q hq hno=>setRow_other w r q _ fun e=>hno ⟨0,Nat.zero_lt_one,by rw [e]; rfl⟩)
   (fun b ⟨x,hx,hxb⟩=>.inl ⟨0,Nat.zero_lt_one,hxb⟩) (fun i j b hi hj _ _=>by simp only [bE] at hi hj; omega) fun mono x hx=>?_⟩
  refine .inr (.inl ⟨r,cap,rfl,b1,b2,b3,_,t0,setRow_heap w r cur _ t0 _ b4,?_,fun y hy=>?_⟩)
  ·simp only [List.size_toArray,List.length_append,List.length_take,List.length_drop,Array.length_toList,bE]
   omega
  ·simp only [bE] at hy ⊢
   by_cases hym:y<m
   ·obtain ⟨cs,c1,c2,c3⟩:=n4 y hym
    refine ⟨cs,by simp only [hym,if_true]; exact mono _ _ c1,c2,fun j hj=>?_⟩
    have hlt:y*ti.size+j<m*ti.size:=by
     have:(y+1)*ti.size≤m*ti.size:=Nat.mul_le_mul_right _ hym
     rw [Nat.add_mul] at this
     omega
    rw [List.getElem?_toArray,List.append_assoc,List.take_zero,List.nil_append,List.getElem?_append_left qN,c3 j hj]
   ·obtain ⟨cs,c1,c2,c3⟩:=b6 y hy
    refine ⟨cs,by simp only [hym,if_false]; exact mono _ _ c1,c2,fun j hj=>?_⟩
    have hge:m*ti.size≤y*ti.size:=Nat.mul_le_mul_right _ qN
    rw [List.getElem?_toArray,List.append_assoc,List.take_zero,List.nil_append,List.getElem?_append_right qN,List.getElem?_drop,← c3 j hj,Array.getElem?_toList]
    congr 1
    omega
 ·obtain ⟨q1,q2,q3,rfl⟩:=hs
  simp [bE] at h1
theorem copy_U {P:Program} {t ty e:TypeId} {bytes:Nat} {a b:Value} {l m:List Nat} {os:List Own} {fs:List bD} {K:bZ} [ht:TSl P t e 1] [he:TEl P e 1 bytes] (pos:Nat)
  (h:a8 os pos=some (jX a l)) (hs:isSl a) (hb:Knw os fs b (U m)) (hm:m.length≤l.length)
  (k:K (.int .i64 m.length) (setOwn os pos (jX a (m++l.drop m.length))) fs):CopyK P [t,t] ty a b os fs K:=by
 have h1:=copy_rule (P:=P) (t:=t) (ty:=ty) (K:=fun u os' fs'=>∃ os'' fs'',Seals os' fs' os'' fs''∧K u os'' fs'') pos h hs hb hm
 refine ⟨Dyn.sealed (h1 ⟨_,_,?_,k⟩).out⟩
 have h2:=Seals.own_cong (os:=setOwn os pos (bE a 1 l.length (fun i=>if i<m.length then .one (.int .u64 (m.getD i 0:Nat)) else UE l i))) (fs:=fs) pos (n':=(m++l.drop m.length).length) (UE (m++l.drop m.length)) (l4 h) (by simp; omega) fun i hi=>by
  simp only [UE,gE]
  by_cases hil:i<m.length
  ·rw [if_pos hil,List.getElem?_append_left hil]
  ·rw [if_neg hil,List.getElem?_append_right qN,List.getElem?_drop,show m.length+(i - m.length)=i by omega]
 rw [set_set] at h2
 exact h2
theorem take_congr {l l':List Nat} {i:Nat} (hl:l'.length=l.length) (h:∀ x,x<i→l'.getD x 0=l.getD x 0):l'.take i=l.take i:=by
 refine List.ext_getElem (by simp [hl]) fun n h1 h2=>?_
 simp only [List.length_take] at h1 h2
 have:=h n qN
 simpa [gE,show n<l.length by omega,show n<l'.length by omega] using this
theorem drop_congr {l l':List Nat} {i:Nat} (hl:l'.length=l.length) (h:∀ x,i≤x→l'.getD x 0=l.getD x 0):l'.drop i=l.drop i:=by
 refine List.ext_getElem (by simp [hl]) fun n h1 h2=>?_
 simp only [List.length_drop] at h1 h2
 have:=h (i+n) qN
 simpa [gE,show i+n<l.length by omega,show i+n<l'.length by omega] using this
theorem sZ (l:List Nat) (i:Nat) (hi:i≤l.length):nv l=nv (l.take i)+18446744073709551616^i*nv (l.drop i):=by
 have:=iX (l.take i) (l.drop i)
 rwa [List.take_append_drop,List.length_take,Nat.min_eq_left hi] at this
theorem mO (l:List Nat) (i n:Nat) (hi:i+n≤l.length):nv (l.drop i)=nv (win l i n)+18446744073709551616^n*nv (l.drop (i+n)):=by
 have:=sZ (l.drop i) n (by simp; omega)
 rwa [List.drop_drop] at this
theorem gP (l:List Nat) (i:Nat) (hi:i<l.length):nv (l.drop i)=l.getD i 0+18446744073709551616*nv (l.drop (i+1)):=by
 rw [List.drop_eq_getElem_cons hi,nv]; simp [gE,hi]
theorem lims_len {n k:Nat} (h1:n<18446744073709551616^(k+1)) (h2:18446744073709551616^k≤n):(bT n).length=k+1:=by
 have:=c8 h1
 have h3:=jF (a0 n)
 rw [cK] at h3
 refine Nat.le_antisymm this (Nat.le_of_not_lt fun h=>?_)
 have:=Nat.pow_le_pow_right (show 0<18446744073709551616 by decide) (show (bT n).length≤k by omega)
 omega
theorem lims_get {n k:Nat} (h1:n<18446744073709551616^(k+1)) (h2:18446744073709551616^k≤n):(bT n).getD k 0=n/18446744073709551616^k:=by
 have hl:=lims_len h1 h2
 have h:=sZ (bT n) k qN
 rw [gP _ k qN,List.drop_of_length_le qN,cK] at h
 have h3:=jF ((a0 n).take k)
 rw [List.length_take,Nat.min_eq_left qN] at h3
 generalize nv (List.take k (bT n))=z at *
 rw [show nv []=0 from rfl,Nat.mul_zero,Nat.add_zero] at h
 generalize (bT n).getD k 0=y at *
 have hp:0<18446744073709551616^k:=Nat.pow_pos qE
 generalize 18446744073709551616^k=Q at *
 rw [h,Nat.add_mul_div_left _ _ hp,Nat.div_eq_of_lt h3,Nat.zero_add]
theorem long_step {ul l' ql:List Nat} {i m g V X:Nat} (hlen:l'.length=ul.length) (hi:i+(m+3)≤ul.length) (hq:i<ql.length) (hul:Lim ul)
  (hsame:∀ x,x<i∨i+(m+2)<x→l'.getD x 0=ul.getD x 0) (h1:nv (win l' i (m+3))+g*V=nv (win ul i (m+3))) (h2:nv (win l' i (m+3))<V) (hV:V<18446744073709551616^(m+2))
  (h3:nv ul+nv (ql.drop (i+1))*18446744073709551616^(i+1)*V=X) (h4:nv (ul.drop (i+1))<V) :
  nv l'+nv ((ql.set i g).drop i)*18446744073709551616^i*V=X∧nv (l'.drop i)<V:=by
 have e0:nv (ul.drop (i+(m+3)))=0:=by
  have:=mO ul (i+1) (m+2) qN
  rw [show i+1+(m+2)=i+(m+3) by omega] at this
  generalize nv (ul.drop (i+(m+3)))=z at *
  rcases Nat.eq_zero_or_pos z with hz | hz
  ·exact hz
  ·have:=Nat.le_mul_of_pos_right (18446744073709551616^(m+2)) hz
   generalize 18446744073709551616^(m+2)=Q at *
   omega
 have e1:l'.drop (i+(m+3))=ul.drop (i+(m+3)):=drop_congr hlen fun x hx=>hsame x qN
 have e2:l'.take i=ul.take i:=take_congr hlen fun x hx=>hsame x qN
 have d1:=mO ul i (m+3) hi
 have d2:=mO l' i (m+3) qN
 rw [e1,e0,Nat.mul_zero,Nat.add_zero] at d2
 rw [e0,Nat.mul_zero,Nat.add_zero] at d1
 have s1:=sZ ul i qN
 have s2:=sZ l' i qN
 rw [e2] at s2
 rw [d1] at s1
 rw [d2] at s2
 refine ⟨?_,by rw [d2]; exact h2⟩
 have q1:nv ((ql.set i g).drop i)=g+18446744073709551616*nv (ql.drop (i+1)):=by
  rw [gP _ i (by simp; omega),List.drop_set_of_lt qN]; simp [gE,hq]
 rw [q1,← h3,s1,s2,← h1]
 generalize nv (win l' i (m+3))=W
 generalize nv (ql.drop (i+1))=Y
 generalize nv (List.take i ul)=T
 rw [Nat.pow_succ]
 generalize 18446744073709551616^i=Q
 have a1:(g+18446744073709551616*Y)*Q*V=Q*(g*V)+Y*(Q*18446744073709551616)*V:=by
  rw [Nat.add_mul,Nat.add_mul,Nat.mul_right_comm g,Nat.mul_comm (g*V),Nat.mul_comm 18446744073709551616 Y,Nat.mul_assoc Y,Nat.mul_comm 18446744073709551616 Q]
 rw [a1,Nat.mul_add]
 omega
theorem win_drop_lt {l:List Nat} {i m V:Nat} (hl:Lim l) (hi:i+(m+3)≤l.length) (h:nv (l.drop (i+1))<V):nv (win l i (m+3))<18446744073709551616*V:=by
 have d1:=mO l i (m+3) hi
 have d2:=gP l i qN
 have:=hl.get i
 generalize 18446744073709551616^(m+3)*nv (l.drop (i+(m+3)))=Z at *
 omega
theorem far_nat {s:Nat} (h:s≤64):far (s:Int)=s:=by unfold far; omega
theorem shifted {b:List Nat} {m k:Nat} (hb:Lim b) (hn:b.length=m+2) (h:IsLen (b.getD (m+1) 0) k) (h0:b.getD (m+1) 0≠0) :
  nv b*2^(64 - k)<18446744073709551616^(m+2)∧9223372036854775808*18446744073709551616^(m+1)≤nv b*2^(64 - k):=by
 obtain ⟨t1,t2⟩:=norm_top h h0
 have hk:=h.2.2
 have hlt:=h.1
 have hs:=sZ b (m+1) qN
 rw [gP _ _ qN,List.drop_of_length_le qN,show nv []=0 from rfl,Nat.mul_zero] at hs
 simp only [Nat.add_zero] at hs
 have h3:=jF (hb.take (m+1))
 rw [List.length_take,Nat.min_eq_left qN] at h3
 generalize b.getD (m+1) 0=t at *
 generalize nv (b.take (m+1))=z at *
 have hp:(t+1)*2^(64 - k)≤18446744073709551616:=by
  have:=Nat.mul_le_mul_right (2^(64 - k)) (Nat.succ_le_of_lt hlt)
  rwa [← Nat.pow_add,show k+(64 - k)=64 by omega] at this
 have hpp:18446744073709551616^(m+2)=18446744073709551616^(m+1)*18446744073709551616:=Nat.pow_succ ..
 have hsp:0<2^(64 - k):=Nat.pow_pos qE
 rw [hpp,hs]
 generalize 18446744073709551616^(m+1)=Q at *
 generalize 2^(64 - k)=S at *
 constructor
 ·have a:(z+Q*t)*S<(Q*(t+1))*S:=Nat.mul_lt_mul_of_pos_right (by rw [Nat.mul_add]; omega) hsp
  have b:Q*(t+1)*S≤Q*18446744073709551616:=by rw [Nat.mul_assoc]; exact Nat.mul_le_mul_left _ hp
  omega
 ·have a:9223372036854775808*Q≤Q*(t*S):=by rw [Nat.mul_comm]; exact Nat.mul_le_mul_left _ t2
  have b:Q*(t*S)≤(z+Q*t)*S:=by rw [← Nat.mul_assoc]; exact Nat.mul_le_mul_right _ qN
  omega
theorem long_meets (va vb:Value) (a b:List Nat) (ha:Lim a) (hb:Lim b) (m:Nat) (hn:b.length=m+2) (h0:b.getD (m+1) 0≠0) (hab:b.length≤a.length) (la:a.length≤274877906944) :
  Meets Tryz.prog 159 [va,vb] [(va,U a),(vb,U b)] (fun r os fs=>os=[]∧∃ q s,r=.tuple #[q,s,.bool true]∧fs=[(q,U (bT (nv a/nv b))),(s,U (bT (nv a%nv b)))]):=by
 refine mV Tryz.func159 ?_
 have hbt:=hb.get (m+1)
 refine aT qM fun _=>?_
 refine ar rfl qI ?_
 refine aQ qM (m+1) qN qN fun p=>?_
 refine bO qM ?_
 refine cF (lz64_meets (b.getD (m+1) 0) hbt) ?_
 rintro _ _ _ ⟨rfl,rfl,k,rfl,hk⟩
 obtain ⟨v1,v2⟩:=shifted hb hn hk h0
 have hs64:64 - k≤64:=by omega
 have hS:0<2^(64 - k):=Nat.pow_pos qE
 have hS64:2^(64 - k)≤18446744073709551616:=Nat.pow_le_pow_right (n:=2) qE hs64
 have halt:=jF ha
 have hpm:18446744073709551616^(m+1)≤nv b*2^(64 - k):=by omega
 have hvlen:=lims_len v1 hpm
 have hvtop:9223372036854775808≤(bT (nv b*2^(64 - k))).getD (m+1) 0:=by
  rw [lims_get v1 hpm,Nat.le_div_iff_mul_le (Nat.pow_pos qE)]; exact v2
 have hbge:18446744073709551616^(m+1)≤nv b:=by
  have hs:=sZ b (m+1) qN
  rw [gP _ _ qN] at hs
  have:=Nat.le_mul_of_pos_right (18446744073709551616^(m+1)) (show 0<b.getD (m+1) 0+18446744073709551616*nv (b.drop (m+1+1)) by omega)
  omega
 have hX:nv a*2^(64 - k)<18446744073709551616^(a.length+1):=by
  rw [Nat.pow_succ]
  exact Nat.lt_of_lt_of_le (Nat.mul_lt_mul_of_pos_right halt hS) (Nat.mul_le_mul_left _ hS64)
 have hXl:=c8 hX
 obtain ⟨c,hc⟩:∃ c,c+(m+1)=a.length:=⟨a.length - (m+1),by omega⟩
 have hXc:nv a*2^(64 - k)<18446744073709551616^c*(nv b*2^(64 - k)):=by
  rw [← Nat.mul_assoc]
  refine Nat.mul_lt_mul_of_pos_right (Nat.lt_of_lt_of_le halt ?_) hS
  rw [← hc,Nat.pow_add]
  exact Nat.mul_le_mul_left _ hbge
 have hfin1:nv a*2^(64 - k)/(nv b*2^(64 - k))=nv a/nv b:=Nat.mul_div_mul_right _ _ hS
 have hfin2:nv a*2^(64 - k)%(nv b*2^(64 - k))=nv a%nv b*2^(64 - k):=Nat.mul_mod_mul_right _ _ _
 generalize 64 - k=s at *
 refine cG (p5 vb b (s:Int) hb qN) fun v=>?_
 refine aT qM fun _=>?_
 refine ar rfl qI ?_
 refine o6 (a.length+1) qN qN qN qN fun vu hvu=>?_
 refine cG (p5 va a (s:Int) ha qN) fun vx=>?_
 rw [far_nat hs64]
 refine copy_U 0 rfl hvu (bC qM) (by simp; omega) ?_
 obtain ⟨ul,hul⟩:∃ ul,ul=bT (nv a*2^s)++(List.replicate (a.length+1) 0).drop (bT (nv a*2^s)).length:=⟨_,rfl⟩
 have hull:ul.length=a.length+1:=by rw [hul]; simp; omega
 have hulv:nv ul=nv a*2^s:=by
  rw [hul,iX,cK,List.drop_replicate,nT,Nat.mul_zero,Nat.add_zero]
 have hulL:Lim ul:=by rw [hul]; exact (a0 _).append ((Lim.replicate _).drop _)
 rw [← hul]
 clear hul
 have hVL:=a0 (nv b*2^s)
 have hVn:=cK (nv b*2^s)
 generalize bT (nv b*2^s)=vl at hvlen hvtop hVL hVn ⊢
 have hVpos:0<nv b*2^s:=Nat.lt_of_lt_of_le (Nat.pow_pos qE) hpm
 rw [← hVn] at v1 hXc hfin1 hfin2 hVpos
 refine aT qM fun _=>?_
 refine len_U 0 rfl hvu fun _=>?_
 refine ar rfl qI ?_
 refine o6 c qN qN qN qN fun vq hvq=>?_
 refine len_U 0 rfl hvq fun _=>?_
 rw [List.length_replicate]
 refine ar rfl qI ?_
 refine aO (X:=Nat×List Nat×List Nat) (fun x=>([(7,.int .i64 (s:Nat)),(8,v),(9,vu),(10,.int .i64 (vl.length:Nat)),(11,vq),(12,.int .i64 ((x.1:Int) - 1))],[jX vq x.2.2,jX vu x.2.1],[(v,U vl)]))
  (fun x=>x.1≤c∧x.2.1.length=a.length+1∧Lim x.2.1∧x.2.2.length=c∧Lim x.2.2∧nv x.2.1+nv (x.2.2.drop x.1)*18446744073709551616^x.1*nv vl=nv a*2^s∧nv (x.2.1.drop x.1)<nv vl) (fun x=>x.1) rfl ?_ ?_
 ·refine aU (c,ul,List.replicate c 0) ⟨Nat.le_refl _,hull,hulL,by simp,Lim.replicate _,?_,?_⟩ trivial qF (aB qS)
  ·simp only
   rw [List.drop_of_length_le qP,show nv []=0 from rfl,Nat.zero_mul,Nat.zero_mul,Nat.add_zero]; exact hulv
  ·simp only
   have hs:=sZ ul c qN
   rw [hulv] at hs
   rw [hs] at hXc
   refine Nat.lt_of_mul_lt_mul_left (a:=18446744073709551616^c) ?_
   generalize 18446744073709551616^c*nv vl=Z at *
   generalize 18446744073709551616^c*nv (ul.drop c)=Z' at *
   omega
 ·rintro ⟨k,ul,ql⟩ ⟨h1,h2,h3,h4,h5,h6,h7⟩
  simp only at h1 h2 h3 h4 h5 h6 h7 ⊢
  refine aD _ rfl (fun hc=>?_) (fun hc=>?_)
  ·obtain ⟨i,rfl⟩:∃ i,k=i+1:=⟨k - 1,by omega⟩
   refine ar rfl qI ?_
   refine ar rfl qI ?_
   refine ar rfl qI ?_
   refine ar rfl qI ?_
   refine win_rule 1 rfl hvu i (m+3) qN qN qN qN qN ?_
   refine digit_call 1 rfl hvu qM hvlen h3 hVL qN qN hvtop (win_drop_lt h3 qN h7) ?_
   intro l' g e1 e2 e3 e4 e5 e6
   have hst:=long_step e1 qN qN h3 e3 e5 e6 v1 h6 h7
   refine eG 0 rfl hvq i qN qN ?_
   refine eV 0 rfl _ rfl qN ?_
   refine ar rfl qI ?_
   exact aU (i,l',ql.set i g) ⟨by simp only; omega,by simp only; omega,e2,by simp [h4],h5.set _ e4,hst.1,hst.2⟩ (by simp only; omega) qF (aB qS)
  ·have hk0:k=0:=by omega
   subst hk0
   rw [List.drop_zero,Nat.pow_zero,Nat.mul_one] at h6
   rw [List.drop_zero] at h7
   have hdm:nv a/nv b=nv ql∧nv a%nv b*2^s=nv ul:=by
    rw [← hfin1,← hfin2,← h6,Nat.mul_comm]
    exact ⟨by rw [Nat.add_comm,Nat.mul_add_div hVpos,Nat.div_eq_of_lt h7,Nat.add_zero],by rw [Nat.add_mul_mod_self_left,Nat.mod_eq_of_lt h7]⟩
   refine dK (cO vq ql) (Seals.U 0 rfl hvq) qS ?_
   rintro q _ _ ⟨rfl,rfl⟩
   refine dK (shr_meets vu ul (s:Int) h3 qN) (Seals.U 0 rfl hvu) qS ?_
   rintro r _ _ ⟨rfl,rfl⟩
   refine fin ⟨rfl,q,r,rfl,rfl⟩ (a7 ((bC qM).cast ?_) (a7 ((bC qM).cast ?_) (aH _ _)))
   ·rw [dE h5,hdm.1]
   ·rw [far_nat hs64,← hdm.2,Nat.mul_div_cancel _ hS]
theorem tK (va vb:Value) (a b:List Nat) (ha:Lim a) (hb:Lim b) (la:a.length≤274877906944) (lb:b.length≤274877906944) (h0:nv b≠0) :
  Meets Tryz.prog 137 [va,vb] [(va,U a),(vb,U b)] (fun r os fs=>os=[]∧∃ q s,r=.tuple #[q,s,.bool true]∧fs=[(q,U (bT (nv a/nv b))),(s,U (bT (nv a%nv b)))]):=by
 refine mV Tryz.func137 ?_
 refine cG (cO va a) fun x=>?_
 refine cG (cO vb b) fun y=>?_
 have hxl:=jR a
 have hyl:=jR b
 rw [dE ha] at hxl ⊢
 rw [dE hb] at hyl ⊢
 have hyt:=lims_top h0
 have hxv:=cK (nv a)
 have hyv:=cK (nv b)
 have hxL:=a0 (nv a)
 have hxc:bT (nv (bT (nv a)))=bT (nv a):=by rw [cK]
 have hyL:=a0 (nv b)
 generalize bT (nv a)=xl at hxl hxv hxL hxc ⊢
 generalize bT (nv b)=yl at hyl hyv hyL hyt ⊢
 obtain ⟨yr,yt,hyr,hyt0,hyt1⟩:=hyt
 have hylen:yl.length=yr.length+1:=by rw [hyr]; simp
 have hyget:yl.getD yr.length 0=yt:=by rw [hyr]; simp [gE]
 rw [← hxv,← hyv]
 rw [← hyv] at h0
 clear hxv hyv hyr ha hb
 refine aT qM fun _=>?_
 refine cX rfl qN ?_
 refine cH (oG x y xl yl hxL hyL) ?_
 refine aD _ rfl (fun hc=>?_) (fun hc=>?_)
 ·have hlt:nv xl<nv yl:=by unfold wW at hc; split at hc <;> (try split at hc) <;> omega
  refine cF (pR x xl qN) ?_
  rintro r _ _ ⟨rfl,hr,rfl⟩
  refine fin ⟨rfl,.slice none 0 0,r,rfl,rfl⟩ (aA (Seals.U 0 rfl hr) (a7 ?_ (a7 ((bC qM).cast ?_) (aH _ _))))
  ·rw [Nat.div_eq_of_lt hlt,bR]; exact dM 1 _
  ·rw [Nat.mod_eq_of_lt hlt,hxc]
 ·have hge:nv yl≤nv xl:=by unfold wW at hc; split at hc <;> (try split at hc) <;> omega
  have hxlt:=jF hxL
  have hlen:yl.length≤xl.length:=by
   have hs:=sZ yl yr.length qN
   rw [gP _ _ qN,hyget] at hs
   have:=Nat.le_mul_of_pos_right (18446744073709551616^yr.length) (show 0<yt+18446744073709551616*nv (yl.drop (yr.length+1)) by omega)
   refine Nat.le_of_not_lt fun h=>?_
   have:=Nat.pow_le_pow_right (show 0<18446744073709551616 by decide) (show xl.length≤yr.length by omega)
   generalize 18446744073709551616^yr.length=Q1 at *
   generalize 18446744073709551616^xl.length=Q2 at *
   omega
  refine aT qM fun _=>?_
  refine aD _ rfl (fun h1=>?_) (fun h1=>?_)
  ·have hr0:yr.length=0:=by omega
   have hyv:nv yl=yt:=by
    have hs:=gP yl 0 qN
    rw [List.drop_zero,List.drop_of_length_le qN,show nv []=0 from rfl,Nat.mul_zero] at hs
    rw [hr0] at hyget
    rw [hs,hyget]; rfl
   refine aQ qM 0 rfl qN fun p=>?_
   refine bO qM ?_
   rw [hr0] at hyget
   rw [hyget]
   refine cF (short_meets x xl yt hxL qN hyt1 hyt0) ?_
   rintro _ _ _ ⟨rfl,q,r,rfl,rfl⟩
   rw [hyv]
   exact fin ⟨rfl,q,r,rfl,rfl⟩ (aB qS)
  ·obtain ⟨m,hm⟩:∃ m,yr.length=m+1:=⟨yr.length - 1,by omega⟩
   rw [hm] at hyget
   refine cF (long_meets x y xl yl hxL hyL m qN (by rw [hyget]; exact hyt0) hlen qN) ?_
   rintro _ _ _ ⟨rfl,q,r,rfl,rfl⟩
   exact fin ⟨rfl,q,r,rfl,rfl⟩ (aB qS)
theorem gcd_meets (va vb:Value) (a b:List Nat) (ha:Lim a) (hb:Lim b) (la:a.length≤274877906944) (lb:b.length≤274877906944) :
  Meets Tryz.prog 206 [va,vb] [(va,U a),(vb,U b)] (fun r os fs=>os=[]∧fs=[(r,U (bT (Nat.gcd (nv a) (nv b))))]):=by
 refine mV Tryz.func206 ?_
 refine cG (iM va a ha qN) fun x=>?_
 refine cG (iM vb b hb qN) fun y=>?_
 have hal:=c8 (jF ha)
 have hbl:=c8 (jF hb)
 refine aO (X:=(Value×Nat)×(Value×Nat)) (fun x=>([(0,x.1.1),(1,x.2.1)],[],[(x.1.1,U (bT x.1.2)),(x.2.1,U (bT x.2.2))]))
  (fun x=>(bT x.1.2).length≤274877906944∧(bT x.2.2).length≤274877906944∧Nat.gcd x.1.2 x.2.2=Nat.gcd (nv a) (nv b)) (fun x=>x.2.2) rfl ?_ ?_
 ·exact aU ((x,nv a),(y,nv b)) ⟨by simp only; omega,by simp only; omega,rfl⟩ trivial qF (aB qS)
 ·rintro ⟨⟨x,n⟩,⟨y,d⟩⟩ ⟨h1,h2,h3⟩
  simp only at h1 h2 h3 ⊢
  refine aT qM fun _=>?_
  refine aD _ rfl (fun hc=>?_) (fun hc=>?_)
  ·have hd:d≠0:=fun e=>by rw [e,bR] at hc; simp at hc
   refine cF (tK x y (bT n) (bT d) (a0 _) (a0 _) h1 h2 (by rwa [cK])) ?_
   rintro _ _ _ ⟨rfl,q,r,rfl,rfl⟩
   have hm:=Nat.mod_lt n (Nat.pos_of_ne_zero hd)
   refine aU ((y,d),(r,n%d)) ⟨h2,?_,?_⟩ hm qF (a7 (bC qM) (a7 ((bC qM).cast ?_) (aH _ _)))
   ·have hb:=c8 (Nat.lt_trans hm (by have:=jF (a0 d); rwa [cK] at this))
    simp only; omega
   ·simp only; rw [Nat.gcd_comm,← Nat.gcd_rec,Nat.gcd_comm]; exact h3
   ·rw [cK,cK]
  ·have hd:d=0:=by
    have:(bT d).length=0:=by omega
    exact iI.1 (List.eq_nil_of_length_eq_zero this)
   subst hd
   refine fin ⟨rfl,rfl⟩ (a7 ((bC qM).cast ?_) (aH _ _))
   rw [← h3,Nat.gcd_zero_right]
def I (s:Bool) (l:List Nat):Dat:=.cat (.one (.bool s)) (U l)
def iv (s:Bool) (l:List Nat):Int:=if s then -(nv l:Int) else (nv l:Int)
def zd (x:Int):Dat:=I (decide (x<0)) (bT x.natAbs)
theorem aN (s:Bool) (l:List Nat):jC Tryz.prog 26 (I s l):=(inferInstance:TAgg Tryz.prog 26 2)
instance tzI:m4 Tryz.prog 26 (I false []):=(inferInstance:m4 Tryz.prog 26 (.cat (.one (.bool false)) (.sl 1 0 fun i=>.one (.int .u64 ((([]:List Nat).getD i 0:Nat):Int)))))
theorem dH (l:List Nat):jC Tryz.prog 24 (U l):=(inferInstance:mJ Tryz.prog 24)
theorem zd_of (s:Bool) (n:Nat):I (s&&decide (0<n)) (bT n)=zd (if s then -(n:Int) else (n:Int)):=by
 unfold zd
 cases s with
 | false=>simp only [Bool.false_and,Bool.false_eq_true,if_false,Int.natAbs_natCast]; rw [decide_eq_false (show ¬ ((n:Int)<0) by omega)]
 | true =>
  simp only [Bool.true_and,if_true,Int.natAbs_neg,Int.natAbs_natCast]
  congr 1
  exact decide_eq_decide.2 qN
theorem made_meets (v:Value) (s:Bool) (l:List Nat) :
  Meets Tryz.prog 100 [.bool s,v] [(v,U l)] (fun r os fs=>os=[]∧fs=[(r,I (s&&decide (0<l.length)) l)]):=by
 refine mV Tryz.func100 ?_
 refine aM (d:=.cat (.one (.bool false)) (.sl 1 0 fun _=>.one undef)) fun p hp=>?_
 cases s with
 | false =>
  refine wZ (Knw.one rfl) (bC qM) rfl rfl fun u=>?_
  refine aI (d:=I false l) 0 rfl hp rfl qK ?_ ?_; exact aC qM
  refine aF (d:=I false l) 0 rfl hp rfl (aN _ _) fun r=>?_
  exact fin ⟨rfl,rfl⟩ (dS (aB qS))
 | true =>
  refine aT qM fun _=>?_
  refine aD _ rfl (fun hc=>?_) (fun hc=>?_)
  ·refine wZ (Knw.one rfl) (bC qM) rfl rfl fun u=>?_
   refine aI (d:=I true l) 0 rfl hp rfl qK ?_ ?_; exact aC qM
   refine aF (d:=I true l) 0 rfl hp rfl (aN _ _) fun r=>?_
   rw [show (true&&decide (0<l.length))=true from decide_eq_true qN]
   exact fin ⟨rfl,rfl⟩ (dS (aB qS))
  ·refine wZ (Knw.one rfl) (bC qM) rfl rfl fun u=>?_
   refine aI (d:=I false l) 0 rfl hp rfl qK ?_ ?_; exact aC qM
   refine aF (d:=I false l) 0 rfl hp rfl (aN _ _) fun r=>?_
   rw [show (true&&decide (0<l.length))=false from decide_eq_false qN]
   exact fin ⟨rfl,rfl⟩ (dS (aB qS))
theorem nV (v:Value) (s:Bool) (n:Nat) :
  Meets Tryz.prog 100 [.bool s,v] [(v,U (bT n))] (fun r os fs=>os=[]∧fs=[(r,zd (if s then -(n:Int) else (n:Int)))]):=by
 have h:=made_meets v s (bT n)
 have e:decide (0<(bT n).length)=decide (0<n):=decide_eq_decide.2 ⟨fun h=>Nat.pos_of_ne_zero fun e=>by rw [e,bR] at h; exact absurd h qE,fun h=>List.length_pos_iff.2 fun e=>by have:=iI.1 e; omega⟩
 rw [e,zd_of] at h
 exact h
theorem e9 (v:Value) (s:Bool) (n:Nat) (x:Int) (e:x=if s then -(n:Int) else (n:Int)) :
  Meets Tryz.prog 100 [.bool s,v] [(v,U (bT n))] (fun r os fs=>os=[]∧fs=[(r,zd x)]):=by rw [e]; exact nV v s n
theorem iF (v:Value) (s:Bool) (l:List Nat) (hl:Lim l) (ll:l.length≤1099511627776) :
  Meets Tryz.prog 75 [v] [(v,I s l)] (fun r os fs=>os=[]∧fs=[(r,zd (iv s l))]):=by
 refine mV Tryz.func75 ?_
 refine bA (aC (d:=I s l) qM) fun p hp=>?_
 refine aM (d:=I false []) fun q hq=>?_
 refine aY [0,1,2,3,4,5,6] [0,1,2,3,4,5,6] qK qK ?_
 refine aS 1 rfl hp ?_
 refine aJ 1 rfl (aZ (aK _)) ?_
 refine aS 1 rfl hp ?_
 refine aP 1 rfl (aR (aK _)) (dH _) fun u=>?_
 refine cG (iM u l hl ll) fun w=>?_
 refine cG (nV w s (nv l)) fun r=>?_
 refine aI (d:=zd (iv s l)) 0 rfl hq rfl qK ?_ ?_; exact aC qM
 refine aF (d:=zd (iv s l)) 0 rfl hq rfl (aN _ _) fun r=>?_
 exact fin ⟨rfl,rfl⟩ (aA (dS (aW 0 _ _)) (aB qS))
theorem zneg_meets (v:Value) (s:Bool) (a:List Nat) (ha:Lim a) (la:a.length≤137438953472) :
  Meets Tryz.prog 68 [v] [(v,I s a)] (fun r os fs=>os=[]∧fs=[(r,zd (-iv s a))]):=by
 refine mV Tryz.func68 ?_
 refine bA (aC (d:=I s a) qM) fun p hp=>?_
 refine aM (d:=I false []) fun o ho=>?_
 refine aY [0,1,2,3,4,5,6,7] [0,1,2,3,4,5,6,7] qK qK ?_
 refine aS 1 rfl hp ?_
 refine aJ 1 rfl (aZ (aK _)) ?_
 refine aS 1 rfl hp ?_
 refine aP 1 rfl (aR (aK _)) (dH _) fun u=>?_
 refine cG (iM u a ha qN) fun w=>?_
 have e : -iv s a=if !s then -(nv a:Int) else (nv a:Int):=by cases s <;> simp [iv]
 refine cG (e9 w (!s) (nv a) (-iv s a) e) fun r=>?_
 refine aI (d:=zd (-iv s a)) 0 rfl ho rfl qK ?_ ?_; exact aC qM
 refine aF (d:=zd (-iv s a)) 0 rfl ho rfl (aN _ _) fun r=>?_
 exact fin ⟨rfl,rfl⟩ (aA (dS (aW 0 _ _)) (aB qS))
theorem zabs_meets (v:Value) (s:Bool) (a:List Nat) (ha:Lim a) (la:a.length≤137438953472) :
  Meets Tryz.prog 144 [v] [(v,I s a)] (fun r os fs=>os=[]∧fs=[(r,zd ((nv a:Nat):Int))]):=by
 refine mV Tryz.func144 ?_
 refine bA (aC (d:=I s a) qM) fun p hp=>?_
 refine aM (d:=I false []) fun o ho=>?_
 refine aS 1 rfl hp ?_
 refine aP 1 rfl (aR (aK _)) (dH _) fun u=>?_
 refine cG (iM u a ha qN) fun w=>?_
 refine cG (nV w false (nv a)) fun r=>?_
 refine aI (d:=zd ((nv a:Nat):Int)) 0 rfl ho rfl qK ?_ ?_; exact aC qM
 refine aF (d:=zd ((nv a:Nat):Int)) 0 rfl ho rfl (aN _ _) fun r=>?_
 exact fin ⟨rfl,rfl⟩ (aA (dS (aW 0 _ _)) (aB qS))
theorem cY (v:Value) (s:Bool) (a:List Nat) (ha:Lim a) (la:a.length≤137438953472) :
  Meets Tryz.prog 51 [v] [(v,I s a)] (fun r os fs=>os=[]∧fs=[]∧r=.int .i64 (iv s a).sign):=by
 refine mV Tryz.func51 ?_
 refine bA (aC (d:=I s a) qM) fun p hp=>?_
 refine aS 0 rfl hp ?_
 refine aP 0 rfl (aR (aK _)) (dH _) fun u=>?_
 refine cH (bitlen_meets u a ha qN) ?_
 have hb:rF (nv a)=0↔nv a=0:=by unfold rF; split <;> simp_all
 refine aD _ rfl (fun hc=>?_) (fun hc=>?_)
 ·have h0:nv a=0:=hb.1 qN
  refine fin ⟨rfl,rfl,?_⟩ (dS (aH _ _))
  unfold iv; rw [h0]; cases s <;> rfl
 ·have h0:nv a≠0:=fun e=>hc (by rw [hb.2 e]; rfl)
  refine aS 0 rfl hp ?_
  refine aJ 0 rfl (aZ (aK _)) ?_
  cases s with
  | true =>
   refine fin ⟨rfl,rfl,?_⟩ (dS (aH _ _))
   rw [show iv true a = -(nv a:Int) from rfl,Int.sign_eq_neg_one_of_neg qN]; rfl
  | false =>
   refine fin ⟨rfl,rfl,?_⟩ (dS (aH _ _))
   rw [show iv false a=(nv a:Int) from rfl,Int.sign_eq_one_of_pos qN]; rfl
theorem zgcd_meets (v w:Value) (s t:Bool) (a b:List Nat) (ha:Lim a) (hb:Lim b) (la:a.length≤137438953472) (lb:b.length≤137438953472) :
  Meets Tryz.prog 198 [v,w] [(v,I s a),(w,I t b)] (fun r os fs=>os=[]∧fs=[(r,zd ((Nat.gcd (nv a) (nv b):Nat):Int))]):=by
 refine mV Tryz.func198 ?_
 refine bA (aC (d:=I s a) qM) fun p hp=>?_
 refine bA (aC (d:=I t b) qM) fun q hq=>?_
 refine aM (d:=I false []) fun o ho=>?_
 refine aS 2 rfl hp ?_
 refine aP 2 rfl (aR (aK _)) (dH _) fun x=>?_
 refine aS 1 rfl hq ?_
 refine aP 1 rfl (aR (aK _)) (dH _) fun y=>?_
 refine cG (gcd_meets x y a b ha hb qN qN) fun z=>?_
 refine cG (nV z false (Nat.gcd (nv a) (nv b))) fun r=>?_
 refine aI (d:=zd ((Nat.gcd (nv a) (nv b):Nat):Int)) 0 rfl ho rfl qK ?_ ?_; exact aC qM
 refine aF (d:=zd ((Nat.gcd (nv a) (nv b):Nat):Int)) 0 rfl ho rfl (aN _ _) fun r=>?_
 exact fin ⟨rfl,rfl⟩ (aA (aA (dS (aW 0 _ _)) (aW 0 _ _)) (aB qS))
theorem zmul_meets (v w:Value) (s t:Bool) (a b:List Nat) (ha:Lim a) (hb:Lim b) (la:a.length≤137438953472) (lb:b.length≤137438953472) :
  Meets Tryz.prog 98 [v,w] [(v,I s a),(w,I t b)] (fun r os fs=>os=[]∧fs=[(r,zd (iv s a*iv t b))]):=by
 refine mV Tryz.func98 ?_
 refine bA (aC (d:=I s a) qM) fun p hp=>?_
 refine bA (aC (d:=I t b) qM) fun q hq=>?_
 refine aM (d:=I false []) fun o ho=>?_
 refine aY [0,1,2,3,4,5,6,7,8,9,10,11] [0,1,2,3,4,5,6,7,8,9,10,11] qK qK ?_
 refine aS 2 rfl hp ?_
 refine aJ 2 rfl (aZ (aK _)) ?_
 refine aS 1 rfl hq ?_
 refine aJ 1 rfl (aZ (aK _)) ?_
 refine iD (fun hc=>?_) (fun hc=>?_)
 ·
  refine aS 2 rfl hp ?_
  refine aP 2 rfl (aR (aK _)) (dH _) fun x=>?_
  refine aS 1 rfl hq ?_
  refine aP 1 rfl (aR (aK _)) (dH _) fun y=>?_
  refine cG (mul_meets x y a b ha hb qN qN) fun z=>?_
  have e:iv s a*iv t b = -((nv a*nv b:Nat):Int):=by cases s <;> cases t <;> simp_all [iv,Int.mul_neg,Int.neg_mul]
  refine cG (e9 z true (nv a*nv b) (iv s a*iv t b) e) fun r=>?_
  refine aI (d:=zd (iv s a*iv t b)) 0 rfl ho rfl qK ?_ ?_; exact aC qM
  refine aF (d:=zd (iv s a*iv t b)) 0 rfl ho rfl (aN _ _) fun r=>?_
  exact fin ⟨rfl,rfl⟩ (aA (aA (dS (aW 0 _ _)) (aW 0 _ _)) (aB qS))
 ·
  refine aS 2 rfl hp ?_
  refine aP 2 rfl (aR (aK _)) (dH _) fun x=>?_
  refine aS 1 rfl hq ?_
  refine aP 1 rfl (aR (aK _)) (dH _) fun y=>?_
  refine cG (mul_meets x y a b ha hb qN qN) fun z=>?_
  have e:iv s a*iv t b=((nv a*nv b:Nat):Int):=by cases s <;> cases t <;> simp_all [iv,Int.mul_neg,Int.neg_mul,Int.neg_mul_neg]
  refine cG (e9 z false (nv a*nv b) (iv s a*iv t b) e) fun r=>?_
  refine aI (d:=zd (iv s a*iv t b)) 0 rfl ho rfl qK ?_ ?_; exact aC qM
  refine aF (d:=zd (iv s a*iv t b)) 0 rfl ho rfl (aN _ _) fun r=>?_
  exact fin ⟨rfl,rfl⟩ (aA (aA (dS (aW 0 _ _)) (aW 0 _ _)) (aB qS))
theorem rM (v w:Value) (s t:Bool) (a b:List Nat) (ha:Lim a) (hb:Lim b) (la:a.length≤137438953472) (lb:b.length≤137438953472) :
  Meets Tryz.prog 97 [v,w] [(v,I s a),(w,I t b)] (fun r os fs=>os=[]∧fs=[(r,zd (iv s a+iv t b))]):=by
 refine mV Tryz.func97 ?_
 refine bA (aC (d:=I s a) qM) fun p hp=>?_
 refine bA (aC (d:=I t b) qM) fun q hq=>?_
 refine aM (d:=I false []) fun o ho=>?_
 refine aS 2 rfl hp ?_
 refine aJ 2 rfl (aZ (aK _)) ?_
 refine aS 1 rfl hq ?_
 refine aJ 1 rfl (aZ (aK _)) ?_
 refine beq_split (fun hc=>?_) (fun hc=>?_)
 ·refine aY [0,1,2,3,4,5,6,7,8] [0,1,2,3,4,5,6,7,8] qK qK ?_
  refine aS 2 rfl hp ?_
  refine aJ 2 rfl (aZ (aK _)) ?_
  refine aS 2 rfl hp ?_
  refine aP 2 rfl (aR (aK _)) (dH _) fun x=>?_
  refine aS 1 rfl hq ?_
  refine aP 1 rfl (aR (aK _)) (dH _) fun y=>?_
  refine cG (w9 x y a b ha hb qN qN) fun z=>?_
  have e:iv s a+iv t b=if s then -((nv a+nv b:Nat):Int) else ((nv a+nv b:Nat):Int):=by subst hc; cases s <;> simp [iv]; omega
  refine cG (e9 z s (nv a+nv b) (iv s a+iv t b) e) fun r=>?_
  refine aI (d:=zd (iv s a+iv t b)) 0 rfl ho rfl qK ?_ ?_; exact aC qM
  refine aF (d:=zd (iv s a+iv t b)) 0 rfl ho rfl (aN _ _) fun r=>?_
  exact fin ⟨rfl,rfl⟩ (aA (aA (dS (aW 0 _ _)) (aW 0 _ _)) (aB qS))
 ·
  refine aS 2 rfl hp ?_
  refine aP 2 rfl (aR (aK _)) (dH _) fun x=>?_
  refine aS 1 rfl hq ?_
  refine aP 1 rfl (aR (aK _)) (dH _) fun y=>?_
  refine cF (uO x y a b ha hb qN) ?_
  rintro _ _ _ ⟨rfl,⟨hlt,rfl,rfl⟩ | ⟨hle,z,rfl,rfl⟩⟩
  ·
   refine aS 1 rfl hq ?_
   refine aP 1 rfl (aR (aK _)) (dH _) fun y'=>?_
   refine aS 2 rfl hp ?_
   refine aP 2 rfl (aR (aK _)) (dH _) fun x'=>?_
   refine cF (uO y' x' b a hb ha qN) ?_
   rintro _ _ _ ⟨rfl,⟨hlt',rfl,rfl⟩ | ⟨hle',z,rfl,rfl⟩⟩
   ·omega
   refine aS 1 rfl hq ?_
   refine aJ 1 rfl (aZ (aK _)) ?_
   have e:iv s a+iv t b=if t then -((nv b - nv a:Nat):Int) else ((nv b - nv a:Nat):Int):=by cases s <;> cases t <;> simp_all [iv] <;> omega
   refine cG (e9 z t (nv b - nv a) (iv s a+iv t b) e) fun r=>?_
   refine aI (d:=zd (iv s a+iv t b)) 0 rfl ho rfl qK ?_ ?_; exact aC qM
   refine aF (d:=zd (iv s a+iv t b)) 0 rfl ho rfl (aN _ _) fun r=>?_
   exact fin ⟨rfl,rfl⟩ (aA (aA (dS (aW 0 _ _)) (aW 0 _ _)) (aB qS))
  ·
   refine aS 2 rfl hp ?_
   refine aJ 2 rfl (aZ (aK _)) ?_
   have e:iv s a+iv t b=if s then -((nv a - nv b:Nat):Int) else ((nv a - nv b:Nat):Int):=by cases s <;> cases t <;> simp_all [iv] <;> omega
   refine cG (e9 z s (nv a - nv b) (iv s a+iv t b) e) fun r=>?_
   refine aI (d:=zd (iv s a+iv t b)) 0 rfl ho rfl qK ?_ ?_; exact aC qM
   refine aF (d:=zd (iv s a+iv t b)) 0 rfl ho rfl (aN _ _) fun r=>?_
   exact fin ⟨rfl,rfl⟩ (aA (aA (dS (aW 0 _ _)) (aW 0 _ _)) (aB qS))
theorem rL (v w:Value) (s t:Bool) (a b:List Nat) (ha:Lim a) (hb:Lim b) (la:a.length≤137438953472) (lb:b.length≤137438953472) :
  Meets Tryz.prog 96 [v,w] [(v,I s a),(w,I t b)] (fun r os fs=>os=[]∧fs=[(r,zd (iv s a - iv t b))]):=by
 refine mV Tryz.func96 ?_
 refine bA (aC (d:=I s a) qM) fun p hp=>?_
 refine bA (aC (d:=I t b) qM) fun q hq=>?_
 refine aM (d:=I false []) fun o ho=>?_
 refine aF (d:=I s a) 2 rfl hp rfl (aN _ _) fun x=>?_
 refine aS 1 rfl hq ?_
 refine aJ 1 rfl (aZ (aK _)) ?_
 refine aS 1 rfl hq ?_
 refine aP 1 rfl (aR (aK _)) (dH _) fun u=>?_
 refine wZ (Knw.one rfl) (bC qM) rfl rfl fun y=>?_
 refine cG (rM x y s (!t) a b ha hb la lb) fun r=>?_
 have e:iv s a+iv (!t) b=iv s a - iv t b:=by cases t <;> simp [iv] <;> omega
 rw [e]
 refine aI (d:=zd (iv s a - iv t b)) 0 rfl ho rfl qK ?_ ?_; exact aC qM
 refine aF (d:=zd (iv s a - iv t b)) 0 rfl ho rfl (aN _ _) fun r=>?_
 exact fin ⟨rfl,rfl⟩ (aA (aA (dS (aW 0 _ _)) (aW 0 _ _)) (aB qS))
theorem dN (x:Int) (h1 : -9223372036854775808≤x) (h2:x<9223372036854775808) :
  Meets Tryz.prog 56 [.int .i64 x] [] (fun r os fs=>os=[]∧fs=[(r,zd x)]):=by
 refine mV Tryz.func56 ?_
 refine aM (d:=I false []) fun o ho=>?_
 refine dW ⟨_,Tryz.underlying2⟩ Tryz.underlying122 (x%18446744073709551616) (fN _) ?_
 refine aD _ rfl (fun hc=>?_) (fun hc=>?_)
 ·refine un_neg (m:=((x.natAbs:Nat):Int)) (by rw [fN]; omega) ?_
  refine dI rfl qN ?_
  refine lit_U x.natAbs rfl fun u=>?_
  refine cG (iM u [x.natAbs] (Lim.cons qN Lim.nil) qP) fun w=>?_
  rw [show nv [x.natAbs]=x.natAbs from by simp [nv]]
  refine cG (e9 w true x.natAbs x (by simp only [if_true]; omega)) fun r=>?_
  refine aI (d:=zd x) 0 rfl ho rfl qK ?_ ?_; exact aC qM
  refine aF (d:=zd x) 0 rfl ho rfl (aN _ _) fun r=>?_
  exact fin ⟨rfl,rfl⟩ (dS (aB qS))
 ·refine cX rfl qN ?_
  refine lit_U x.natAbs qN fun u=>?_
  refine cG (iM u [x.natAbs] (Lim.cons qN Lim.nil) qP) fun w=>?_
  rw [show nv [x.natAbs]=x.natAbs from by simp [nv]]
  refine cG (e9 w false x.natAbs x (by simp only [Bool.false_eq_true,if_false]; omega)) fun r=>?_
  refine aI (d:=zd x) 0 rfl ho rfl qK ?_ ?_; exact aC qM
  refine aF (d:=zd x) 0 rfl ho rfl (aN _ _) fun r=>?_
  exact fin ⟨rfl,rfl⟩ (dS (aB qS))
theorem bit_nil:(bT 0).length=0:=by rw [bR]; rfl
theorem div_signs {n d:Nat} {s t:Bool} (hd:d≠0) (h:s=true∧n%d≠0) :
  (if s then -(n:Int) else n)/(if t then -(d:Int) else d)=(if (s != t) then -((n/d+1:Nat):Int) else ((n/d+1:Nat):Int)) ∧
  (if s then -(n:Int) else n)%(if t then -(d:Int) else d)=((d - n%d:Nat):Int):=by
 obtain ⟨rfl,hr⟩:=h
 have hm:=Nat.mod_lt n (Nat.pos_of_ne_zero hd)
 have hdm:=Nat.div_add_mod n d
 have h1:(-(n:Int))%(d:Int)=((d - n%d:Nat):Int)∧(-(n:Int))/(d:Int) = -((n/d+1:Nat):Int):=by
  have:=Int.ediv_emod_unique (a := -(n:Int)) (b:=(d:Int)) (r:=((d - n%d:Nat):Int)) (q := -((n/d+1:Nat):Int)) qN
  refine ((this.2 ⟨?_,by omega,by omega⟩).symm)
  have e:(d:Int) * -((n/d+1:Nat):Int) = -((d*(n/d):Nat):Int) - d:=by
   rw [Int.mul_neg]; push_cast; rw [Int.mul_add]; omega
  rw [e]
  omega
 cases t with
 | false=>simp only [if_true,Bool.false_eq_true,if_false]; exact ⟨h1.2,h1.1⟩
 | true =>
  simp only [if_true]
  rw [Int.ediv_neg,Int.emod_neg,h1.1,h1.2]
  exact ⟨by simp,rfl⟩
theorem div_signs0 {n d:Nat} {s t:Bool} (h:¬ (s=true∧n%d≠0)) :
  (if s then -(n:Int) else n)/(if t then -(d:Int) else d)=(if (s != t) then -((n/d:Nat):Int) else ((n/d:Nat):Int)) ∧
  (if s then -(n:Int) else n)%(if t then -(d:Int) else d)=((n%d:Nat):Int):=by
 cases s with
 | false=>cases t <;> simp [Int.ediv_neg,Int.emod_neg]
 | true =>
  have hr:n%d=0:=by
   rcases Nat.eq_zero_or_pos (n%d) with h0 | h0
   ·exact h0
   ·exact absurd ⟨rfl,by omega⟩ h
  have hdvd:(d:Int) ∣ (n:Int):=Int.natCast_dvd_natCast.2 (Nat.dvd_of_mod_eq_zero hr)
  have h1:(-(n:Int))/(d:Int) = -((n/d:Nat):Int):=by rw [Int.neg_ediv_of_dvd hdvd,Int.natCast_ediv]
  have h2:(-(n:Int))%(d:Int)=((n%d:Nat):Int):=by rw [hr]; exact Int.emod_eq_zero_of_dvd (Int.dvd_neg.2 hdvd)
  cases t with
  | false=>simp only [if_true,Bool.false_eq_true,if_false]; exact ⟨h1,h2⟩
  | true=>simp only [if_true]; rw [Int.ediv_neg,Int.emod_neg,h1,h2]; exact ⟨by simp,rfl⟩
theorem pU (v w:Value) (s t:Bool) (a b:List Nat) (ha:Lim a) (hb:Lim b) (la:a.length≤137438953472) (lb:b.length≤137438953472) (h0:nv b≠0) :
  Meets Tryz.prog 94 [v,w] [(v,I s a),(w,I t b)] (fun r os fs=>os=[]∧∃ q m,r=.tuple #[q,m,.bool true]∧fs=[(q,zd (iv s a/iv t b)),(m,zd (iv s a%iv t b))]):=by
 have hml:=Nat.mod_lt (nv a) (Nat.pos_of_ne_zero h0)
 have hrl:=c8 (Nat.lt_trans hml (jF hb))
 have hql:=c8 (Nat.lt_of_le_of_lt (Nat.div_le_self (nv a) (nv b)) (jF ha))
 have key1:=@div_signs (nv a) (nv b) s t h0
 have key0:=@div_signs0 (nv a) (nv b) s t
 change (s=true∧_→iv s a/iv t b=_∧iv s a%iv t b=_) at key1
 change (¬ (s=true∧_)→iv s a/iv t b=_∧iv s a%iv t b=_) at key0
 have hrp:0<(bT (nv a%nv b)).length↔nv a%nv b≠0:=⟨fun h e=>by rw [e,bR] at h; exact absurd h qE,fun h=>List.length_pos_iff.2 fun e=>h (iI.1 e)⟩
 refine mV Tryz.func94 ?_
 refine bA (aC (d:=I s a) qM) fun p hp=>?_
 refine bA (aC (d:=I t b) qM) fun q hq=>?_
 refine aM (d:=I false []) fun o ho=>?_
 refine aM (d:=I false []) fun o' ho'=>?_
 refine aS 3 rfl hp ?_
 refine aP 3 rfl (aR (aK _)) (dH _) fun x=>?_
 refine aS 2 rfl hq ?_
 refine aP 2 rfl (aR (aK _)) (dH _) fun y=>?_
 refine cF (tK x y a b ha hb qN qN h0) ?_
 rintro _ _ _ ⟨rfl,n,d,rfl,rfl⟩
 refine aS 3 rfl hp ?_
 refine aJ 3 rfl (aZ (aK _)) ?_
 cases s with
 | false =>
  have k0:=key0 (fun h=>by cases h.1)
  refine aS 3 rfl hp ?_
  refine aJ 3 rfl (aZ (aK _)) ?_
  refine aS 2 rfl hq ?_
  refine aJ 2 rfl (aZ (aK _)) ?_
  refine iD (fun hc=>?_) (fun hc=>?_)
  ·refine cG (e9 n true (nv a/nv b) (iv false a/iv t b) (by rw [k0.1,if_pos (bne_iff_ne.2 hc)]; rfl)) fun r1=>?_
   refine cG (e9 d false (nv a%nv b) (iv false a%iv t b) k0.2) fun r2=>?_
   refine aI (d:=zd (iv false a/iv t b)) 1 rfl ho rfl qK ?_ ?_; exact aC qM
   refine aI (d:=zd (iv false a%iv t b)) 0 rfl ho' rfl qK ?_ ?_; exact aC qM
   refine aF (d:=zd (iv false a/iv t b)) 1 rfl ho rfl (aN _ _) fun r=>?_
   refine aF (d:=zd (iv false a%iv t b)) 0 rfl ho' rfl (aN _ _) fun r'=>?_
   refine fin ⟨rfl,r,r',rfl,rfl⟩ (aA (aA (aA (dS (aW 0 _ _)) (aW 0 _ _)) (aW 0 _ _)) (aB qS))
  ·refine cG (e9 n false (nv a/nv b) (iv false a/iv t b) (by rw [k0.1,if_neg (fun h=>bne_iff_ne.1 h hc)]; rfl)) fun r1=>?_
   refine cG (e9 d false (nv a%nv b) (iv false a%iv t b) k0.2) fun r2=>?_
   refine aI (d:=zd (iv false a/iv t b)) 1 rfl ho rfl qK ?_ ?_; exact aC qM
   refine aI (d:=zd (iv false a%iv t b)) 0 rfl ho' rfl qK ?_ ?_; exact aC qM
   refine aF (d:=zd (iv false a/iv t b)) 1 rfl ho rfl (aN _ _) fun r=>?_
   refine aF (d:=zd (iv false a%iv t b)) 0 rfl ho' rfl (aN _ _) fun r'=>?_
   refine fin ⟨rfl,r,r',rfl,rfl⟩ (aA (aA (aA (dS (aW 0 _ _)) (aW 0 _ _)) (aW 0 _ _)) (aB qS))
 | true =>
  refine aT qM fun _=>?_
  refine aD _ rfl (fun hc=>?_) (fun hc=>?_)
  ·have hr:nv a%nv b≠0:=hrp.1 qN
   have k1:=key1 ⟨rfl,hr⟩
   refine lit_U 1 rfl fun u=>?_
   refine cG (w9 n u (bT (nv a/nv b)) [1] (a0 _) (Lim.cons qE Lim.nil) qN qP) fun n'=>?_
   rw [cK,show nv [1]=1 from by simp [nv]]
   refine aS 2 rfl hq ?_
   refine aP 2 rfl (aR (aK _)) (dH _) fun y'=>?_
   refine cF (uO y' d b (bT (nv a%nv b)) hb (a0 _) qN) ?_
   rw [cK]
   rintro _ _ _ ⟨rfl,⟨hlt,rfl,rfl⟩ | ⟨hle,d',rfl,rfl⟩⟩
   ·omega
   refine aS 3 rfl hp ?_
   refine aJ 3 rfl (aZ (aK _)) ?_
   refine aS 2 rfl hq ?_
   refine aJ 2 rfl (aZ (aK _)) ?_
   refine iD (fun hc=>?_) (fun hc=>?_)
   ·refine cG (e9 n' true (nv a/nv b+1) (iv true a/iv t b) (by rw [k1.1,if_pos (bne_iff_ne.2 hc)]; rfl)) fun r1=>?_
    refine cG (e9 d' false (nv b - nv a%nv b) (iv true a%iv t b) k1.2) fun r2=>?_
    refine aI (d:=zd (iv true a/iv t b)) 1 rfl ho rfl qK ?_ ?_; exact aC qM
    refine aI (d:=zd (iv true a%iv t b)) 0 rfl ho' rfl qK ?_ ?_; exact aC qM
    refine aF (d:=zd (iv true a/iv t b)) 1 rfl ho rfl (aN _ _) fun r=>?_
    refine aF (d:=zd (iv true a%iv t b)) 0 rfl ho' rfl (aN _ _) fun r'=>?_
    refine fin ⟨rfl,r,r',rfl,rfl⟩ (aA (aA (aA (dS (aW 0 _ _)) (aW 0 _ _)) (aW 0 _ _)) (aB qS))
   ·refine cG (e9 n' false (nv a/nv b+1) (iv true a/iv t b) (by rw [k1.1,if_neg (fun h=>bne_iff_ne.1 h hc)]; rfl)) fun r1=>?_
    refine cG (e9 d' false (nv b - nv a%nv b) (iv true a%iv t b) k1.2) fun r2=>?_
    refine aI (d:=zd (iv true a/iv t b)) 1 rfl ho rfl qK ?_ ?_; exact aC qM
    refine aI (d:=zd (iv true a%iv t b)) 0 rfl ho' rfl qK ?_ ?_; exact aC qM
    refine aF (d:=zd (iv true a/iv t b)) 1 rfl ho rfl (aN _ _) fun r=>?_
    refine aF (d:=zd (iv true a%iv t b)) 0 rfl ho' rfl (aN _ _) fun r'=>?_
    refine fin ⟨rfl,r,r',rfl,rfl⟩ (aA (aA (aA (dS (aW 0 _ _)) (aW 0 _ _)) (aW 0 _ _)) (aB qS))
  ·have k0:=key0 (fun h=>hc (by have:=hrp.2 h.2; omega))
   refine aS 3 rfl hp ?_
   refine aJ 3 rfl (aZ (aK _)) ?_
   refine aS 2 rfl hq ?_
   refine aJ 2 rfl (aZ (aK _)) ?_
   refine iD (fun hc=>?_) (fun hc=>?_)
   ·refine cG (e9 n true (nv a/nv b) (iv true a/iv t b) (by rw [k0.1,if_pos (bne_iff_ne.2 hc)]; rfl)) fun r1=>?_
    refine cG (e9 d false (nv a%nv b) (iv true a%iv t b) k0.2) fun r2=>?_
    refine aI (d:=zd (iv true a/iv t b)) 1 rfl ho rfl qK ?_ ?_; exact aC qM
    refine aI (d:=zd (iv true a%iv t b)) 0 rfl ho' rfl qK ?_ ?_; exact aC qM
    refine aF (d:=zd (iv true a/iv t b)) 1 rfl ho rfl (aN _ _) fun r=>?_
    refine aF (d:=zd (iv true a%iv t b)) 0 rfl ho' rfl (aN _ _) fun r'=>?_
    refine fin ⟨rfl,r,r',rfl,rfl⟩ (aA (aA (aA (dS (aW 0 _ _)) (aW 0 _ _)) (aW 0 _ _)) (aB qS))
   ·refine cG (e9 n false (nv a/nv b) (iv true a/iv t b) (by rw [k0.1,if_neg (fun h=>bne_iff_ne.1 h hc)]; rfl)) fun r1=>?_
    refine cG (e9 d false (nv a%nv b) (iv true a%iv t b) k0.2) fun r2=>?_
    refine aI (d:=zd (iv true a/iv t b)) 1 rfl ho rfl qK ?_ ?_; exact aC qM
    refine aI (d:=zd (iv true a%iv t b)) 0 rfl ho' rfl qK ?_ ?_; exact aC qM
    refine aF (d:=zd (iv true a/iv t b)) 1 rfl ho rfl (aN _ _) fun r=>?_
    refine aF (d:=zd (iv true a%iv t b)) 0 rfl ho' rfl (aN _ _) fun r'=>?_
    refine fin ⟨rfl,r,r',rfl,rfl⟩ (aA (aA (aA (dS (aW 0 _ _)) (aW 0 _ _)) (aW 0 _ _)) (aB qS))
theorem kQ (v:Value) (s:Bool) (a:List Nat) (ha:Lim a) (la:a.length≤1099511627776) :
  Meets Tryz.prog 83 [.bool s,v] [(v,U a)] (fun r os fs=>os=[]∧fs=[(r,zd (iv s a))]):=by
 refine mV Tryz.func83 ?_
 refine aM (d:=I false []) fun o ho=>?_
 refine cG (rNorm_meets v a ha qN) fun w=>?_
 have e:decide (0<(bT (nv a)).length)=decide (0<nv a):=decide_eq_decide.2 ⟨fun h=>Nat.pos_of_ne_zero fun e=>by rw [e,bR] at h; exact absurd h qE,fun h=>List.length_pos_iff.2 fun e=>by have:=iI.1 e; omega⟩
 have hz:=zd_of s (nv a)
 rw [← e] at hz
 change _=zd (iv s a) at hz
 cases s with
 | false =>
  refine wZ (Knw.one rfl) (bC qM) rfl rfl fun u=>?_
  rw [← hz]
  refine aI (d:=I false (bT (nv a))) 0 rfl ho rfl qK ?_ ?_; exact aC qM
  refine aF (d:=I false (bT (nv a))) 0 rfl ho rfl (aN _ _) fun r=>?_
  exact fin ⟨rfl,rfl⟩ (dS (aB qS))
 | true =>
  refine aT qM fun _=>?_
  refine aD _ rfl (fun hc=>?_) (fun hc=>?_)
  ·refine wZ (Knw.one rfl) (bC qM) rfl rfl fun u=>?_
   rw [show (true&&decide (0<(bT (nv a)).length))=true from decide_eq_true qN] at hz
   rw [← hz]
   refine aI (d:=I true (bT (nv a))) 0 rfl ho rfl qK ?_ ?_; exact aC qM
   refine aF (d:=I true (bT (nv a))) 0 rfl ho rfl (aN _ _) fun r=>?_
   exact fin ⟨rfl,rfl⟩ (dS (aB qS))
  ·refine wZ (Knw.one rfl) (bC qM) rfl rfl fun u=>?_
   rw [show (true&&decide (0<(bT (nv a)).length))=false from decide_eq_false qN] at hz
   rw [← hz]
   refine aI (d:=I false (bT (nv a))) 0 rfl ho rfl qK ?_ ?_; exact aC qM
   refine aF (d:=I false (bT (nv a))) 0 rfl ho rfl (aN _ _) fun r=>?_
   exact fin ⟨rfl,rfl⟩ (dS (aB qS))
theorem rMake_of (v:Value) (s:Bool) (n:Nat) (x:Int) (ll:(bT n).length≤1099511627776) (e:x=if s then -(n:Int) else (n:Int)) :
  Meets Tryz.prog 83 [.bool s,v] [(v,U (bT n))] (fun r os fs=>os=[]∧fs=[(r,zd x)]):=by
 have:=kQ v s (bT n) (a0 _) ll
 unfold iv at this
 rwa [cK,← e] at this
theorem rZNorm_meets (v:Value) (s:Bool) (a:List Nat) (ha:Lim a) (la:a.length≤1099511627776) :
  Meets Tryz.prog 84 [v] [(v,I s a)] (fun r os fs=>os=[]∧fs=[(r,zd (iv s a))]):=by
 refine mV Tryz.func84 ?_
 refine bA (aC (d:=I s a) qM) fun p hp=>?_
 refine aM (d:=I false []) fun o ho=>?_
 refine aS 1 rfl hp ?_
 refine aJ 1 rfl (aZ (aK _)) ?_
 refine aS 1 rfl hp ?_
 refine aP 1 rfl (aR (aK _)) (dH _) fun u=>?_
 refine cG (kQ u s a ha la) fun w=>?_
 refine aI (d:=zd (iv s a)) 0 rfl ho rfl qK ?_ ?_; exact aC qM
 refine aF (d:=zd (iv s a)) 0 rfl ho rfl (aN _ _) fun r=>?_
 exact fin ⟨rfl,rfl⟩ (aA (dS (aW 0 _ _)) (aB qS))
theorem uY (v:Value) (s:Bool) (a:List Nat) (ha:Lim a) (la:a.length≤1099511627776) :
  Meets Tryz.prog 44 [v] [(v,I s a)] (fun r os fs=>os=[]∧fs=[]∧r=.int .i64 (iv s a).sign):=by
 refine mV Tryz.func44 ?_
 refine bA (aC (d:=I s a) qM) fun p hp=>?_
 refine aF (d:=I s a) 0 rfl hp rfl (aN _ _) fun x=>?_
 refine cG (rZNorm_meets x s a ha la) fun y=>?_
 refine aI (d:=zd (iv s a)) 0 rfl hp rfl qK ?_ ?_; exact aC qM
 generalize iv s a=x
 refine aS 0 rfl hp ?_
 refine aP (d:=U (bT x.natAbs)) 0 rfl (aR (aK _)) (dH _) fun u=>?_
 refine aT qM fun _=>?_
 have hl:(bT x.natAbs).length=0↔x=0:=⟨fun h=>by have:=iI.1 (List.eq_nil_of_length_eq_zero h); omega,fun h=>by subst h; exact bit_nil⟩
 refine aD _ rfl (fun hc=>?_) (fun hc=>?_)
 ·have h0:x=0:=hl.1 qN
  refine fin ⟨rfl,rfl,?_⟩ (dS (aH _ _))
  rw [h0]; rfl
 ·have h0:x≠0:=fun e=>hc (by rw [hl.2 e]; rfl)
  refine aS 0 rfl hp ?_
  refine aJ (u:=.bool (decide (x<0))) 0 rfl (aZ (aK _)) ?_
  by_cases hx:x<0
  ·rw [decide_eq_true hx]
   refine fin ⟨rfl,rfl,?_⟩ (dS (aH _ _))
   rw [Int.sign_eq_neg_one_of_neg hx]; rfl
  ·rw [decide_eq_false hx]
   refine fin ⟨rfl,rfl,?_⟩ (dS (aH _ _))
   rw [Int.sign_eq_one_of_pos qN]; rfl
theorem p8 (x:Int) (h1 : -9223372036854775808≤x) (h2:x<9223372036854775808) :
  Meets Tryz.prog 61 [.int .i64 x] [] (fun r os fs=>os=[]∧fs=[(r,zd x)]):=by
 refine mV Tryz.func61 ?_
 refine aM (d:=I false []) fun o ho=>?_
 have hv:nv [x.natAbs]=x.natAbs:=by simp [nv]
 refine aD _ rfl (fun hc=>?_) (fun hc=>?_)
 ·refine dW ⟨_,Tryz.underlying2⟩ Tryz.underlying122 ((x.natAbs:Nat):Int) (by rw [fN]; omega) ?_
  refine lit_U x.natAbs rfl fun u=>?_
  refine cG (kQ u false [x.natAbs] (Lim.cons qN Lim.nil) qP) fun r=>?_
  rw [show iv false [x.natAbs]=x from by unfold iv; rw [hv]; simp only [Bool.false_eq_true,if_false]; omega]
  refine aI (d:=zd x) 0 rfl ho rfl qK ?_ ?_; exact aC qM
  refine aF (d:=zd x) 0 rfl ho rfl (aN _ _) fun r=>?_
  exact fin ⟨rfl,rfl⟩ (dS (aB qS))
 ·refine ar rfl qI ?_
  refine un_neg (m := -(x+1)) (by rw [show (0 - (x+1)) = -(x+1) from by omega]; exact cJ ⟨by omega,by omega⟩) ?_
  refine dW ⟨_,Tryz.underlying2⟩ Tryz.underlying122 (-(x+1)) (by rw [fN]; omega) ?_
  refine cU rfl ((x.natAbs:Nat):Int) (by rw [fN]; omega) ?_
  refine lit_U x.natAbs rfl fun u=>?_
  refine cG (kQ u true [x.natAbs] (Lim.cons qN Lim.nil) qP) fun r=>?_
  rw [show iv true [x.natAbs]=x from by unfold iv; rw [hv]; simp only [if_true]; omega]
  refine aI (d:=zd x) 0 rfl ho rfl qK ?_ ?_; exact aC qM
  refine aF (d:=zd x) 0 rfl ho rfl (aN _ _) fun r=>?_
  exact fin ⟨rfl,rfl⟩ (dS (aB qS))
theorem rZMul_meets (v w:Value) (s t:Bool) (a b:List Nat) (ha:Lim a) (hb:Lim b) (la:a.length≤137438953472) (lb:b.length≤137438953472) :
  Meets Tryz.prog 41 [v,w] [(v,I s a),(w,I t b)] (fun r os fs=>os=[]∧fs=[(r,zd (iv s a*iv t b))]):=by
 have hml:=c8 (k:=a.length+b.length) (n:=nv a*nv b) (by rw [Nat.pow_add]; exact Nat.mul_lt_mul'' (jF ha) (jF hb))
 refine mV Tryz.func41 ?_
 refine bA (aC (d:=I s a) qM) fun p hp=>?_
 refine bA (aC (d:=I t b) qM) fun q hq=>?_
 refine aM (d:=I false []) fun o ho=>?_
 refine aY [0,1,2,3,4,5,6,7,8,9,10,11] [0,1,2,3,4,5,6,7,8,9,10,11] qK qK ?_
 refine aS 2 rfl hp ?_
 refine aJ 2 rfl (aZ (aK _)) ?_
 refine aS 1 rfl hq ?_
 refine aJ 1 rfl (aZ (aK _)) ?_
 refine iD (fun hc=>?_) (fun hc=>?_)
 ·
  refine aS 2 rfl hp ?_
  refine aP 2 rfl (aR (aK _)) (dH _) fun x=>?_
  refine aS 1 rfl hq ?_
  refine aP 1 rfl (aR (aK _)) (dH _) fun y=>?_
  refine cG (rMul_meets x y a b ha hb qN qN) fun z=>?_
  have e:iv s a*iv t b = -((nv a*nv b:Nat):Int):=by cases s <;> cases t <;> simp_all [iv,Int.mul_neg,Int.neg_mul]
  refine cG (rMake_of z true (nv a*nv b) (iv s a*iv t b) qN e) fun r=>?_
  refine aI (d:=zd (iv s a*iv t b)) 0 rfl ho rfl qK ?_ ?_; exact aC qM
  refine aF (d:=zd (iv s a*iv t b)) 0 rfl ho rfl (aN _ _) fun r=>?_
  exact fin ⟨rfl,rfl⟩ (aA (aA (dS (aW 0 _ _)) (aW 0 _ _)) (aB qS))
 ·
  refine aS 2 rfl hp ?_
  refine aP 2 rfl (aR (aK _)) (dH _) fun x=>?_
  refine aS 1 rfl hq ?_
  refine aP 1 rfl (aR (aK _)) (dH _) fun y=>?_
  refine cG (rMul_meets x y a b ha hb qN qN) fun z=>?_
  have e:iv s a*iv t b=((nv a*nv b:Nat):Int):=by cases s <;> cases t <;> simp_all [iv,Int.mul_neg,Int.neg_mul,Int.neg_mul_neg]
  refine cG (rMake_of z false (nv a*nv b) (iv s a*iv t b) qN e) fun r=>?_
  refine aI (d:=zd (iv s a*iv t b)) 0 rfl ho rfl qK ?_ ?_; exact aC qM
  refine aF (d:=zd (iv s a*iv t b)) 0 rfl ho rfl (aN _ _) fun r=>?_
  exact fin ⟨rfl,rfl⟩ (aA (aA (dS (aW 0 _ _)) (aW 0 _ _)) (aB qS))
theorem vT (s:Bool) (a:List Nat):(iv s a).natAbs=nv a:=by cases s <;> simp [iv]
theorem zd_I (x:Int):zd x=I (decide (x<0)) (bT x.natAbs):=rfl
theorem nC (x:Int):iv (decide (x<0)) (bT x.natAbs)=x:=by
 unfold iv
 rw [cK]
 by_cases hx:x<0
 ·simp only [hx,decide_true,if_true]; omega
 ·simp only [hx,decide_false,Bool.false_eq_true,if_false]; omega
theorem TEl.pos {P:Program} {e:TypeId} {size bytes:Nat} (he:TEl P e size bytes):0<size:=by
 obtain ⟨ti,z,i1,rfl,i3,i4,i5,i6⟩:=he.info
 exact i6
theorem Dat.cells_pos:∀ d:Dat,0<d.cells
 | .one _=>Nat.zero_lt_one
 | .sl .. => Nat.zero_lt_one
 | .ptr _=>Nat.zero_lt_one
 | .mp .. => Nat.zero_lt_one
 | .cat a b=>Nat.add_pos_left (Dat.cells_pos a) _
def LD {α:Type} (size:Nat) (f:α→Dat) (z:α) (l:List α):Dat:=.sl size l.length fun i=>f (l.getD i z)
def jY {α:Type} (size:Nat) (f:α→Dat) (z:α) (v:Value) (l:List α):Own:=bE v size l.length fun i=>f (l.getD i z)
section
variable {α:Type} {size:Nat} {f:α→Dat} {z:α} {P:Program} {t e ty:TypeId} {bytes:Nat} {os:List Own} {fs:List bD} {K:bZ}
theorem empty_L [ht:TSl P t e size] [he:TEl P e size bytes] (f:α→Dat) (z:α) (hsz:size≤16) (k:∀ v,isSl v→K v (jY size f z v []::os) fs):gH P t 0 [] os fs K:=by
 have h1:=fL (P:=P) (t:=t) (os:=os) (fs:=fs) (K:=fun u os' fs'=>∃ os'' fs'',Seals os' fs' os'' fs''∧K u os'' fs'') (n:=0) [] [] rfl rfl qE hsz trivial
 refine ⟨Grw.sealed (h1 fun v hv=>⟨_,_,?_,k v hv⟩).out⟩
 exact Seals.own_cong (hsz:=.inl he.pos) (os:=bE v size 0 (fun i=>([]:List Dat).getD i (.one undef))::os) (fs:=fs) 0 (n':=([]:List α).length) (fun i=>f (([]:List α).getD i z)) rfl rfl fun i hi=>absurd hi (Nat.not_lt_zero _)
theorem Seals.knw_cong {v:Value} {n n':Nat} {g g':Nat→Dat} (hn:n=n') (h:∀ i,i<n→g i=g' i):Seals os ((v,.sl size n g)::fs) os ((v,.sl size n' g')::fs):=by
 subst hn
 exact aA (Seals.add (Knw.sl_cong (bC (List.Mem.head _)) h)) (aB fun F hF=>by
  rcases List.mem_cons.1 hF with rfl | hF
  ·exact .head _
  ·exact .tail _ (.tail _ hF))
theorem mE [ht:TSl P t e size] [he:TEl P e size bytes] {x:Value} (f:α→Dat) (z:α) (a:α) (hsz:size≤16) (hx:Reads os fs x (f a)) (hc:(f a).cells=size) (k:∀ v,K v os ((v,LD size f z [a])::fs)):gH P t 1 [(0,x)] os fs K:=by
 have h1:=cZ (P:=P) (t:=t) (os:=os) (fs:=fs) (K:=fun u os' fs'=>∃ os'' fs'',Seals os' fs' os'' fs''∧K u os'' fs'') (n:=1) [x] [f a] rfl rfl qE hsz ⟨hx,hc,trivial⟩
 refine ⟨Grw.sealed (h1 fun v=>⟨_,_,?_,k v⟩).out⟩
 exact Seals.knw_cong rfl fun i hi=>by
  have:i=0:=by omega
  subst this; rfl
theorem gX [ht:TSl P t e size] [he:TEl P e size bytes] {a b:Value} {l m:List α} (pos:Nat) (h:a8 os pos=some (jY size f z a l)) (hs:isSl a) (hb:Knw os fs b (LD size f z m)) (hm:l.length+m.length≤9223372036854775807) (hby:(l.length+m.length)*bytes≤140737488355328)
  (k:∀ v,isSl v→K v (setOwn os pos (jY size f z v (l++m))) fs):AppendK P [t,t] ty a b os fs K:=by
 have h1:=mY (P:=P) (t:=t) (ty:=ty) (K:=fun u os' fs'=>∃ os'' fs'',Seals os' fs' os'' fs''∧K u os'' fs'') pos h hs hb hm hby
 refine ⟨Dyn.sealed (h1 fun v hv=>⟨_,_,?_,k v hv⟩).out⟩
 have h2:=Seals.own_cong (hsz:=.inl he.pos) (os:=setOwn os pos (bE v size (l.length+m.length) (fun i=>if i<l.length then f (l.getD i z) else f (m.getD (i - l.length) z)))) (fs:=fs) pos (n':=(l++m).length) (fun i=>f ((l++m).getD i z)) (l4 h) qP fun i hi=>by
  simp only [gE]
  by_cases hil:i<l.length
  ·rw [if_pos hil,List.getElem?_append_left hil]
  ·rw [if_neg hil,List.getElem?_append_right qN]
 rw [set_set] at h2
 exact h2
theorem wD {l:List α} {i j:Nat} {x z:α} (h:j<l.length):(l.set j x).getD i z=if i=j then x else l.getD i z:=by
 simp only [gE,List.getElem?_set]
 by_cases hij:j=i
 ·subst hij; simp [h]
 ·have:i≠j:=fun e=>hij e.symm
  simp [hij,this]
theorem Seals.L {v:Value} {l:List α} (pos:Nat) (h:a8 os pos=some (jY size f z v l)) (hs:isSl v):Seals os fs (cR os pos) ((v,LD size f z l)::fs) :=
 Seals.slice pos (fun i=>f (l.getD i z)) h hs fun _ _=>rfl
end
abbrev Row:=List (Bool×List Nat)
def z0:Bool×List Nat:=(false,[])
def J (x:Bool×List Nat):Dat:=I x.1 x.2
def jv (x:Bool×List Nat):Int:=iv x.1 x.2
def V (r:Row):Dat:=LD 2 J z0 r
def W (m:List Row):Dat:=LD 1 V [] m
def vv (r:Row):List Int:=r.map jv
def ww (m:List Row):List (List Int):=m.map vv
def cn (x:Int):Bool×List Nat:=(decide (x<0),bT x.natAbs)
def vd (l:List Int):Dat:=V (l.map cn)
def wd (m:List (List Int)):Dat:=W (m.map (·.map cn))
theorem eR (x:Int):jv (cn x)=x:=nC x
theorem fR (l:List Int):vv (l.map cn)=l:=by
 unfold vv; rw [List.map_map]
 conv=>rhs; rw [← List.map_id l]
 exact List.map_congr_left fun x _=>eR x
theorem ww_cn (m:List (List Int)):ww (m.map (·.map cn))=m:=by
 unfold ww; rw [List.map_map]
 conv=>rhs; rw [← List.map_id m]
 exact List.map_congr_left fun x _=>fR x
def Fit (k:Nat) (r:Row):Prop:=∀ x,x∈r→Lim x.2∧x.2.length≤k
def Fits (k:Nat) (m:List Row):Prop:=∀ r,r∈m→Fit k r
theorem Fit.get {k:Nat} {r:Row} (h:Fit k r) (i:Nat):Lim (r.getD i z0).2∧(r.getD i z0).2.length≤k:=by
 rw [gE]
 cases hi:r[i]? with
 | none=>exact ⟨Lim.nil,Nat.zero_le _⟩
 | some x=>exact h x (List.mem_of_getElem? hi)
theorem Fits.get {k:Nat} {m:List Row} (h:Fits k m) (i:Nat):Fit k (m.getD i []):=by
 rw [gE]
 cases hi:m[i]? with
 | none=>exact fun _ h=>by cases h
 | some x=>exact h x (List.mem_of_getElem? hi)
theorem iZ (r:Row):jC Tryz.prog 22 (V r):=(inferInstance:mJ Tryz.prog 22)
theorem kX (r:Row):jC Tryz.prog 23 (V r):=(inferInstance:mJ Tryz.prog 23)
theorem load_W (m:List Row):jC Tryz.prog 39 (W m):=(inferInstance:mJ Tryz.prog 39)
theorem bM (x:Bool×List Nat):jC Tryz.prog 26 (J x):=aN _ _
theorem AppendK.post {P:Program} {ts:List TypeId} {ty:TypeId} {a b:Value} {os:List Own} {fs:List bD} {K:bZ} (h:AppendK P ts ty a b os fs fun v os' fs'=>∃ os'' fs'',Seals os' fs' os'' fs''∧K v os'' fs''):AppendK P ts ty a b os fs K :=
 ⟨Dyn.sealed h.out⟩
theorem StoreK.post {P:Program} {t:TypeId} {a b:Value} {os:List Own} {fs:List bD} {K:bZ} (h:StoreK P t a b os fs fun v os' fs'=>∃ os'' fs'',Seals os' fs' os'' fs''∧K v os'' fs''):StoreK P t a b os fs K :=
 ⟨Dyn.sealed h.out⟩
theorem vQ {l m:List Nat} (hl:l.length=m.length) (h:∀ i,i<l.length→l.getD i 0=m.getD i 0):l=m:=by
 refine List.ext_getElem hl fun n h1 h2=>?_
 have:=h n h1
 simpa [gE,h1,h2] using this
theorem wJ (v w:Value) (x y:Bool×List Nat) :
  Meets Tryz.prog 47 [v,w] [(v,J x),(w,J y)] (fun r os fs=>os=[]∧fs=[]∧r=.bool (decide (x=y))):=by
 refine mV Tryz.func47 ?_
 refine bA (aC (d:=J x) qM) fun p hp=>?_
 refine bA (aC (d:=J y) qM) fun q hq=>?_
 refine aS 1 rfl hp ?_
 refine aJ 1 rfl (aZ (aK _)) ?_
 refine aS 0 rfl hq ?_
 refine aJ 0 rfl (aZ (aK _)) ?_
 refine iD (fun hc=>?_) (fun hc=>?_)
 ·refine fin ⟨rfl,rfl,?_⟩ (aA (dS (aW 0 _ _)) (aH _ _))
  rw [decide_eq_false (fun e=>hc (by rw [e]))]; rfl
 ·
  refine aS 1 rfl hp ?_
  refine aP 1 rfl (aR (aK _)) (dH _) fun u=>?_
  refine aT qM fun _=>?_
  refine aS 0 rfl hq ?_
  refine aP 0 rfl (aR (aK _)) (dH _) fun u'=>?_
  refine aT qM fun _=>?_
  refine aD _ rfl (fun hl=>?_) (fun hl=>?_)
  ·refine fin ⟨rfl,rfl,?_⟩ (aA (dS (aW 0 _ _)) (aH _ _))
   rw [decide_eq_false (fun e=>hl (by rw [e]))]; rfl
  ·have hl':x.2.length=y.2.length:=by omega
   refine aO (X:=Nat) (fun i=>([(2,p),(3,q),(5,.int .i64 (i:Nat))],[bE q 2 1 (fun _=>J y),bE p 2 1 (fun _=>J x)],[]))
    (fun i=>i≤x.2.length∧∀ k,k<i→x.2.getD k 0=y.2.getD k 0) (fun i=>x.2.length - i) rfl ?_ ?_
   ·exact aU 0 ⟨Nat.zero_le _,fun k hk=>absurd hk (Nat.not_lt_zero _)⟩ trivial qF (aH _ _)
   ·rintro i ⟨h1,h2⟩
    refine aS 1 rfl hp ?_
    refine aP 1 rfl (aR (aK _)) (dH _) fun u=>?_
    refine aT qM fun _=>?_
    refine aD _ rfl (fun hi=>?_) (fun hi=>?_)
    ·refine aY [0,1,2,3,4,5,6,7,8,9,10] [0,1,2,3,4,5,6,7,8,9,10] qK qK ?_
     refine aS 1 rfl hp ?_
     refine aP 1 rfl (aR (aK _)) (dH _) fun u1=>?_
     refine aQ qM i rfl qN fun a1=>?_
     refine bO qM ?_
     refine aS 0 rfl hq ?_
     refine aP 0 rfl (aR (aK _)) (dH _) fun u2=>?_
     refine aQ qM i rfl qN fun a2=>?_
     refine bO qM ?_
     refine aD _ rfl (fun he=>?_) (fun he=>?_)
     ·refine fin ⟨rfl,rfl,?_⟩ (aA (dS (aW 0 _ _)) (aH _ _))
      rw [decide_eq_false (fun e=>he (by rw [e]))]; rfl
     ·refine ar rfl qI ?_
      refine aU (i+1) ⟨by omega,fun k hk=>?_⟩ (by simp only; omega) qF (aH _ _)
      by_cases hki:k=i
      ·subst hki; omega
      ·exact h2 k qN
    ·refine fin ⟨rfl,rfl,?_⟩ (aA (dS (aW 0 _ _)) (aH _ _))
     rw [decide_eq_true (Prod.ext_iff.2 ⟨hc,vQ hl' fun k hk=>h2 k qN⟩)]; rfl
theorem gI {α:Type} {l m:List α} (z:α) (hl:l.length=m.length) (h:∀ i,i<l.length→l.getD i z=m.getD i z):l=m:=by
 refine List.ext_getElem hl fun n h1 h2=>?_
 have:=h n h1
 simpa [gE,h1,h2] using this
theorem o9 (v w:Value) (a b:Row) :
  Meets Tryz.prog 26 [v,w] [(v,V a),(w,V b)] (fun r os fs=>os=[]∧fs=[]∧r=.bool (decide (a=b))):=by
 refine mV Tryz.func26 ?_
 refine aT qM fun _=>?_
 refine aT qM fun _=>?_
 refine aD _ rfl (fun hl=>?_) (fun hl=>?_)
 ·refine fin ⟨rfl,rfl,?_⟩ (aH _ _)
  rw [decide_eq_false (fun e=>hl (by rw [e]))]; rfl
 ·have hl':a.length=b.length:=by omega
  refine aO (X:=Nat) (fun i=>([(0,v),(1,w),(5,.int .i64 (i:Nat))],[],[(v,V a),(w,V b)]))
   (fun i=>i≤a.length∧∀ k,k<i→a.getD k z0=b.getD k z0) (fun i=>a.length - i) rfl ?_ ?_
  ·exact aU 0 ⟨Nat.zero_le _,fun k hk=>absurd hk (Nat.not_lt_zero _)⟩ trivial qF (aB qS)
  ·rintro i ⟨h1,h2⟩
   refine aT qM fun _=>?_
   refine aD _ rfl (fun hi=>?_) (fun hi=>?_)
   ·refine aY [0,1,2,3,4,5,6,7,8,9] [0,1,2,3,4,5,6,7,8,9] qK qK ?_
    refine aQ qM i rfl qN fun a1=>?_
    refine aX (d:=J (a.getD i z0)) qM (bM _) fun x1=>?_
    refine aQ qM i rfl qN fun a2=>?_
    refine aX (d:=J (b.getD i z0)) qM (bM _) fun x2=>?_
    refine cH (wJ x1 x2 (a.getD i z0) (b.getD i z0)) ?_
    by_cases he:a.getD i z0=b.getD i z0
    ·rw [decide_eq_true he]
     refine ar rfl qI ?_
     refine aU (i+1) ⟨by omega,fun k hk=>?_⟩ (by simp only; omega) qF (aB qS)
     by_cases hki:k=i
     ·subst hki; exact he
     ·exact h2 k qN
    ·rw [decide_eq_false he]
     refine fin ⟨rfl,rfl,?_⟩ (aH _ _)
     rw [decide_eq_false (fun e=>he (by rw [e]))]; rfl
   ·refine fin ⟨rfl,rfl,?_⟩ (aH _ _)
    rw [decide_eq_true (gI z0 hl' fun k hk=>h2 k qN)]; rfl
theorem rFits_meets (v:Value) (a:Row) (n k:Nat) :
  Meets Tryz.prog 49 [v,.int .i64 (n:Int),.int .i64 (k:Int)] [(v,V a)] (fun r os fs=>os=[]∧fs=[]∧r=.bool (decide (a.length≤n∧∀ x,x∈a→x.2.length≤k))):=by
 refine mV Tryz.func49 ?_
 refine aT qM fun _=>?_
 refine aD _ rfl (fun hl=>?_) (fun hl=>?_)
 ·refine fin ⟨rfl,rfl,?_⟩ (aH _ _)
  rw [decide_eq_false (fun e=>by have:=e.1; omega)]; rfl
 ·refine aO (X:=Nat) (fun i=>([(0,v),(1,.int .i64 (n:Nat)),(2,.int .i64 (k:Nat)),(7,.int .i64 (i:Nat))],[],[(v,V a)]))
   (fun i=>i≤a.length∧∀ j,j<i→(a.getD j z0).2.length≤k) (fun i=>a.length - i) rfl ?_ ?_
  ·exact aU 0 ⟨Nat.zero_le _,fun k hk=>absurd hk (Nat.not_lt_zero _)⟩ trivial qF (aB qS)
  ·rintro i ⟨h1,h2⟩
   refine aT qM fun _=>?_
   refine aD _ rfl (fun hi=>?_) (fun hi=>?_)
   ·have hlt:i<a.length:=by omega
    refine aQ qM i rfl hlt fun a1=>?_
    refine cQ (off:=1) (d:=J (a.getD i z0)) (d':=U (a.getD i z0).2) qM (aR (aK _)) fun a2=>?_
    refine aX (d:=U (a.getD i z0).2) qM (dH _) fun x1=>?_
    refine aT qM fun _=>?_
    refine aD _ rfl (fun he=>?_) (fun he=>?_)
    ·refine fin ⟨rfl,rfl,?_⟩ (aH _ _)
     refine congrArg Value.bool (decide_eq_false fun e=>?_).symm
     have:=e.2 (a.getD i z0) (by rw [gE,List.getElem?_eq_getElem hlt]; exact List.getElem_mem hlt)
     omega
    ·refine ar rfl qI ?_
     refine aU (i+1) ⟨by omega,fun j hj=>?_⟩ (by simp only; omega) qF (aB qS)
     by_cases hji:j=i
     ·subst hji; omega
     ·exact h2 j qN
   ·refine fin ⟨rfl,rfl,?_⟩ (aH _ _)
    refine congrArg Value.bool (decide_eq_true ⟨by omega,fun x hx=>?_⟩).symm
    obtain ⟨j,hj,rfl⟩:=List.getElem_of_mem hx
    have:=h2 j qN
    simpa [gE,hj] using this
theorem cI {P:Program} {t:TypeId} {a b:Value} {os:List Own} {fs:List bD} {K:bZ} (h:StoreK P t a b os fs fun v os' fs'=>∃ os'' fs'',Seals os' fs' os'' fs''∧K v os'' fs''):StoreK P t a b os fs K:=StoreK.post h
theorem zero_meets (v:Value) (x:Bool×List Nat) (hx:Lim x.2) (hl:x.2.length≤1099511627776) :
  Meets Tryz.prog 69 [v] [(v,J x)] (fun r os fs=>os=[]∧fs=[]∧r=.bool (decide (jv x=0))):=by
 refine mV Tryz.func69 ?_
 refine bA (aC (d:=J x) qM) fun p hp=>?_
 refine aF (d:=J x) 0 rfl hp rfl (bM _) fun u=>?_
 refine cH (uY u x.1 x.2 hx hl) ?_
 refine aD _ rfl (fun hc=>?_) (fun hc=>?_)
 ·refine fin ⟨rfl,rfl,?_⟩ (dS (aH _ _))
  exact congrArg Value.bool (decide_eq_true (show jv x=0 from Int.sign_eq_zero_iff_zero.1 hc)).symm
 ·refine fin ⟨rfl,rfl,?_⟩ (dS (aH _ _))
  exact congrArg Value.bool (decide_eq_false (fun e:jv x=0=>hc (Int.sign_eq_zero_iff_zero.2 e))).symm
def sE (l:List Int):Nat→Int
 | 0 => -1
 | k+1=>if l.getD k 0=0 then sE l k else (k:Int)
def deg (l:List Int):Int:=sE l l.length
theorem lO (r:Row) (i:Nat) (h:i<r.length):(vv r).getD i 0=jv (r.getD i z0):=by
 unfold vv; simp [gE,h]
theorem cV (r:Row):(vv r).length=r.length:=by unfold vv; simp
theorem rDegree_meets (v:Value) (a:Row) (ha:Fit 1099511627776 a) :
  Meets Tryz.prog 29 [v] [(v,V a)] (fun r os fs=>os=[]∧fs=[]∧r=.int .i64 (deg (vv a))):=by
 refine mV Tryz.func29 ?_
 refine aT qM fun _=>?_
 refine ar rfl qI ?_
 refine aO (X:=Nat) (fun k=>([(0,v),(3,.int .i64 ((k:Int) - 1))],[],[(v,V a)])) (fun k=>k≤a.length∧sE (vv a) k=deg (vv a)) (fun k=>k) rfl ?_ ?_
 ·exact aU a.length ⟨Nat.le_refl _,by unfold deg; rw [cV]⟩ trivial qF (aB qS)
 ·rintro k ⟨h1,h2⟩
  refine aD _ rfl (fun hc=>?_) (fun hc=>?_)
  ·obtain ⟨i,rfl⟩:∃ i,k=i+1:=⟨k - 1,by omega⟩
   refine aQ qM i qN qN fun a1=>?_
   refine aX (d:=J (a.getD i z0)) qM (bM _) fun x1=>?_
   refine cH (zero_meets x1 (a.getD i z0) (ha.get i).1 (ha.get i).2) ?_
   have hg:=lO a i qN
   by_cases hz:jv (a.getD i z0)=0
   ·rw [decide_eq_true hz]
    refine ar rfl qI ?_
    refine aU i ⟨by omega,?_⟩ (by simp only; omega) qF (aB qS)
    rw [← h2,sE,if_pos (by rw [hg]; exact hz)]
   ·rw [decide_eq_false hz]
    refine fin ⟨rfl,rfl,?_⟩ (aH _ _)
    rw [← h2,sE,if_neg (by rw [hg]; exact hz)]
    exact congrArg (Value.int .i64) qN
  ·have hk:k=0:=by omega
   subst hk
   exact fin ⟨rfl,rfl,by rw [← h2]; rfl⟩ (aH _ _)
theorem zd_zero:zd 0=I false []:=by unfold zd; rw [show (0:Int).natAbs=0 from rfl,bR]; rfl
def right {α:Type} (m:List (List α)):Prop:=0<m.length∧∀ r,r∈m→0<r.length∧r.length=(m.getD 0 []).length
def mA {α:Type} (m:List (List α)):Prop:=right m∧m.length=(m.getD 0 []).length
instance {α:Type} (m:List (List α)):Decidable (right m):=inferInstanceAs (Decidable (_∧_))
instance {α:Type} (m:List (List α)):Decidable (mA m):=inferInstanceAs (Decidable (_∧_))
theorem dT {α:Type} {l:List α} {i:Nat} (z:α) (h:i<l.length):l.getD i z∈l:=by
 rw [gE,List.getElem?_eq_getElem h]; exact List.getElem_mem h
theorem mem_getD {α:Type} {l:List α} {x:α} (z:α) (h:x∈l):∃ i,i<l.length∧l.getD i z=x:=by
 obtain ⟨i,hi,rfl⟩:=List.getElem_of_mem h
 exact ⟨i,hi,by simp [gE,hi]⟩
theorem right_of {α:Type} {m:List (List α)} (h0:0<m.length) (h:∀ i,i<m.length→0<(m.getD i []).length∧(m.getD i []).length=(m.getD 0 []).length):right m :=
 ⟨h0,fun r hr=>by obtain ⟨i,hi,rfl⟩:=mem_getD [] hr; exact h i hi⟩
theorem right.get {α:Type} {m:List (List α)} (h:right m) {i:Nat} (hi:i<m.length):0<(m.getD i []).length∧(m.getD i []).length=(m.getD 0 []).length:=h.2 _ (dT [] hi)
theorem tA (v:Value) (m:List Row) :
  Meets Tryz.prog 70 [v] [(v,W m)] (fun r os fs=>os=[]∧fs=[]∧r=.bool (decide (right m))):=by
 refine mV Tryz.func70 ?_
 refine aT qM fun _=>?_
 refine aD _ rfl (fun hc=>?_) (fun hc=>?_)
 ·exact fin ⟨rfl,rfl,congrArg Value.bool (decide_eq_false fun e=>by have:=e.1; omega).symm⟩ (aH _ _)
 ·refine aQ qM 0 rfl qN fun a3=>?_
  refine aX (d:=V (m.getD 0 [])) qM (iZ _) fun x3=>?_
  refine aT qM fun _=>?_
  refine aD _ rfl (fun hd=>?_) (fun hd=>?_)
  ·exact fin ⟨rfl,rfl,congrArg Value.bool (decide_eq_false fun e=>by have:=(e.get (i:=0) qN).1; omega).symm⟩ (aH _ _)
  ·refine aT qM fun _=>?_
   refine aO (X:=Nat) (fun i=>([(0,v),(15,v),(16,.int .i64 (m.length:Nat)),(17,.int .i64 (i:Nat))],[],[(v,W m)]))
    (fun i=>i≤m.length∧∀ k,k<i→0<(m.getD k []).length∧(m.getD k []).length=(m.getD 0 []).length) (fun i=>m.length - i) rfl ?_ ?_
   ·exact aU 0 ⟨Nat.zero_le _,fun k hk=>absurd hk (Nat.not_lt_zero _)⟩ trivial qF (aB qS)
   ·rintro i ⟨h1,h2⟩
    refine aD _ rfl (fun hi=>?_) (fun hi=>?_)
    ·have hlt:i<m.length:=by omega
     refine aQ qM i rfl hlt fun a1=>?_
     refine aX (d:=V (m.getD i [])) qM (iZ _) fun x1=>?_
     refine aT qM fun _=>?_
     refine aQ qM 0 rfl qN fun a3=>?_
     refine aX (d:=V (m.getD 0 [])) qM (iZ _) fun x3=>?_
     refine aT qM fun _=>?_
     refine aD _ rfl (fun he=>?_) (fun he=>?_)
     ·exact fin ⟨rfl,rfl,congrArg Value.bool (decide_eq_false fun e=>by have:=(e.get hlt).2; omega).symm⟩ (aH _ _)
     ·refine ar rfl qI ?_
      refine aU (i+1) ⟨by omega,fun k hk=>?_⟩ (by simp only; omega) qF (aB qS)
      by_cases hki:k=i
      ·subst hki; omega
      ·exact h2 k qN
    ·exact fin ⟨rfl,rfl,congrArg Value.bool (decide_eq_true (right_of qN fun k hk=>h2 k qN)).symm⟩ (aH _ _)
theorem mSquare_meets (v:Value) (m:List Row) :
  Meets Tryz.prog 91 [v] [(v,W m)] (fun r os fs=>os=[]∧fs=[]∧r=.bool (decide (mA m))):=by
 refine mV Tryz.func91 ?_
 refine cH (tA v m) ?_
 by_cases hr:right m
 ·rw [decide_eq_true hr]
  refine aT qM fun _=>?_
  refine aQ qM 0 rfl hr.1 fun a3=>?_
  refine aX (d:=V (m.getD 0 [])) qM (iZ _) fun x3=>?_
  refine aT qM fun _=>?_
  refine aD _ rfl (fun he=>?_) (fun he=>?_)
  ·exact fin ⟨rfl,rfl,congrArg Value.bool (decide_eq_true (⟨hr,by omega⟩:mA m)).symm⟩ (aH _ _)
  ·exact fin ⟨rfl,rfl,congrArg Value.bool (decide_eq_false fun e:mA m=>by have:=e.2; omega).symm⟩ (aH _ _)
 ·rw [decide_eq_false hr]
  exact fin ⟨rfl,rfl,congrArg Value.bool (decide_eq_false fun e:mA m=>hr e.1).symm⟩ (aH _ _)
theorem uX (v w:Value) (a b:List Row) :
  Meets Tryz.prog 20 [v,w] [(v,W a),(w,W b)] (fun r os fs=>os=[]∧fs=[]∧r=.bool (decide (a=b))):=by
 refine mV Tryz.func20 ?_
 refine aT qM fun _=>?_
 refine aT qM fun _=>?_
 refine aD _ rfl (fun hl=>?_) (fun hl=>?_)
 ·exact fin ⟨rfl,rfl,congrArg Value.bool (decide_eq_false (fun e=>hl (by rw [e]))).symm⟩ (aH _ _)
 ·have hl':a.length=b.length:=by omega
  refine aO (X:=Nat) (fun i=>([(0,v),(1,w),(5,.int .i64 (i:Nat))],[],[(v,W a),(w,W b)]))
   (fun i=>i≤a.length∧∀ k,k<i→a.getD k []=b.getD k []) (fun i=>a.length - i) rfl ?_ ?_
  ·exact aU 0 ⟨Nat.zero_le _,fun k hk=>absurd hk (Nat.not_lt_zero _)⟩ trivial qF (aB qS)
  ·rintro i ⟨h1,h2⟩
   refine aT qM fun _=>?_
   refine aD _ rfl (fun hi=>?_) (fun hi=>?_)
   ·refine aY [0,1,2,3,4,5,6,7,8,9] [0,1,2,3,4,5,6,7,8,9] qK qK ?_
    refine aQ qM i rfl qN fun a1=>?_
    refine aX (d:=V (a.getD i [])) qM (iZ _) fun x1=>?_
    refine aQ qM i rfl qN fun a2=>?_
    refine aX (d:=V (b.getD i [])) qM (iZ _) fun x2=>?_
    refine cH (o9 x1 x2 (a.getD i []) (b.getD i [])) ?_
    by_cases he:a.getD i []=b.getD i []
    ·rw [decide_eq_true he]
     refine ar rfl qI ?_
     refine aU (i+1) ⟨by omega,fun k hk=>?_⟩ (by simp only; omega) qF (aB qS)
     by_cases hki:k=i
     ·subst hki; exact he
     ·exact h2 k qN
    ·rw [decide_eq_false he]
     exact fin ⟨rfl,rfl,congrArg Value.bool (decide_eq_false (fun e=>he (by rw [e]))).symm⟩ (aH _ _)
   ·exact fin ⟨rfl,rfl,congrArg Value.bool (decide_eq_true (gI [] hl' fun k hk=>h2 k qN)).symm⟩ (aH _ _)
theorem rQ {α:Type} {l:List α} {i:Nat} (z:α) (h:i<l.length):l.take (i+1)=l.take i++[l.getD i z]:=by
 rw [List.take_add_one]; simp [gE,h]
theorem slice_L {α:Type} {size:Nat} {f:α→Dat} {z:α} {P:Program} {t e:TypeId} {v:Value} {l:List α} {kl kh:IntKind} {os:List Own} {fs:List bD} {K:bZ} [ht:TSl P t e size]
  (hm:(v,LD size f z l)∈fs) (lo hi:Nat) (x y:Option Value) (hl:(x=none∧lo=0)∨x=some (.int kl lo)) (hh:(y=none∧hi=l.length)∨y=some (.int kh hi)) (h1:lo≤hi) (h2:hi≤l.length)
  (k:∀ u,K u os ((u,LD size f z ((l.take hi).drop lo))::(u,.sl size (hi - lo) fun i=>f (l.getD (lo+i) z))::fs)):SliceK P t v x y none os fs K:=by
 have h:=oN (P:=P) (t:=t) (os:=os) (fs:=fs) (K:=fun u os' fs'=>os'=os∧fs'=(u,.sl size (hi - lo) fun i=>f (l.getD (lo+i) z))::fs) hm lo hi x y hl hh h1 h2 fun u=>⟨rfl,rfl⟩
 refine ⟨fun G w hw=>?_⟩
 obtain ⟨u,fs',e1,⟨_,rfl⟩,hw'⟩:=h.out G w hw
 refine ⟨u,_,e1,k u,?_⟩
 refine Seals.add (Knw.cast (Knw.sl_cong (e':=fun i=>f (((l.take hi).drop lo).getD i z)) (bC (List.Mem.head _)) fun i hi'=>?_) ?_) G w hw'
 ·simp only [gE,List.getElem?_drop]
  rw [List.getElem?_take_of_lt qN]
 ·unfold LD
  rw [List.length_drop,List.length_take,Nat.min_eq_left h2]
def addE (x:Nat):Nat→List Oper→List Oper
 | _,[]=>[]
 | 0,o::r=>{ o with after:=o.after.push ⟨x,.chain⟩ }::r
 | k+1,o::r=>o::addE x k r
theorem uE (x:Nat):∀ (k:Nat) (L:List Oper) (i:Nat),(addE x k L)[i]? = if i=k then (L[i]?).map fun o=>{ o with after:=o.after.push ⟨x,.chain⟩ } else L[i]?
 | _,[],i=>by simp [addE]
 | 0,o::r,0=>by simp [addE]
 | 0,o::r,i+1=>by simp [addE]
 | k+1,o::r,0=>by simp [addE]
 | k+1,o::r,i+1=>by simp [addE,uE x k r i]
theorem addE_len (x:Nat):∀ (k:Nat) (L:List Oper),(addE x k L).length=L.length
 | _,[]=>by simp [addE]
 | 0,o::r=>by simp [addE]
 | k+1,o::r=>by simp [addE,addE_len x k r]
theorem yielded_addE (x k:Nat) (L:List Oper) (t:Array Value):yielded (addE x k L).toArray t=yielded L.toArray t:=by
 funext i
 have h:((addE x k L).toArray[i]?).bind (·.dst)=(L.toArray[i]?).bind (·.dst):=by
  simp only [List.getElem?_toArray,uE]
  split
  ·cases L[i]? <;> rfl
  ·rfl
 simp only [yielded,h]
theorem rN {P:Program} {x k:Nat} {L:List Oper} {Q:Exit→Act→World→Prop}:∀ (l:List Nat),wpOps P (addE x k L).toArray Q l=wpOps P L.toArray Q l
 | []=>rfl
 | i::rest=>by
  have ih:=rN (P:=P) (x:=x) (k:=k) (L:=L) (Q:=Q) rest
  funext a w
  simp only [wpOps,yielded_addE,ih,List.getElem?_toArray,uE]
  by_cases hik:i=k
  ·rw [if_pos hik]
   cases L[i]? <;> rfl
  ·rw [if_neg hik]
structure OrdK (P:Program) (N:Nat) (L:List Oper) (f:Fr) (os:List Own) (fs:List bD) (K:lJ):Prop where
 out:∀ (G:Ctx) (Q:pC),Q .normal=K→∀ l,oJ .any L l→∀ a w,Knows N f a→Holds G os fs w→wpOps P L.toArray (tW N G Q) l a w
theorem sR {L:List Oper} {g:List Nat} (h:pO L.length g 0 L=true) (mixed:Bool) (t:Nat):oJ .any L (Region.schedule mixed L.toArray t):=by
 have he:=mQ h
 have weaken:∀ {m:Region.Mode} {l:List Nat},oJ m L l→oJ .any L l:=fun ho=>⟨ho.nodup,ho.all,fun pre i post hp j ⟨o,h1,e,h2,h3,h4⟩=>ho.before pre i post hp j ⟨o,h1,e,h2,binds_any h3,h4⟩⟩
 have text:∀ t,oJ .text L (Region.linearise .text L.toArray t):=fun t=>fS (ops:=L.toArray) id (fun i j ⟨o,h1,e,h2,h3,h4⟩=>by
  have:=he i o h1 e h2; subst h4; exact ⟨by simpa using this.1,by simpa using this.2.1 h3⟩) t
 have any:∀ t,oJ .any L (Region.linearise .any L.toArray t):=fun t=>fS (ops:=L.toArray) id (fun i j ⟨o,h1,e,h2,h3,h4⟩=>by
  have:=he i o h1 e h2; subst h4; exact ⟨by simpa using this.1,by simpa using this.2.2.1 h3⟩) t
 have gc:∀ t,oJ .gc L (Region.linearise .gc L.toArray t):=fun t=>fS (ops:=L.toArray) (posOf g) (fun i j ⟨o,h1,e,h2,h3,h4⟩=>by
  have:=he i o h1 e h2; subst h4; exact ⟨by simpa using this.1,by simpa using this.2.2.2 h3⟩) t
 unfold Region.schedule
 split
 ·exact any t
 ·split
  ·exact weaken (text _)
  ·exact weaken (gc _)
theorem gO {P:Program} {N id:Nat} {L:List Oper} {f:Fr} {os:List Own} {fs:List bD} {K:lJ} (g:List Nat) (hok:pO L.length g 0 L=true) (h:OrdK P N L f os fs K):DrawK P N id L f os fs K :=
 ⟨fun G Q hQ a w hk hw=>wp_region_draw fun t=>h.out G Q hQ _ (sR hok _ t) a _ hk (hw.grow ((Below.refl w.heap.size w).drew))⟩
theorem a9 {P:Program} {N:Nat} {L:List Oper} {f:Fr} {os:List Own} {fs:List bD} {K:lJ} (x y:Nat) (hx:Nat.blt x L.length=true) (hy:Nat.blt y L.length=true) (hne:Nat.beq x y=false)
  (h1:OrdK P N (addE x y L) f os fs K) (h2:OrdK P N (addE y x L) f os fs K):OrdK P N L f os fs K:=by
 refine ⟨fun G Q hQ l hl a w hk hw=>?_⟩
 have hx':x<L.length:=by simpa using hx
 have hy':y<L.length:=by simpa using hy
 have hne':x≠y:=fun e=>by subst e; simp at hne
 have key:∀ x y,(∀ pre post,l=pre++y::post→x∈pre)→oJ .any (addE x y L) l:=by
  intro x y hxy
  refine ⟨hl.nodup,fun i=>by rw [addE_len]; exact hl.all i,fun pre i post hp j ⟨o,h1,e,h2,h3,h4⟩=>?_⟩
  rw [uE] at h1
  by_cases hik:i=y
  ·rw [if_pos hik] at h1
   cases hL:L[i]? with
   | none=>simp [hL] at h1
   | some o' =>
    simp only [hL,Option.map_some,Option.some.injEq] at h1
    subst h1
    simp only [Array.toList_push,List.mem_append,List.mem_singleton] at h2
    rcases h2 with h2 | h2
    ·exact hl.before pre i post hp j ⟨o',hL,e,h2,h3,h4⟩
    ·subst h2
     simp only at h4
     subst h4
     exact hxy pre post (by rw [hp,hik])
  ·rw [if_neg hik] at h1
   exact hl.before pre i post hp j ⟨o,h1,e,h2,h3,h4⟩
 have hxm:x∈l:=(hl.all x).2 hx'
 have hym:y∈l:=(hl.all y).2 hy'
 obtain ⟨pre,post,rfl⟩:=List.append_of_mem hym
 have hnod:=hl.nodup
 have uniq:∀ (z:Nat) (p q p' q':List Nat),(p++z::q).Nodup→p++z::q=p'++z::q'→p=p':=by
  intro z p
  induction p with
  | nil =>
   intro q p' q' hn he
   cases p' with
   | nil=>rfl
   | cons c p' =>
    simp only [List.nil_append,List.cons_append,List.cons.injEq] at he
    obtain ⟨rfl,rfl⟩:=he
    simp at hn
  | cons c p ih =>
   intro q p' q' hn he
   cases p' with
   | nil =>
    simp only [List.nil_append,List.cons_append,List.cons.injEq] at he
    obtain ⟨rfl,rfl⟩:=he
    simp at hn
   | cons c' p' =>
    simp only [List.cons_append,List.cons.injEq] at he
    obtain ⟨rfl,he⟩:=he
    rw [ih q p' q' (List.nodup_cons.1 hn).2 he]
 rcases List.mem_append.1 hxm with hm | hm
 ·have:=h1.out G Q hQ _ (key x y fun pre' post' hp=>by rw [← uniq y pre post pre' post' hnod hp]; exact hm) a w hk hw
  rwa [rN] at this
 ·rcases List.mem_cons.1 hm with rfl | hm
  ·exact absurd rfl hne'
  ·obtain ⟨p2,q2,rfl⟩:=List.append_of_mem hm
   have:=h2.out G Q hQ _ (key y x fun pre' post' hp=>by
    have e:pre++y::(p2++x::q2)=(pre++y::p2)++x::q2:=by simp
    rw [← uniq x (pre++y::p2) q2 pre' post' (by rw [← e]; exact hnod) (by rw [← e]; exact hp)]
    simp) a w hk hw
   rwa [rN] at this
def ordOK (L:List Oper) (c:List Nat):Bool :=
 Nat.beq c.length L.length&&(List.range L.length).all (fun i=>c.any (Nat.beq i))&&vG L (rG L []) c
theorem vJ {L:List Oper} {c:List Nat} (h:ordOK L c=true):kK L (rG L []) c:=by
 simp only [ordOK,Bool.and_eq_true] at h
 obtain ⟨⟨_,h2⟩,h3⟩:=h
 obtain ⟨g1,g2,g3,g4⟩:=mM h3
 refine ⟨g1,fun i=>⟨g2 i,fun hi=>?_⟩,g3,g4⟩
 have:=List.all_eq_true.1 h2 i (by simpa using hi)
 obtain ⟨x,hx,hb⟩:=List.any_eq_true.1 this
 have:=Nat.eq_of_beq_eq_true hb
 subst this
 exact hx
theorem eE {P:Program} {N:Nat} {L:List Oper} {f:Fr} {os:List Own} {fs:List bD} {K:lJ} (c:List Nat) (hok:ordOK L c=true) (hdst:gN N L=true)
  (k:VCops P true L (jI L c) f os fs K):OrdK P N L f os fs K:=by
 refine ⟨fun G Q hQ l hord a w hk hw=>?_⟩
 have hc:=vJ hok
 refine sim (f0:=f) hc hdst hQ _ (fun _=>False) (vd:=[]) (c':=c) (val:=fun _=>undef) (vf:=f) (os:=os) (fs:=fs) ?_ (fun i=>by simpa using (hord.all i).symm) hord.nodup (fun _ _ h=>h) (fun pre i post hp j hj=>.inr (hord.before pre i post hp j hj))
 exact ⟨rfl,fun _ h=>h.elim,fun _ h=>h.elim,hk.defers,hk.size,fun t v ht=>hk.holds t v (by
  rcases ht with ⟨_,_,h,_⟩ | h
  ·exact h.elim
  ·exact h.1),fun t v ht=>.inr ⟨ht,fun j o hj=>by simp at hj⟩,fun k o hk=>by simp at hk,hw,k⟩
def cM (g:Nat→Int):Nat→Int
 | 0=>0
 | k+1=>cM g k+g k
theorem bI {g g':Nat→Int}:∀ {n:Nat},(∀ k,k<n→g k=g' k)→cM g n=cM g' n
 | 0,_=>rfl
 | n+1,h=>by simp only [cM]; rw [bI (n:=n) fun k hk=>h k qN,h n qN]
theorem eT {g:Nat→Int}:∀ {n:Nat},(∀ k,k<n→g k=0)→cM g n=0
 | 0,_=>rfl
 | n+1,h=>by simp only [cM]; rw [eT (n:=n) fun k hk=>h k qN,h n qN]; rfl
theorem kI (a b:Int) (f g:Nat→Int):∀ n,cM (fun k=>a*f k+b*g k) n=a*cM f n+b*cM g n
 | 0=>by simp [cM]
 | n+1=>by simp only [cM]; rw [kI a b f g n]; grind
theorem qY (f g:Nat→Int) (n:Nat):cM (fun k=>f k+g k) n=cM f n+cM g n:=by
 have:=kI 1 1 f g n; simpa using this
theorem fY (a:Int) (f:Nat→Int) (n:Nat):cM (fun k=>a*f k) n=a*cM f n:=by
 have:=kI a 0 f f n; simpa using this
theorem isum_neg (f:Nat→Int) (n:Nat):cM (fun k => - f k) n = - cM f n:=by
 have:=fY (-1) f n; simpa using this
theorem fK (a:Int) (f:Nat→Int) (n:Nat):cM (fun k=>f k*a) n=cM f n*a:=by
 rw [Int.mul_comm,← fY]; exact bI fun k _=>Int.mul_comm _ _
theorem gW {g:Nat→Int} {n r:Nat} (hr:r<n) (h:∀ k,k<n→k≠r→g k=0):cM g n=g r:=by
 induction n with
 | zero=>omega
 | succ n ih =>
  simp only [cM]
  by_cases hn:r=n
  ·subst hn
   rw [eT fun k hk=>h k qN qN]; omega
  ·rw [ih qN fun k hk=>h k qN,h n qN qN]; omega
theorem isum_two {g:Nat→Int} {n r:Nat} (hr:r+1<n) (h:∀ k,k<n→k≠r→k≠r+1→g k=0):cM g n=g r+g (r+1):=by
 induction n with
 | zero=>omega
 | succ n ih =>
  simp only [cM]
  by_cases hn:r+1=n
  ·subst hn
   rw [gW (r:=r) qN fun k hk hkr=>h k qN hkr qN]
  ·rw [ih qN fun k hk=>h k qN,h n qN qN qN]; omega
theorem jJ (g:Nat→Int):∀ n,cM g (n+1)=g 0+cM (fun k=>g (k+1)) n
 | 0=>by simp [cM]
 | n+1=>by rw [cM,jJ g n,cM]; omega
theorem kY (f:Nat→Nat→Int) (m:Nat):∀ n,cM (fun i=>cM (fun j=>f i j) m) n=cM (fun j=>cM (fun i=>f i j) n) m
 | 0=>by simp only [cM]; exact (eT fun _ _=>rfl).symm
 | n+1=>by simp only [cM]; rw [kY f m n,← qY]
def sg (j:Nat):Int:=if j%2=1 then -1 else 1
theorem sg_zero:sg 0=1:=rfl
theorem uU (j:Nat):sg (j+1) = - sg j:=by
 unfold sg
 by_cases h:j%2=1
 ·rw [if_pos h,if_neg qN]; rfl
 ·rw [if_neg h,if_pos qN]
theorem sg_add (i j:Nat):sg (i+j)=sg i*sg j:=by
 induction j with
 | zero=>simp [sg]
 | succ j ih=>rw [← Nat.add_assoc,uU,ih,uU]; grind
theorem sg_sq (j:Nat):sg j*sg j=1:=by
 unfold sg; split <;> rfl
abbrev Mx:=Nat→Nat→Int
def sk (i k:Nat):Nat:=if k<i then k else k+1
def cut (A:Mx) (i j:Nat):Mx:=fun x y=>A (sk i x) (sk j y)
def det:Nat→Mx→Int
 | 0,_=>1
 | n+1,A=>cM (fun i=>sg i*(A i 0*det n (cut A i 0))) (n+1)
def rw' (A:Mx) (r:Nat) (u:Nat→Int):Mx:=fun i j=>if i=r then u j else A i j
def tp (A:Mx):Mx:=fun i j=>A j i
def one:Mx:=fun i j=>if i=j then 1 else 0
def mm (n:Nat) (A B:Mx):Mx:=fun i j=>cM (fun k=>A i k*B k j) n
theorem sk_ne (i k:Nat):sk i k≠i:=by unfold sk; split <;> omega
theorem uR {i k n:Nat} (h:k<n):sk i k<n+1:=by unfold sk; split <;> omega
theorem iG (k:Nat):sk 0 k=k+1:=rfl
theorem sk_inj {i a b:Nat} (h:sk i a=sk i b):a=b:=by unfold sk at h; split at h <;> split at h <;> omega
theorem sk_sk {i k:Nat} (h:i≤k) (x:Nat):sk i (sk k x)=sk (k+1) (sk i x):=by
 unfold sk
 by_cases h1:x<i
 ·rw [if_pos (show x<k by omega),if_pos h1,if_pos (show x<k+1 by omega)]
 ·by_cases h2:x<k
  ·rw [if_pos h2,if_neg h1,if_pos (show x+1<k+1 by omega)]
  ·rw [if_neg h2,if_neg h1,if_neg (show ¬ x+1<i by omega),if_neg (show ¬ x+1<k+1 by omega)]
def pk (i r:Nat):Nat:=if r<i then r else r - 1
theorem sk_pk {i r:Nat} (h:r≠i):sk i (pk i r)=r:=by
 unfold sk pk
 by_cases h1:r<i
 ·rw [if_pos h1,if_pos h1]
 ·rw [if_neg h1,if_neg qN]; omega
theorem pk_lt {i r n:Nat} (hr:r<n+1) (hi:i<n+1) (h:r≠i):pk i r<n:=by unfold pk; split <;> omega
theorem sk_eq_iff {i r x:Nat} (h:r≠i):sk i x=r↔x=pk i r :=
 ⟨fun e=>sk_inj (e.trans (sk_pk h).symm),fun e=>e ▸ sk_pk h⟩
theorem bP:∀ {n:Nat} {A B:Mx},(∀ i j,i<n→j<n→A i j=B i j)→det n A=det n B
 | 0,_,_,_=>rfl
 | n+1,A,B,h=>by
  simp only [det]
  refine bI fun i hi=>?_
  rw [h i 0 hi qN,bP (n:=n) (A:=cut A i 0) (B:=cut B i 0) fun x y hx hy=>h _ _ (uR hx) (uR hy)]
theorem mS (A:Mx) (r j:Nat) (u:Nat→Int):cut (rw' A r u) r j=cut A r j:=by
 funext x y; simp only [cut,rw',if_neg (sk_ne r x)]
theorem cut_rw {A:Mx} {i r j:Nat} (h:r≠i) (u:Nat→Int):cut (rw' A r u) i j=rw' (cut A i j) (pk i r) (fun y=>u (sk j y)):=by
 funext x y
 simp only [cut,rw']
 by_cases hx:x=pk i r
 ·rw [if_pos hx,if_pos ((sk_eq_iff h).2 hx)]
 ·rw [if_neg hx,if_neg fun e=>hx ((sk_eq_iff h).1 e)]
theorem k8:∀ {n:Nat} (A:Mx) {r:Nat},r<n→∀ (a b:Int) (u v:Nat→Int),
  det n (rw' A r (fun j=>a*u j+b*v j))=a*det n (rw' A r u)+b*det n (rw' A r v)
 | 0,_,_,h,_,_,_,_=>by omega
 | n+1,A,r,hr,a,b,u,v=>by
  simp only [det]
  rw [← kI]
  refine bI fun i hi=>?_
  by_cases h:i=r
  ·subst h
   rw [mS,mS,mS]
   simp only [rw',if_true]
   grind
  ·have h':r≠i:=fun e=>h e.symm
   rw [cut_rw h',cut_rw h',cut_rw h',k8 (cut A i 0) (pk_lt hr hi h') a b]
   simp only [rw',if_neg h]
   grind
theorem k9:∀ {n:Nat} {A:Mx} {r:Nat},r+1<n→(∀ j,j<n→A r j=A (r+1) j)→det n A=0
 | 0,_,_,h,_=>by omega
 | n+1,A,r,hr,he=>by
  simp only [det]
  rw [isum_two (r:=r) hr]
  ·have e:det n (cut A (r+1) 0)=det n (cut A r 0):=bP fun x y hx hy=>by
    simp only [cut]
    by_cases h:x=r
    ·subst h
     rw [show sk (x+1) x=x from if_pos qN,show sk x x=x+1 from if_neg qN]
     exact he _ (uR hy)
    ·have:sk (r+1) x=sk r x:=by unfold sk; split <;> split <;> omega
     rw [this]
   rw [e,uU,he 0 qN]
   grind
  ·intro i hi h1 h2
   have hp:pk i (r+1)=pk i r+1:=by unfold pk; split <;> split <;> omega
   have:det n (cut A i 0)=0:=k9 (r:=pk i r) (by have:=pk_lt hr hi (fun e=>h2 e.symm); omega) fun j hj=>by
    simp only [cut]
    rw [← hp,sk_pk (fun e=>h2 e.symm),sk_pk (fun e=>h1 e.symm)]
    exact he _ (uR hj)
   rw [this]; simp
theorem tr_tr (A:Mx):tp (tp A)=A:=rfl
def cw (A:Mx) (c:Nat) (u:Nat→Int):Mx:=fun i j=>if j=c then u i else A i j
theorem cut_cw {A:Mx} {i c:Nat} (u:Nat→Int):cut (cw A (c+1) u) i 0=cw (cut A i 0) c (fun x=>u (sk i x)):=by
 funext x y
 unfold cut cw
 rw [iG]
 by_cases hx:y=c
 ·rw [if_pos hx,if_pos qN]
 ·rw [if_neg hx,if_neg qN]; rfl
theorem wT:∀ {n:Nat} (A:Mx) {c:Nat},c<n→∀ (a b:Int) (u v:Nat→Int),
  det n (cw A c (fun j=>a*u j+b*v j))=a*det n (cw A c u)+b*det n (cw A c v)
 | 0,_,_,h,_,_,_,_=>by omega
 | n+1,A,0,hr,a,b,u,v=>by
  simp only [det]
  rw [← kI]
  refine bI fun i hi=>?_
  have e:∀ w,cut (cw A 0 w) i 0=cut A i 0:=fun w=>by funext x y; unfold cut cw; rw [iG,if_neg qN]
  rw [e,e,e]
  simp only [cw,if_true]
  grind
 | n+1,A,c+1,hr,a,b,u,v=>by
  simp only [det]
  rw [← kI]
  refine bI fun i hi=>?_
  rw [cut_cw,cut_cw,cut_cw,wT (cut A i 0) qN a b]
  have:¬ 0=c+1:=by omega
  simp only [cw,if_neg this]
  grind
theorem dsum {F:Nat→Nat→Int}:∀ {n:Nat},(∀ i k,i≤k→k<n→F i k+F (k+1) i=0)→cM (fun i=>cM (F i) n) (n+1)=0
 | 0,_=>by simp [cM]
 | n+1,h=>by
  have h1:=dsum (F:=F) (n:=n) fun i k hi hk=>h i k hi qN
  rw [cM]
  have e:cM (fun i=>cM (F i) (n+1)) (n+1)=cM (fun i=>cM (F i) n) (n+1)+cM (fun i=>F i n) (n+1):=by
   rw [← qY]; exact bI fun i _=>rfl
  rw [e,h1,Int.zero_add,← qY]
  exact eT fun i hi=>h i n qN qN
theorem wU:∀ {n:Nat} {A:Mx} {c:Nat},c+1<n→(∀ i,i<n→A i c=A i (c+1))→det n A=0
 | 0,_,_,h,_=>by omega
 | 1,_,_,h,_=>by omega
 | n+2,A,0,hr,he=>by
  simp only [det]
  rw [bI (g':=fun i=>cM (fun k=>sg i*A i 0*(sg k*(A (sk i k) 1*det n (cut (cut A i 0) k 0)))) (n+1))]
  ·refine dsum fun i k hi hk=>?_
   have e1:sk i k=k+1:=if_neg qN
   have e2:sk (k+1) i=i:=if_pos qN
   have e3:cut (cut A i 0) k 0=cut (cut A (k+1) 0) i 0:=by
    funext x y; simp only [cut]; rw [sk_sk hi]
   rw [e1,e2,e3,he i qN,he (k+1) qN,uU]
   grind
  ·intro i hi
   rw [fY]
   have:cM (fun k=>sg k*(A (sk i k) 1*det n (cut (cut A i 0) k 0))) (n+1)=cM (fun k=>sg k*(cut A i 0 k 0*det n (cut (cut A i 0) k 0))) (n+1):=rfl
   rw [this]
   grind
 | n+2,A,c+1,hr,he=>by
  rw [det]
  refine eT fun i hi=>?_
  rw [wU (n:=n+1) (A:=cut A i 0) (c:=c) qN fun x hx=>by simp only [cut,iG]; exact he _ (uR hx)]
  simp
structure Form (n:Nat) (D:Mx→Int):Prop where
 cong:∀ {A B:Mx},(∀ i j,i<n→j<n→A i j=B i j)→D A=D B
 lin:∀ (A:Mx) {r:Nat},r<n→∀ (a b:Int) (u v:Nat→Int),D (rw' A r (fun j=>a*u j+b*v j))=a*D (rw' A r u)+b*D (rw' A r v)
 alt:∀ {A:Mx} {r:Nat},r+1<n→(∀ j,j<n→A r j=A (r+1) j)→D A=0
theorem kJ (n:Nat):Form n (det n):=⟨bP,fun A _ h=>k8 A h,k9⟩
theorem tr_cw (A:Mx) (r:Nat) (u:Nat→Int):tp (rw' A r u)=cw (tp A) r u:=rfl
theorem dett_form (n:Nat):Form n (fun A=>det n (tp A)):=by
 refine ⟨fun h=>bP fun i j hi hj=>h j i hj hi,fun A r hr a b u v=>?_,fun {A r} h he=>wU (A:=tp A) h fun i hi=>he i hi⟩
 simp only [tr_cw]
 exact wT (tp A) hr a b u v
theorem uW (A:Mx) (r:Nat):rw' A r (A r)=A:=by
 funext i j; unfold rw'; split
 ·rename_i h; rw [h]
 ·rfl
theorem rV (A:Mx) {r s:Nat} (h:r≠s) (u v:Nat→Int):rw' (rw' A r u) s v=rw' (rw' A s v) r u:=by
 funext i j; unfold rw'
 by_cases h1:i=s
 ·rw [if_pos h1,if_neg qN,if_pos h1]
 ·rw [if_neg h1]
  by_cases h2:i=r
  ·rw [if_pos h2,if_pos h2]
  ·rw [if_neg h2,if_neg h2,if_neg h1]
namespace Form
variable {n:Nat} {D:Mx→Int}
theorem add (h:Form n D) (A:Mx) {r:Nat} (hr:r<n) (u v:Nat→Int):D (rw' A r (fun j=>u j+v j))=D (rw' A r u)+D (rw' A r v):=by
 have:=h.lin A hr 1 1 u v; simpa using this
theorem smul (h:Form n D) (A:Mx) {r:Nat} (hr:r<n) (c:Int) (u:Nat→Int):D (rw' A r (fun j=>c*u j))=c*D (rw' A r u):=by
 have:=h.lin A hr c 0 u u; simpa using this
theorem zero (h:Form n D) {A:Mx} {r:Nat} (hr:r<n) (hz:∀ j,j<n→A r j=0):D A=0:=by
 have h1:=h.smul A hr 0 (A r)
 rw [Int.zero_mul] at h1
 rw [← h1]
 refine h.cong fun i j hi hj=>?_
 unfold rw'
 split
 ·rename_i e; subst e; rw [hz j hj]; simp
 ·rfl
theorem swap_of (h:Form n D) {A:Mx} {r s:Nat} (hr:r<n) (hs:s<n) (hne:r≠s) (alt:∀ B:Mx,(∀ j,j<n→B r j=B s j)→D B=0) :
  D (rw' (rw' A r (A s)) s (A r)) = - D A:=by
 have z:∀ w,D (rw' (rw' A r w) s w)=0:=fun w=>alt _ fun j _=>by
  simp [rw',hne]
 have key:=z fun j=>A r j+A s j
 rw [h.add _ hs,rV A hne,h.add _ hr,rV A hne,h.add _ hr] at key
 rw [rV _ (Ne.symm hne),rV _ (Ne.symm hne) , rV _ (Ne.symm hne),rV _ (Ne.symm hne)] at key
 have z1:=z (A r)
 have z2:=z (A s)
 have e:rw' (rw' A r (A r)) s (A s)=A:=by rw [uW,uW]
 have e1:D (rw' (rw' A r fun j=>A r j) s fun j=>A r j)=0:=z1
 have e2:D (rw' (rw' A r fun j=>A s j) s fun j=>A s j)=0:=z2
 have e3:D (rw' (rw' A r fun j=>A r j) s fun j=>A s j)=D A:=congrArg D e
 have e4:D (rw' (rw' A r fun j=>A s j) s fun j=>A r j)=D (rw' (rw' A r (A s)) s (A r)):=rfl
 rw [e1,e2,e3,e4] at key
 omega
theorem alt2 (h:Form n D):∀ (d:Nat) {A:Mx} {r:Nat},r+d+1<n→(∀ j,j<n→A r j=A (r+d+1) j)→D A=0
 | 0,A,r,hr,he=>h.alt hr he
 | d+1,A,r,hr,he=>by
  have hs:=h.swap_of (A:=A) (r:=r+d+1) (s:=r+d+2) qN qN qN fun B hB=>h.alt qN hB
  have:D (rw' (rw' A (r+d+1) (A (r+d+2))) (r+d+2) (A (r+d+1)))=0:=h.alt2 d (r:=r) qN fun j hj=>by
   have h1:¬ r=r+d+2:=by omega
   have h2:¬ r=r+d+1:=by omega
   have h3:¬ r+d+1=r+d+2:=by omega
   simp only [rw',if_neg h1,if_neg h2,if_neg h3,if_true]
   exact he j hj
  omega
theorem eqRows (h:Form n D) {A:Mx} {r s:Nat} (hr:r<n) (hs:s<n) (hne:r≠s) (he:∀ j,j<n→A r j=A s j):D A=0:=by
 rcases Nat.lt_or_gt_of_ne hne with hlt | hlt
 ·obtain ⟨d,rfl⟩:∃ d,s=r+d+1:=⟨s - r - 1,by omega⟩
  exact h.alt2 d hs he
 ·obtain ⟨d,rfl⟩:∃ d,r=s+d+1:=⟨r - s - 1,by omega⟩
  exact h.alt2 d hr fun j hj=>(he j hj).symm
theorem swap (h:Form n D) {A:Mx} {r s:Nat} (hr:r<n) (hs:s<n) (hne:r≠s):D (rw' (rw' A r (A s)) s (A r)) = - D A :=
 h.swap_of hr hs hne fun _ hB=>h.eqRows hr hs hne hB
theorem addRow (h:Form n D) {A:Mx} {r s:Nat} (hr:r<n) (hs:s<n) (hne:r≠s) (c:Int) (v:Nat→Int) (hv:∀ j,j<n→v j=A s j) (u:Nat→Int):D (rw' A r (fun j=>u j+c*v j))=D (rw' A r u):=by
 have h1:=h.lin A hr 1 c u v
 have h2:D (rw' A r v)=0:=h.eqRows hr hs hne fun j hj=>by
  unfold rw'; rw [if_pos rfl,if_neg (Ne.symm hne),hv j hj]
 simpa [h2] using h1
theorem sum (h:Form n D) (A:Mx) {r:Nat} (hr:r<n) (c:Nat→Int) (u:Nat→Nat→Int):∀ m,D (rw' A r (fun j=>cM (fun k=>c k*u k j) m))=cM (fun k=>c k*D (rw' A r (u k))) m
 | 0=>by
  simp only [cM]
  exact h.zero hr fun j _=>by unfold rw'; simp
 | m+1=>by
  simp only [cM]
  have:=h.lin A hr 1 (c m) (fun j=>cM (fun k=>c k*u k j) m) (u m)
  rw [h.sum A hr c u m] at this
  simpa using this
theorem addRows (h:Form n D) {A:Mx} {r:Nat} (hr:r<n) (c:Nat→Int) (s:Nat→Nat) (m:Nat) (hs:∀ k,k<m→s k<n∧s k≠r) (u:Nat→Int) :
  D (rw' A r (fun j=>u j+cM (fun k=>c k*A (s k) j) m))=D (rw' A r u):=by
 have h1:=h.add A hr u (fun j=>cM (fun k=>c k*A (s k) j) m)
 rw [h.sum A hr c (fun k=>A (s k)) m] at h1
 rw [h1,eT,Int.add_zero]
 intro k hk
 obtain ⟨k1,k2⟩:=hs k hk
 rw [h.eqRows (A:=rw' A r (A (s k))) hr k1 (Ne.symm k2) fun j hj=>by unfold rw'; rw [if_pos rfl,if_neg k2]]
 simp
end Form
def kN (f:Nat→Nat):Mx:=fun i j=>if f i=j then 1 else 0
theorem pigeon:∀ (k:Nat) (f:Nat→Nat),(∀ i,i≤k→f i<k)→∃ i j,i<j∧j≤k∧f i=f j
 | 0,f,h=>absurd (h 0 (Nat.le_refl _)) qN
 | k+1,f,h=>by
  by_cases hx:∃ i,i≤k∧f i=f (k+1)
  ·obtain ⟨i,h1,h2⟩:=hx
   exact ⟨i,k+1,by omega,by omega,h2⟩
  ·have hne:∀ i,i≤k→f i≠f (k+1):=fun i hi e=>hx ⟨i,hi,e⟩
   have hl:=h (k+1) (Nat.le_refl _)
   obtain ⟨i,j,h1,h2,h3⟩:=pigeon k (fun i=>pk (f (k+1)) (f i)) fun i hi=>by
    have:=h i qN
    exact pk_lt (n:=k) qN hl (hne i hi)
   refine ⟨i,j,h1,by omega,?_⟩
   rw [← sk_pk (hne i qN),← sk_pk (hne j h2),h3]
namespace Form
variable {n:Nat} {D:Mx→Int}
theorem units (h:Form n D) (h0:D one=0):∀ (k:Nat),k≤n→∀ f:Nat→Nat,(∀ i,i<n→f i<n)→(∀ i,k≤i→i<n→f i=i)→D (kN f)=0
 | 0,_,f,_,hf=>by
  rw [← h0]
  exact h.cong fun i j hi hj=>by unfold kN one; rw [hf i qN hi]
 | k+1,hk,f,hb,hf=>by
  by_cases hrep:∃ i j,i<j∧j<n∧f i=f j
  ·obtain ⟨i,j,h1,h2,h3⟩:=hrep
   exact h.eqRows (r:=i) (s:=j) qN h2 qN fun y _=>by unfold kN; rw [h3]
  ·by_cases hx:∃ i,i≤k∧f i=k
   ·obtain ⟨i,h1,h2⟩:=hx
    by_cases hik:i=k
    ·subst hik
     refine units h h0 i qN f hb fun x hx hxn=>?_
     by_cases e:x=i
     ·rw [e,h2]
     ·exact hf x qN hxn
    ·have hsw:=h.swap (A:=kN f) (r:=i) (s:=k) qN qN hik
     have e:rw' (rw' (kN f) i (kN f k)) k (kN f i)=kN (fun x=>if x=k then f i else if x=i then f k else f x):=by
      funext x y
      unfold rw' kN
      by_cases e1:x=k
      ·simp [e1]
      ·by_cases e2:x=i
       ·simp [e2,hik]
       ·simp [e1,e2]
     rw [e,units h h0 k qN] at hsw
     ·omega
     ·intro x hx
      split
      ·exact hb _ qN
      ·split
       ·exact hb _ qN
       ·exact hb _ hx
     ·intro x hx hxn
      by_cases e1:x=k
      ·rw [if_pos e1,h2,e1]
      ·rw [if_neg e1,if_neg qN]
       exact hf x qN hxn
   ·exfalso
    have hlow:∀ i,i≤k→f i<k:=fun i hi=>by
     rcases Nat.lt_or_ge (f i) k with h1 | h1
     ·exact h1
     ·exfalso
      by_cases e:f i=k
      ·exact hx ⟨i,hi,e⟩
      ·exact hrep ⟨i,f i,by omega,hb i qN,(hf (f i) qN (hb i qN)).symm⟩
    obtain ⟨i,j,h1,h2,h3⟩:=pigeon k f hlow
    exact hrep ⟨i,j,h1,by omega,h3⟩
theorem vanish (h:Form n D) (h0:D one=0):∀ (k:Nat),k≤n→∀ (A:Mx) (f:Nat→Nat),(∀ i,i<n→f i<n)→(∀ i j,k≤i→i<n→j<n→A i j=kN f i j)→D A=0
 | 0,_,A,f,hb,hA=>by
  rw [← units h h0 n (Nat.le_refl _) f hb fun i h1 h2=>by omega]
  exact h.cong fun i j hi hj=>hA i j qN hi hj
 | k+1,hk,A,f,hb,hA=>by
  have e:D A=D (rw' A k (fun j=>cM (fun c=>A k c*one c j) n)):=h.cong fun i j hi hj=>by
   unfold rw'
   split
   ·rename_i e
    subst e
    show _=cM _ n
    rw [gW (r:=j) hj fun c _ hc=>by simp [one,hc]]
    simp [one]
   ·rfl
  rw [e,h.sum A qN (fun c=>A k c) one n]
  refine eT fun c hc=>?_
  rw [vanish h h0 k qN (rw' A k (one c)) (fun x=>if x=k then c else f x) (fun i hi=>by split; exact hc; exact hb i hi) fun i j h1 h2 h3=>?_]
  ·simp
  ·unfold rw' kN
   by_cases hik:i=k
   ·simp [hik,one]
   ·simp only [if_neg hik]
    exact hA i j qN h2 h3
end Form
theorem wS:∀ n,det n one=1
 | 0=>rfl
 | n+1=>by
  rw [det,gW (r:=0) qN fun k _ hk=>by simp [one,hk]]
  have:det n (cut one 0 0)=det n one:=bP fun i j _ _=>by simp [cut,one,iG]
  rw [this,wS n]; rfl
theorem Form.eq {n:Nat} {D:Mx→Int} (h:Form n D) (A:Mx):D A=det n A*D one:=by
 have hE:Form n (fun A=>D A - det n A*D one):=by
  refine ⟨fun hc=>by rw [h.cong hc,bP hc],fun A r hr a b u v=>?_,fun hr he=>by rw [h.alt hr he,k9 hr he]; simp⟩
  rw [h.lin A hr,k8 A hr]
  grind
 have:=hE.vanish (by rw [wS]; omega) n (Nat.le_refl _) A (fun i=>i) (fun i hi=>hi) fun i j h1 h2=>by omega
 omega
theorem tr_one:tp one=one:=by
 funext i j; unfold tp one
 by_cases h:i=j
 ·subst h; rfl
 ·rw [if_neg h,if_neg (Ne.symm h)]
theorem pB (n:Nat) (A:Mx):det n (tp A)=det n A:=by
 have:=(dett_form n).eq A
 simp only [tr_one,wS,Int.mul_one] at this
 exact this
theorem mul_rw (n:Nat) (A B:Mx) (r:Nat) (u:Nat→Int):mm n (rw' A r u) B=rw' (mm n A B) r (fun j=>cM (fun k=>u k*B k j) n):=by
 funext i j
 unfold mm rw'
 by_cases h:i=r
 ·simp only [if_pos h]
 ·simp only [if_neg h]
theorem det_mul (n:Nat) (A B:Mx):det n (mm n A B)=det n A*det n B:=by
 have h:Form n (fun A=>det n (mm n A B)):=by
  refine ⟨fun hc=>bP fun i j hi hj=>bI fun k hk=>by rw [hc i k hi hk],fun A r hr a b u v=>?_,fun {A r} hr he=>k9 hr fun j hj=>bI fun k hk=>by rw [he k hk]⟩
  simp only [mul_rw]
  rw [← k8 _ hr]
  congr 2
  funext j
  rw [← kI]
  exact bI fun k _=>by grind
 have:=h.eq A
 rw [this]
 congr 1
 refine bP fun i j hi hj=>?_
 unfold mm
 rw [gW (r:=i) hi fun k _ hk=>by simp [one,Ne.symm hk]]
 simp [one]
def mv (A:Mx) (j:Nat):Mx:=fun x y=>A x (if y=0 then j else sk j (y - 1))
theorem det_mv (n:Nat):∀ (j:Nat) (A:Mx),j<n→det n (mv A j)=sg j*det n A
 | 0,A,_=>by
  rw [sg_zero,Int.one_mul]
  refine bP fun x y _ _=>?_
  unfold mv
  congr 1
  by_cases h:y=0
  ·rw [if_pos h,h]
  ·rw [if_neg h,iG]; omega
 | j+1,A,hj=>by
  have hsw:=(dett_form n).swap (A:=tp A) (r:=j) (s:=j+1) qN hj qN
  simp only [tr_tr] at hsw
  have ih:=det_mv n j (tp (rw' (rw' (tp A) j (tp A (j+1))) (j+1) (tp A j))) qN
  rw [hsw] at ih
  rw [uU,Int.neg_mul,← Int.mul_neg,← ih]
  refine bP fun x y _ _=>?_
  unfold mv tp rw'
  by_cases h:y=0
  ·simp [h]
  ·simp only [if_neg h]
   by_cases h1:y - 1<j
   ·have e1:sk j (y - 1)=y - 1:=if_pos h1
    have e2:sk (j+1) (y - 1)=y - 1:=if_pos qN
    rw [e1,e2,if_neg qN,if_neg qN]
   ·by_cases h2:y - 1=j
    ·have e1:sk j (y - 1)=j+1:=by unfold sk; rw [if_neg h1]; omega
     have e2:sk (j+1) (y - 1)=j:=by unfold sk; rw [if_pos qN]; omega
     rw [e1,e2,if_pos rfl]
    ·have e1:sk j (y - 1)=y:=by unfold sk; rw [if_neg h1]; omega
     have e2:sk (j+1) (y - 1)=y:=by unfold sk; rw [if_neg qN]; omega
     rw [e1,e2,if_neg qN,if_neg qN]
theorem det_col {n:Nat} (A:Mx) {j:Nat} (hj:j<n+1):det (n+1) A=cM (fun i=>sg (i+j)*(A i j*det n (cut A i j))) (n+1):=by
 have h1:=det_mv (n+1) j A hj
 have h2:det (n+1) (mv A j)=cM (fun i=>sg i*(A i j*det n (cut A i j))) (n+1):=by
  rw [det]
  refine bI fun i _=>?_
  have:cut (mv A j) i 0=cut A i j:=by funext x y; simp [cut,mv,iG]
  rw [this]; simp [mv]
 rw [h2] at h1
 have h3:det (n+1) A=sg j*(sg j*det (n+1) A):=by rw [← Int.mul_assoc,sg_sq,Int.one_mul]
 rw [h3,← h1,← fY]
 refine bI fun i _=>?_
 rw [sg_add]; grind
theorem cut_tr (A:Mx) (i j:Nat):cut (tp A) i j=tp (cut A j i):=rfl
theorem det_row {n:Nat} (A:Mx) {i:Nat} (hi:i<n+1):det (n+1) A=cM (fun j=>sg (i+j)*(A i j*det n (cut A i j))) (n+1):=by
 rw [← pB,det_col (tp A) hi]
 refine bI fun j _=>?_
 rw [cut_tr,pB,Nat.add_comm]; rfl
def adj (n:Nat) (A:Mx):Mx:=fun i j=>sg (i+j)*det n (cut A j i)
theorem mul_adj {n:Nat} (A:Mx) {i j:Nat} (hi:i<n+1) (hj:j<n+1):mm (n+1) A (adj n A) i j=if i=j then det (n+1) A else 0:=by
 have h:=det_row (rw' A j (A i)) hj
 have e:mm (n+1) A (adj n A) i j=det (n+1) (rw' A j (A i)):=by
  rw [h]
  unfold mm adj
  refine bI fun k _=>?_
  rw [mS,Nat.add_comm k j]
  simp only [rw',if_true]
  grind
 rw [e]
 by_cases hij:i=j
 ·subst hij; rw [if_pos rfl,uW]
 ·rw [if_neg hij]
  exact (kJ (n+1)).eqRows hi hj hij fun y _=>by unfold rw'; rw [if_neg hij,if_pos rfl]
theorem vM {n:Nat} {A A' B B':Mx} {i j:Nat} (h1:∀ k,k<n→A i k=A' i k) (h2:∀ k,k<n→B k j=B' k j):mm n A B i j=mm n A' B' i j :=
 bI fun k hk=>by rw [h1 k hk,h2 k hk]
theorem mul_assoc (m n:Nat) (A B C:Mx) (i j:Nat):mm n (mm m A B) C i j=mm m A (mm n B C) i j:=by
 unfold mm
 rw [bI (g':=fun k=>cM (fun l=>A i l*B l k*C k j) m) fun k _=>(fK _ _ _).symm,kY]
 exact bI fun l _=>by rw [← fY]; exact bI fun k _=>Int.mul_assoc _ _ _
theorem one_mul {n:Nat} (A:Mx) {i j:Nat} (hi:i<n):mm n one A i j=A i j:=by
 unfold mm
 rw [gW (r:=i) hi fun k _ hk=>by simp [one,Ne.symm hk]]
 simp [one]
theorem mul_sum_left (n:Nat) (c:Int) (A B:Mx) (i j:Nat):mm n (fun x y=>c*A x y) B i j=c*mm n A B i j:=by
 unfold mm; rw [← fY]; exact bI fun k _=>Int.mul_assoc _ _ _
theorem mul_sum_right (n:Nat) (c:Int) (A B:Mx) (i j:Nat):mm n A (fun x y=>c*B x y) i j=c*mm n A B i j:=by
 unfold mm; rw [← fY]; exact bI fun k _=>by grind
def Lo (r R C:Nat) (A:Mx):Prop:=∃ X Y:Mx,det r (mm C (mm R X A) Y)≠0
def Up (r R C:Nat) (A:Mx):Prop:=∃ d:Int,d≠0∧∃ B E:Mx,∀ i k,i<R→k<C→d*A i k=mm r B E i k
theorem det_zero_col {n:Nat} {A:Mx} {c:Nat} (hc:c<n) (h:∀ i,i<n→A i c=0):det n A=0:=by
 rw [← pB]
 exact (kJ n).zero hc fun j hj=>h j hj
theorem isum_cut {g:Nat→Int} {m n:Nat} (h:m≤n) (hz:∀ k,m≤k→k<n→g k=0):cM g n=cM g m:=by
 induction n with
 | zero =>
      have:m=0:=by omega
      subst this; rfl
 | succ n ih =>
  by_cases e:m=n+1
  ·rw [e]
  ·rw [cM,hz n qN qN,ih qN fun k h1 h2=>hz k h1 qN]; omega
theorem det_thin {s r:Nat} (h:s<r) (U V:Mx):det r (mm s U V)=0:=by
 have e:∀ i j,mm s U V i j=mm r (fun i k=>if k<s then U i k else 0) V i j:=fun i j=>by
  unfold mm
  rw [isum_cut (m:=s) (n:=r) qN fun k h1 _=>by show (if k<s then U i k else 0)*V k j=0; rw [if_neg qN]; simp]
  exact bI fun k hk=>by show _=(if k<s then U i k else 0)*V k j; rw [if_pos hk]
 rw [bP fun i j _ _=>e i j,det_mul,det_zero_col (c:=s) h fun i _=>by rw [if_neg qN],Int.zero_mul]
theorem det_smul:∀ (n:Nat) (c:Int) (A:Mx),det n (fun i j=>c*A i j)=c^n*det n A
 | 0,c,A=>by simp [det]
 | n+1,c,A=>by
  simp only [det]
  rw [← fY]
  refine bI fun i _=>?_
  have:cut (fun i j=>c*A i j) i 0=fun x y=>c*cut A i 0 x y:=rfl
  rw [this,det_smul n c,Int.pow_succ]
  grind
theorem pow_ne {d:Int} (hd:d≠0):∀ n:Nat,d^n≠0
 | 0=>by simp
 | n+1=>by rw [Int.pow_succ]; exact Int.mul_ne_zero (pow_ne hd n) hd
theorem Lo_le_Up {r s R C:Nat} {A:Mx} (h1:Lo r R C A) (h2:Up s R C A):r≤s:=by
 rcases Nat.lt_or_ge s r with h | h
 ·exfalso
  obtain ⟨X,Y,h1⟩:=h1
  obtain ⟨d,hd,B,E,h2⟩:=h2
  have h3:det r (fun i j=>d*mm C (mm R X A) Y i j)=0:=by
   rw [← det_thin h (mm R X B) (mm C E Y)]
   refine bP fun i j hi hj=>?_
   rw [← mul_sum_left]
   have e1:∀ k,k<C→(fun x y=>d*mm R X A x y) i k=mm R X (mm s B E) i k:=fun k hk=>by
    simp only
    rw [← mul_sum_right]
    exact vM (fun _ _=>rfl) fun l hl=>h2 l k hl hk
   rw [vM e1 (fun _ _=>rfl)]
   rw [vM (A:=mm R X (mm s B E)) (A':=mm s (mm R X B) E) (fun k _=>(mul_assoc R s X B E i k).symm) (fun _ _=>rfl),mul_assoc]
  rw [det_smul] at h3
  rcases Int.mul_eq_zero.1 h3 with h4 | h4
  ·exact pow_ne hd _ h4
  ·exact h1 h4
 ·exact h
structure Rk (r R C:Nat) (A:Mx):Prop where
 lo:Lo r R C A
 up:Up r R C A
theorem Up_rows (R C:Nat) (A:Mx):Up R R C A:=⟨1,by decide,one,A,fun i k hi _=>by rw [one_mul A hi]; omega⟩
theorem Rk.le_rows {r R C:Nat} {A:Mx} (h:Rk r R C A):r≤R:=Lo_le_Up h.lo (Up_rows R C A)
theorem Rk.full {n r:Nat} {A:Mx} (h:Rk r n n A):det n A=0↔r<n:=by
 constructor
 ·intro h0
  rcases Nat.lt_or_ge r n with h1 | h1
  ·exact h1
  ·exfalso
   have:r=n:=Nat.le_antisymm h.le_rows h1
   subst this
   obtain ⟨X,Y,h2⟩:=h.lo
   rw [det_mul,det_mul,h0] at h2
   simp at h2
 ·intro hr
  obtain ⟨d,hd,B,E,h1⟩:=h.up
  have h2:det n (fun i j=>d*A i j)=0:=by
   rw [← det_thin hr B E]
   exact bP fun i j hi hj=>h1 i j hi hj
  rw [det_smul] at h2
  rcases Int.mul_eq_zero.1 h2 with h4 | h4
  ·exact absurd h4 (pow_ne hd _)
  ·exact h4
theorem r7 (g:Nat→Int) (m:Nat):∀ n,cM g (m+n)=cM g m+cM (fun k=>g (m+k)) n
 | 0=>by simp [cM]
 | n+1=>by rw [← Nat.add_assoc,cM,r7 g m n,cM]; omega
theorem det_block:∀ (a b:Nat) (A:Mx),(∀ i j,a≤i→i<a+b→j<a→A i j=0)→det (a+b) A=det a A*det b (fun i j=>A (a+i) (a+j))
 | 0,b,A,_=>by
  rw [Nat.zero_add,det,Int.one_mul]
  exact bP fun i j _ _=>by rw [Nat.zero_add,Nat.zero_add]
 | a+1,b,A,h=>by
  rw [show a+1+b=(a+b)+1 by omega,det,det,← fK]
  rw [show a+b+1=(a+1)+b by omega,r7,eT (n:=b) fun k hk=>by rw [h (a+1+k) 0 qN qN qN]; simp,Int.add_zero]
  refine bI fun i hi=>?_
  rw [det_block a b (cut A i 0) fun x y h1 h2 h3=>by
   unfold cut
   have e:sk i x=x+1:=if_neg qN
   rw [e,iG]
   exact h _ _ qN qN qN]
  have e:det b (fun x y=>cut A i 0 (a+x) (a+y))=det b (fun x y=>A (a+1+x) (a+1+y)):=bP fun x y _ _=>by
   unfold cut
   have e:sk i (a+x)=a+x+1:=if_neg qN
   rw [e,iG]
   congr 1 <;> omega
  rw [e]; grind
theorem det_block' (a b:Nat) (A:Mx) (h:∀ i j,i<a→a≤j→j<a+b→A i j=0):det (a+b) A=det a A*det b (fun i j=>A (a+i) (a+j)):=by
 rw [← pB,det_block a b (tp A) fun i j h1 h2 h3=>h j i h3 h1 h2]
 congr 1
 ·exact pB a A
 ·exact pB b (fun i j=>A (a+i) (a+j))
def sz (x:Int) (e:Nat):Prop:=x.natAbs<18446744073709551616^e
theorem sz.len {x:Int} {e:Nat} (h:sz x e):(bT x.natAbs).length≤e:=c8 h
theorem sz.mono {x:Int} {e e':Nat} (h:sz x e) (he:e≤e'):sz x e':=Nat.lt_of_lt_of_le h (Nat.pow_le_pow_right qE he)
theorem sz.mul {x y:Int} {a b:Nat} (h:sz x a) (h':sz y b):sz (x*y) (a+b):=by
 unfold sz at *
 rw [Int.natAbs_mul,Nat.pow_add]
 exact Nat.mul_lt_mul'' h h'
theorem sz.neg {x:Int} {a:Nat} (h:sz x a):sz (-x) a:=by unfold sz at *; rwa [Int.natAbs_neg]
theorem gY {x:Bool×List Nat} {k:Nat} (h:Lim x.2) (hl:x.2.length≤k):sz (jv x) k:=by
 unfold sz jv
 rw [vT]
 exact Nat.lt_of_lt_of_le (jF h) (Nat.pow_le_pow_right qE hl)
theorem jZ (e:Nat):sz 0 e:=Nat.pow_pos qE
theorem isum_le {g:Nat→Int} {e:Nat}:∀ {n:Nat},(∀ k,k<n→sz (g k) e)→(cM g n).natAbs≤n*18446744073709551616^e
 | 0,_=>by simp [cM]
 | n+1,h=>by
  have h1:=isum_le (n:=n) fun k hk=>h k qN
  have h2:=h n qN
  unfold sz at h2
  simp only [cM]
  have:=Int.natAbs_add_le (cM g n) (g n)
  rw [Nat.add_mul,Nat.one_mul]
  omega
theorem vU {g:Nat→Int} {e n:Nat} (h:∀ k,k<n→sz (g k) e) (hn:n<18446744073709551616):sz (cM g n) (e+1):=by
 have h1:=isum_le h
 unfold sz
 rw [Nat.pow_succ,Nat.mul_comm]
 exact Nat.lt_of_le_of_lt h1 (Nat.mul_lt_mul_of_pos_right hn (Nat.pow_pos qE))
theorem nI (m:List Row) (i:Nat):(ww m).getD i []=vv (m.getD i []):=by
 unfold ww
 by_cases h:i<m.length
 ·simp [gE,h]
 ·simp [gE,h,vv]
theorem ww_len (m:List Row):(ww m).length=m.length:=by unfold ww; simp
theorem sg_sz {x:Int} {e:Nat} (j:Nat) (h:sz x e):sz (sg j*x) e:=by
 unfold sg
 split
 ·rw [Int.neg_one_mul]; exact h.neg
 ·rwa [Int.one_mul]
theorem Seals.box0 {os:List Own} {fs:List bD} {p:Value} {size:Nat} {e:Nat→Dat} {d:Dat} (h:e 0=d):Seals (bE p size 1 e::os) fs (bE p size 1 (fun _=>d)::os) fs :=
 Seals.own_cong (os:=bE p size 1 e::os) 0 (fun _=>d) rfl rfl fun i hi=>by
  have:i=0:=by omega
  subst this; exact h
theorem bJ {os:List Own} {fs:List bD} {p:Value} {size:Nat} {e:Nat→Dat} {d:Dat} (h:e 0=d):Seals (bE p size 1 e::os) fs (bE p size 1 (fun _=>d)::os) fs:=Seals.box0 h
theorem iL {x y:Int} {e:Nat} (h:sz x e) (h':sz y e):sz (x - y) (e+1):=by
 unfold sz at *
 rw [Nat.pow_succ]
 have:=Int.natAbs_sub_le x y
 omega
theorem Fit_cn {l:List Int} {e:Nat} (h:∀ x,x∈l→sz x e):Fit e (l.map cn):=fun p hp=>by
 obtain ⟨x,hx,rfl⟩:=List.mem_map.1 hp
 exact ⟨a0 _,(h x hx).len⟩
theorem Seals.box1 {os:List Own} {fs:List bD} {o:Own} {p:Value} {size:Nat} {e:Nat→Dat} {d:Dat} (h:e 0=d):Seals (o::bE p size 1 e::os) fs (o::bE p size 1 (fun _=>d)::os) fs :=
 Seals.own_cong (os:=o::bE p size 1 e::os) 1 (fun _=>d) rfl rfl fun i hi=>by
  have:i=0:=by omega
  subst this; exact h
theorem fE {l:List Int} {k:Nat} (h:k<l.length):(l.map cn).getD k z0=cn (l.getD k 0):=by
 simp [gE,h]
theorem Fit.mono {k k':Nat} {r:Row} (h:Fit k r) (hk:k≤k'):Fit k' r:=fun x hx=>⟨(h x hx).1,Nat.le_trans (h x hx).2 hk⟩
theorem AppendK.pre {P:Program} {ts:List TypeId} {ty:TypeId} {a b:Value} {os os':List Own} {fs fs':List bD} {K:bZ} (hs:Seals os fs os' fs') (h:AppendK P ts ty a b os' fs' K):AppendK P ts ty a b os fs K :=
 ⟨fun G w hw=>h.out G w (hs G w hw)⟩
theorem OwnVal.congr {S:Nat→Prop} {B:Nat} {w:World} {v:Value} {size n:Nat} {e e':Nat→Dat} (h:OwnVal S B w v size n e) (he:∀ j,j<n→e' j=e j) (hz:0<size):OwnVal S B w v size n e':=by
 have row:∀ {r n' cap},n'≤n→OwnRow S B w r size n' cap e→OwnRow S B w r size n' cap e':=fun hn ⟨h1,h2,h3,cur,t,h4,h5,h6⟩ =>
  ⟨h1,h2,h3,cur,t,h4,h5,fun i hi=>by rw [he i qN]; exact h6 i hi⟩
 rcases h with h | ⟨r,cap,hv,h⟩ | ⟨r,hv,hn,h⟩ | ⟨_,h,_⟩
 ·exact .inl h
 ·exact .inr (.inl ⟨r,cap,hv,row (Nat.le_refl _) h⟩)
 ·exact .inr (.inr (.inl ⟨r,hv,hn,row qN h⟩))
 ·omega
theorem Seals.join {size n:Nat} {x:Value} {e:Nat→Dat} {F F':Own} {os:List Own} {fs:List bD} (hm:F'.m=F.m+1) (hs:F'.size=F.size) (hs2:F.size=size)
  (hv:∀ i,i<F.m→F'.v i=F.v i∧F'.n i=F.n i∧∀ j,j<F.n i→F'.e i j=F.e i j) (hx:F'.v F.m=x∧F'.n F.m=n∧∀ j,j<n→F'.e F.m j=e j) (hz:0<size:=by exact Nat.zero_lt_succ _) :
  Seals (bE x size n e::F::os) fs (F'::os) fs:=by
 intro G w hw
 have has:∀ b,F'.has b↔(bE x size n e).has b∨F.has b:=by
  intro b
  constructor
  ·rintro ⟨i,hi,hb⟩
   by_cases hif:i<F.m
   ·exact .inr ⟨i,hif,by rw [← (hv i hif).1]; exact hb⟩
   ·have:i=F.m:=by omega
    subst this
    exact .inl ⟨0,Nat.zero_lt_one,by rw [hx.1] at hb; exact hb⟩
  ·rintro (⟨i,hi,hb⟩ | ⟨i,hi,hb⟩)
   ·exact ⟨F.m,by omega,by rw [hx.1]; exact hb⟩
   ·exact ⟨i,by omega,by rw [(hv i hi).1]; exact hb⟩
 have own:∀ b,eS (F'::os) b↔eS (bE x size n e::F::os) b:=fun b=>by simp only [eS,has b,or_assoc]
 have good:∀ b,Good G.A (bE x size n e::F::os) w b→Good G.A (F'::os) w b:=fun b ⟨g1,g2,g3⟩=>⟨g1,g2,fun h=>g3 ((own b).1 h)⟩
 have agree:lL (Good G.A (bE x size n e::F::os) w) w w:=fun _ _=>rfl
 obtain ⟨a1,a2,a3,a4,a5⟩:=hw.apart
 refine ⟨hw.low,hw.size,hw.below,⟨fun i j b hi hj h1 h2=>?_,fun b hb ho=>?_,a5⟩,fun o ho i hi=>?_,hw.facts.mono agree good⟩
 ·by_cases hif:i<F.m
  ·rw [(hv i hif).1] at h1
   by_cases hjf:j<F.m
   ·rw [(hv j hjf).1] at h2
    exact a3 i j b hif hjf h1 h2
   ·have:j=F.m:=by omega
    subst this
    rw [hx.1] at h2
    exact absurd (show eS (F::os) b from .inl ⟨i,hif,h1⟩) (a2 b ⟨0,Nat.zero_lt_one,h2⟩)
  ·have:i=F.m:=by omega
   subst this
   rw [hx.1] at h1
   by_cases hjf:j<F.m
   ·rw [(hv j hjf).1] at h2
    exact absurd (show eS (F::os) b from .inl ⟨j,hjf,h2⟩) (a2 b ⟨0,Nat.zero_lt_one,h1⟩)
   ·omega
 ·rcases (has b).1 hb with h | h
  ·exact a2 b h (.inr ho)
  ·exact a4 b h ho
 ·rcases List.mem_cons.1 ho with rfl | ho
  ·by_cases hif:i<F.m
   ·obtain ⟨q1,q2,q3⟩:=hv i hif
    have:=(hw.own F qP i hif).mono agree good (fun _ _=>rfl)
    rw [q1,q2,hs]
    exact this.congr q3 qN
   ·have:i=F.m:=by omega
    subst this
    have:=(hw.own (bE x size n e) qP 0 Nat.zero_lt_one).mono agree good (fun _ _=>rfl)
    rw [hx.1,hx.2.1,hs,hs2]
    exact OwnVal.congr this hx.2.2 qN
  ·exact (hw.own o (by simp [ho]) i hi).mono agree good (fun _ _=>rfl)
theorem good_sub {A:Nat→Prop} {os:List Own} {w:World} {b pos:Nat}:Good A os w b→Good A (cR os pos) w b:=fun ⟨h1,h2,h3⟩=>⟨h1,h2,fun hb=>h3 (by
 obtain ⟨x,hx,hxb⟩:=cP.1 hb
 obtain ⟨i,_,hi⟩:=iK hx
 exact cP.2 ⟨x,bF hi,hxb⟩)⟩
theorem Seals.fam {F:Own} {os:List Own} {fs:List bD} (pos:Nat) (h:a8 os pos=some F) (hs:∀ i,i<F.m→isSl (F.v i)) :
  Seals os fs (cR os pos) (((List.range F.m).map fun i=>(F.v i,.sl F.size (F.n i) (F.e i)))++fs):=by
 intro G w hw
 have hd:=hw.drop pos
 refine ⟨hd.low,hd.size,hd.below,hd.apart,hd.own,fun x hx=>?_⟩
 rcases List.mem_append.1 hx with hx | hx
 ·obtain ⟨i,hi,rfl⟩:=List.mem_map.1 hx
  rw [List.mem_range] at hi
  obtain ⟨a,m,c,hv⟩:=hs i hi
  simp only
  rcases hw.own _ (bF h) i hi with ⟨h1,h2⟩ | ⟨r,cap,h1,h2⟩ | ⟨r,h1,_⟩ | ⟨_,_,_,_,_,_,⟨r,_,_,h1,_⟩ | ⟨r,_,_,_,_,_,_,h1,_⟩⟩
  rotate_right
  ·rw [hv] at h1; simp at h1
  rotate_right
  ·rw [hv] at h1; simp at h1
  ·rw [h1,h2]
   exact dM (os:=cR os pos) (fs:=fs) F.size (F.e i) G w hd
  ·have hhas:F.has r:=⟨i,hi,by rw [h1]; rfl⟩
   rw [h1]
   obtain ⟨b1,b2,b3,cur,t,b4,b5,b6⟩:=h2
   refine ⟨[.slice (some ⟨r,0,none⟩) (F.n i) cap],⟨_,cap,rfl,b2,b3,fun hn=>by simp at hn,fun b hb _=>by simp at hb; subst hb; rfl,fun j hj=>?_⟩,rfl⟩
   obtain ⟨cs,c1,c2,c3⟩:=b6 j hj
   refine ⟨⟨r,0,none⟩,cs,rfl,c1.mono (fun _ _=>rfl) (fun b hb=>good_sub hb),c2,fun q hq=>⟨oD hw h hhas,?_⟩⟩
   rw [← c3 q qN]; simp [World.cell?,b4]
  ·rw [hv] at h1; simp at h1
 ·exact hd.facts x hx
theorem Seals.over {os:List Own} {fs:List bD} (pos:Nat) {v:Value} {n:Nat} {vs:Nat→Value} {D:Nat→Dat} (h:a8 os pos=some (bE v 1 n fun i=>.one (vs i))) (hs:isSl v)
  (hk:∀ i,i<n→(vs i,D i)∈fs∧(D i).flat=true):Seals os fs (cR os pos) ((v,.sl 1 n D)::fs):=by
 intro G w hw
 have hd:=hw.drop pos
 refine hd.put ?_
 obtain ⟨a,m,c,rfl⟩:=hs
 rcases hw.own _ (bF h) 0 Nat.zero_lt_one with ⟨h1,h2⟩ | ⟨r,cap,h1,h2⟩ | ⟨r,h1,_⟩ | ⟨_,_,_,_,_,_,⟨r,_,_,h1,_⟩ | ⟨r,_,_,_,_,_,_,h1,_⟩⟩
 rotate_right
 ·simp [bE] at h1
 rotate_right
 ·simp [bE] at h1
 ·simp only [bE] at h1 h2
  rw [h1,h2]
  exact dM (os:=cR os pos) (fs:=fs) 1 D G w hd
 ·have hhas:(bE (.slice a m c) 1 n fun i=>.one (vs i)).has r:=⟨0,Nat.zero_lt_one,by rw [h1]; rfl⟩
  simp only [bE] at h1 h2
  rw [h1]
  obtain ⟨b1,b2,b3,cur,t,b4,b5,b6⟩:=h2
  refine ⟨[.slice (some ⟨r,0,none⟩) n cap],⟨_,cap,rfl,b2,b3,fun hn=>by simp at hn,fun b hb _=>by simp at hb; subst hb; rfl,fun i hi=>?_⟩,rfl⟩
  obtain ⟨cs,⟨rfl,c1⟩,c2,c3⟩:=b6 i hi
  obtain ⟨hm,hf⟩:=hk i hi
  obtain ⟨cs',k1,k2⟩:=hd.facts _ hm
  obtain ⟨u,rfl,_,k3⟩:=RdC.single hf k1
  rw [k3] at k2
  simp only at k2
  refine ⟨⟨r,0,none⟩,[vs i],rfl,by rw [k2]; exact k1,rfl,fun q hq=>⟨oD hw h hhas,?_⟩⟩
  rw [← c3 q (by simpa using hq)]; simp [World.cell?,b4]
 ·simp [bE] at h1
theorem Seals.rows {F:Own} {v:Value} {os:List Own} {fs:List bD} (hv:isSl v) (hs:∀ i,i<F.m→isSl (F.v i)) :
  Seals (F::bE v 1 F.m (fun i=>.one (F.v i))::os) fs os ((v,.sl 1 F.m fun i=>.sl F.size (F.n i) (F.e i))::fs):=by
 refine aA (Seals.fam (os:=F::bE v 1 F.m (fun i=>.one (F.v i))::os) 0 rfl hs) (aA (Seals.over (os:=bE v 1 F.m (fun i=>.one (F.v i))::os) (D:=fun i=>.sl F.size (F.n i) (F.e i)) 0 rfl hv fun i hi=>⟨?_,rfl⟩) (aB fun x hx=>?_))
 ·exact List.mem_append.2 (.inl (List.mem_map.2 ⟨i,List.mem_range.2 hi,rfl⟩))
 ·rcases List.mem_cons.1 hx with rfl | hx
  ·exact .head _
  ·exact .tail _ (List.mem_append.2 (.inr hx))
theorem load_own_one {P:Program} {t:TypeId} {os:List Own} {fs:List bD} {K:bZ} [ht:mJ P t] (pos i:Nat) {o:Own} (h:a8 os pos=some o) (hi:i<o.m) (j:Nat) {k:Nat} (hk:k=j*o.size)
  (hj:j<o.n i) {u:Value} (hd:o.e i j=.one u) (k':K u os fs):kE P t (k6 (o.v i) k) os fs K:=by
 refine ⟨fun G w hw=>?_⟩
 have hov:=hw.own o (bF h) i hi
 obtain ⟨r,cap,hr⟩:=hov.row qN
 obtain ⟨cs,g1,g2,g3⟩:=hr.row.cellsAt hj
 have g1':RdC (Good G.A os w) w (.one u) cs:=hd ▸ g1
 have hp:qG (.one u) cs=u:=by simp [qG,g1'.1]
 rw [hr.ptr k]
 refine ⟨u,fs,fun w' hb=>c9 ?_,k',hw⟩
 have:=mD (P:=P) (t:=t) (w:=w') (r:=r) (o:=k) (d:=.one u) ht g1' fun x hx=>by
  rw [hk]; exact g3 w' (hb.block r (hov.blk hr.blk).2) x hx
 rw [hp] at this
 exact this
theorem aG {P:Program} {t:TypeId} {v:Value} {size n:Nat} {e:Nat→Dat} {os:List Own} {fs:List bD} {K:bZ} [ht:mJ P t] (pos:Nat) (h:a8 os pos=some (bE v size n e)) (j:Nat)
  (hj:j<n) {u:Value} (hd:e j=.one u) (k':K u os fs):kE P t (k6 v (j*size)) os fs K :=
 load_own_one (o:=bE v size n e) pos 0 h Nat.zero_lt_one j rfl hj hd k'
theorem mX {P:Program} {t:TypeId} {v:Value} {d:Dat} {os:List Own} {fs:List bD} {K:bZ} (hr:Reads os fs v d) (k:∀ p,K p os ((p,.ptr d)::fs)):BoxK P t v os fs K :=
 ⟨Grw.sealed (bA hr (K:=fun u os' fs'=>∃ os'' fs'',Seals os' fs' os'' fs''∧K u os'' fs'') fun p hp=>⟨_,_,Seals.box (os:=bE p d.cells 1 (fun _=>d)::os) 0 rfl hp rfl,k p⟩).out⟩
theorem Seals.re {os:List Own} {fs:List bD} (pos:Nat) {o o':Own} (h:a8 os pos=some o) (s:Nat→Nat) (hs:o'.size=o.size)
  (hv:∀ i,i<o'.m→s i<o.m∧o'.v i=o.v (s i)∧o'.n i=o.n (s i)∧∀ j,j<o.n (s i)→o'.e i j=o.e (s i) j) (hinj:∀ i j,i<o'.m→j<o'.m→s i=s j→i=j) (hz:0<o.size:=by exact Nat.zero_lt_succ _) :
  Seals os fs (setOwn os pos o') fs:=by
 intro G w hw
 have key:∀ {os:List Own},Apart os→o∈os→∀ i j b,i<o.m→j<o.m→l8 (o.v i)=some b→l8 (o.v j)=some b→i=j:=by
  intro os
  induction os with
  | nil=>intro _ hm; simp at hm
  | cons z r ih =>
   intro hA hm
   rcases List.mem_cons.1 hm with rfl | hm
   ·exact hA.1
   ·exact ih hA.2.2 hm
 refine hw.step h rfl rfl rfl (Nat.le_refl _) (fun _ _ _=>rfl) (fun b ⟨i,hi,hb⟩=>.inl ⟨s i,(hv i hi).1,by rw [← (hv i hi).2.1]; exact hb⟩) (fun i j b hi hj h1 h2=>?_) fun mono i hi=>?_
 ·rw [(hv i hi).2.1] at h1
  rw [(hv j hj).2.1] at h2
  exact hinj i j hi hj (key hw.apart (bF h) _ _ b (hv i hi).1 (hv j hj).1 h1 h2)
 ·obtain ⟨q1,q2,q3,q4⟩:=hv i hi
  rw [q2,q3,hs]
  have row:∀ {r cap n},n≤o.n (s i)→OwnRow (Good G.A os w) G.B w r o.size n cap (o.e (s i))→OwnRow (Good G.A (setOwn os pos o') w) G.B w r o.size n cap (o'.e i):=fun hn ⟨b1,b2,b3,cur,t,b4,b5,b6⟩ =>
   ⟨b1,b2,b3,cur,t,b4,b5,fun x hx=>let ⟨cs,c1,c2⟩:=b6 x hx; ⟨cs,by rw [q4 x qN]; exact mono _ _ c1,c2⟩⟩
  rcases hw.own _ (bF h) (s i) q1 with h1 | ⟨r,cap,h1,h2⟩ | ⟨r,h1,h2,h3⟩ | ⟨_,h1,_⟩
  ·exact .inl h1
  ·exact .inr (.inl ⟨r,cap,h1,row (Nat.le_refl _) h2⟩)
  ·exact .inr (.inr (.inl ⟨r,h1,h2,row qN h3⟩))
  ·omega
theorem pX {P:Program} {ty:TypeId} {x:Value} {d:Dat} {os:List Own} {fs:List bD} {K:bZ} (pos i:Nat) {o:Own} (o':Own) (h:a8 os pos=some o) (hi:i<o.m) (j:Nat)
  (hj:j<o.n i) (hd:d.cells=o.size) (ht:(P.info? ty).map (·.size)=some o.size) (hx:Reads os fs x d) (hm:o'.m=o.m) (hs:o'.size=o.size) (hv:∀ a,a<o.m→o'.v a=o.v a∧o'.n a=o.n a∧∀ b,b<o.n a→o'.e a b=if a=i∧b=j then d else o.e a b)
  (k':K undef (setOwn os pos o') fs):StoreK P ty (k6 (o.v i) (j*o.size)) x os fs K:=by
 have h1:=store_own (P:=P) (ty:=ty) (x:=x) (d:=d) (K:=fun u os' fs'=>∃ os'' fs'',Seals os' fs' os'' fs''∧K u os'' fs'') pos i h hi j rfl hj hd ht hx
 refine ⟨Dyn.sealed (h1 ⟨_,_,?_,k'⟩).out⟩
 have h2:=Seals.re (hz:=hd ▸ Dat.cells_pos _) (os:=setOwn os pos { o with e:=fun y=>if y=i then upd (o.e i) j d else o.e y }) (fs:=fs) (o':=o') pos (l4 h) (fun a=>a) hs (fun a ha=>?_) fun _ _ _ _ e=>e
 ·rw [set_set] at h2; exact h2
 ·rw [hm] at ha
  obtain ⟨g1,g2,g3⟩:=hv a ha
  refine ⟨ha,g1,g2,fun b hb=>?_⟩
  rw [g3 b hb]
  simp only
  by_cases hai:a=i
  ·subst hai
   simp only [if_true,upd]
   by_cases hbj:b=j
   ·simp [hbj]
   ·simp [hbj]
  ·simp [hai]
theorem CallK.pre {P:Program} {d:Bool} {fv:Value} {args:List Value} {os os':List Own} {fs fs':List bD} {K:bZ} (hs:Seals os fs os' fs') (h:CallK P d fv args os' fs' K):CallK P d fv args os fs K :=
 ⟨fun G w hw=>h.out G w (hs G w hw),fun hd G w hw=>h.grw hd G w (hs G w hw)⟩
theorem fQ (v w:Value) (x y:Int) (a b:Nat) (hx:sz x a) (hy:sz y b) (ha:a≤137438953472) (hb:b≤137438953472) :
  Meets Tryz.prog 98 [v,w] [(v,zd x),(w,zd y)] (fun r os fs=>os=[]∧fs=[(r,zd (x*y))]):=by
 have h:=zmul_meets v w (decide (x<0)) (decide (y<0)) (bT x.natAbs) (bT y.natAbs) (a0 _) (a0 _) (Nat.le_trans hx.len ha) (Nat.le_trans hy.len hb)
 rw [nC,nC] at h
 exact h
theorem zMulJ (v w:Value) (x y:Bool×List Nat) (hx:Lim x.2) (lx:x.2.length≤137438953472) (hy:Lim y.2) (ly:y.2.length≤137438953472) :
  Meets Tryz.prog 98 [v,w] [(v,J x),(w,J y)] (fun r os fs=>os=[]∧fs=[(r,zd (jv x*jv y))]):=zmul_meets v w x.1 y.1 x.2 y.2 hx hy lx ly
theorem nH (v w:Value) (x y:Int) (a b:Nat) (hx:sz x a) (hy:sz y b) (ha:a≤137438953472) (hb:b≤137438953472) :
  Meets Tryz.prog 97 [v,w] [(v,zd x),(w,zd y)] (fun r os fs=>os=[]∧fs=[(r,zd (x+y))]):=by
 have h:=rM v w (decide (x<0)) (decide (y<0)) (bT x.natAbs) (bT y.natAbs) (a0 _) (a0 _) (Nat.le_trans hx.len ha) (Nat.le_trans hy.len hb)
 rw [nC,nC] at h
 exact h
theorem zSubZ (v w:Value) (x y:Int) (a b:Nat) (hx:sz x a) (hy:sz y b) (ha:a≤137438953472) (hb:b≤137438953472) :
  Meets Tryz.prog 96 [v,w] [(v,zd x),(w,zd y)] (fun r os fs=>os=[]∧fs=[(r,zd (x - y))]):=by
 have h:=rL v w (decide (x<0)) (decide (y<0)) (bT x.natAbs) (bT y.natAbs) (a0 _) (a0 _) (Nat.le_trans hx.len ha) (Nat.le_trans hy.len hb)
 rw [nC,nC] at h
 exact h
theorem zNormZ (v:Value) (x:Int) (e:Nat) (hx:sz x e) (he:e≤137438953472) :
  Meets Tryz.prog 75 [v] [(v,zd x)] (fun r os fs=>os=[]∧fs=[(r,zd x)]):=by
 have h:=iF v (decide (x<0)) (bT x.natAbs) (a0 _) (Nat.le_trans hx.len qN)
 rw [nC] at h
 exact h
theorem zNegZ (v:Value) (x:Int) (e:Nat) (hx:sz x e) (he:e≤137438953472) :
  Meets Tryz.prog 68 [v] [(v,zd x)] (fun r os fs=>os=[]∧fs=[(r,zd (-x))]):=by
 have h:=zneg_meets v (decide (x<0)) (bT x.natAbs) (a0 _) (Nat.le_trans hx.len he)
 rw [nC] at h
 exact h
theorem uG (v:Value) (x:Int) (e:Nat) (hx:sz x e) (he:e≤137438953472) :
  Meets Tryz.prog 51 [v] [(v,zd x)] (fun r os fs=>os=[]∧fs=[]∧r=.int .i64 x.sign):=by
 have h:=cY v (decide (x<0)) (bT x.natAbs) (a0 _) (Nat.le_trans hx.len he)
 rw [nC] at h
 exact h
theorem gK (v w:Value) (x y:Int) (a b:Nat) (hx:sz x a) (hy:sz y b) (ha:a≤137438953472) (hb:b≤137438953472) (h0:y≠0) :
  Meets Tryz.prog 94 [v,w] [(v,zd x),(w,zd y)] (fun r os fs=>os=[]∧∃ q m,r=.tuple #[q,m,.bool true]∧fs=[(q,zd (x/y)),(m,zd (x%y))]):=by
 have h:=pU v w (decide (x<0)) (decide (y<0)) (bT x.natAbs) (bT y.natAbs) (a0 _) (a0 _) (Nat.le_trans hx.len ha) (Nat.le_trans hy.len hb) (by rw [cK]; omega)
 rw [nC,nC] at h
 exact h
theorem pW {x y:Int} {e:Nat} (h:sz x e):sz (x/y) e:=Nat.lt_of_le_of_lt (Int.natAbs_ediv_le_natAbs x y) h
def pM (vs:Nat→Value) (R C:Nat) (x:Mx):Own:=⟨R,vs,2,fun _=>C,fun i k=>zd (x i k)⟩
def matL (R C:Nat) (x:Mx):List (List Int):=(List.range R).map fun i=>(List.range C).map fun k=>x i k
def gJ (v:Value) (R:Nat) (vs:Nat→Value):Own:=bE v 1 R fun i=>.one (vs i)
theorem tz_nil:m4 Tryz.prog 22 (.one (.slice none 0 0)):=uL info_sl fun _ _=>⟨rfl,rfl⟩
theorem isSl.one {v:Value} (h:isSl v):v.oneCell'=true:=by obtain ⟨a,n,c,rfl⟩:=h; rfl
theorem Seals.none {os:List Own} {fs:List bD} (F:Own) (h:F.m=0):Seals os fs (F::os) fs:=by
 intro G w hw
 have has:∀ b,¬ F.has b:=fun b ⟨i,hi,_⟩=>by omega
 have own:∀ b,eS (F::os) b↔eS os b:=fun b=>by simp [eS,has b]
 have good:∀ b,Good G.A os w b→Good G.A (F::os) w b:=fun b ⟨g1,g2,g3⟩=>⟨g1,g2,fun h=>g3 ((own b).1 h)⟩
 have agree:lL (Good G.A os w) w w:=fun _ _=>rfl
 refine ⟨hw.low,hw.size,hw.below,⟨fun i j b hi _ _ _=>by omega,fun b hb=>absurd hb (has b),hw.apart⟩,fun o ho i hi=>?_,hw.facts.mono agree good⟩
 rcases List.mem_cons.1 ho with rfl | ho
 ·omega
 ·exact (hw.own o ho i hi).mono agree good (fun _ _=>rfl)
theorem matL_len (R C:Nat) (x:Mx):(matL R C x).length=R:=by unfold matL; simp
theorem matL_row {R C i:Nat} (x:Mx) (h:i<R):(matL R C x).getD i []=(List.range C).map fun k=>x i k:=by
 unfold matL; simp [gE,h]
theorem matL_at {R C i k:Nat} (x:Mx) (h:i<R) (h':k<C):((matL R C x).getD i []).getD k 0=x i k:=by
 rw [matL_row x h]; simp [gE,h']
theorem range_cn {C k:Nat} (g:Nat→Int) (h:k<C):(((List.range C).map fun k=>g k).map cn).getD k z0=cn (g k):=by
 simp [gE,h]
theorem Seals.made {v:Value} {vs:Nat→Value} {R C:Nat} {x:Mx} {os:List Own} {fs:List bD} (hv:isSl v) (hs:∀ i,i<R→isSl (vs i)) :
  Seals (pM vs R C x::gJ v R vs::os) fs os ((v,wd (matL R C x))::fs):=by
 let F':Own:=⟨R,vs,2,fun _=>C,fun i k=>J ((((List.range C).map fun k=>x i k).map cn).getD k z0)⟩
 have h1:Seals (pM vs R C x::gJ v R vs::os) fs (F'::gJ v R vs::os) fs :=
  Seals.re (os:=pM vs R C x::gJ v R vs::os) 0 rfl (fun i=>i) rfl (fun i hi=>⟨hi,rfl,rfl,fun k hk=>by
   show J _=zd _
   have hk':k<C:=hk
   rw [range_cn (fun k=>x i k) hk']; rfl⟩) (fun _ _ _ _ e=>e)
 refine aA h1 (aA (Seals.rows (F:=F') hv hs) (a7 (Knw.cast (Knw.sl_cong (e':=fun i=>V (((matL R C x).map (·.map cn)).getD i [])) (bC (List.Mem.head _)) fun i hi=>?_) ?_) (aB fun F hF=>.tail _ hF)))
 ·have e:((matL R C x).map (·.map cn)).getD i []=((List.range C).map fun k=>x i k).map cn:=by
   have hi':i<R:=hi
   unfold matL; simp [gE,hi']
  rw [e]
  unfold V LD
  rw [List.length_map,List.length_map,List.length_range]
 ·unfold wd W LD
  rw [List.length_map,matL_len]
def clo (g:FuncId) (cap:List Value):Value:=.func (.func g) #[] cap.toArray
theorem clo_call {d:Bool} {g:FuncId} {cap args:List Value} {os os₁:List Own} {fs fs₁ cfs:List bD} {K:bZ} {R:Value→List Own→List bD→Prop}
  (hm:Meets Tryz.prog g (args++cap) cfs R) (hs:Seals os fs os₁ fs₁) (hsub:Sub cfs fs₁) (k:∀ v os' fs',R v os' fs'→K v (os'++os₁) (fs'++fs₁)):CallK Tryz.prog d (clo g cap) args os fs K :=
 wX (first:=[]) hs hm hsub k
theorem mmade_meets (R C:Nat) (g:FuncId) (cap:List Value) (cfs:List bD) (f:Nat→Nat→Bool×List Nat)
  (hf:∀ i k,i<R→k<C→Meets Tryz.prog g ([.int .i64 (i:Nat),.int .i64 (k:Nat)]++cap) cfs (fun r os fs=>os=[]∧fs=[(r,J (f i k))]))
  (hl:∀ i k,i<R→k<C→Lim (f i k).2∧(f i k).2.length≤1099511627776) (hR:R≤1073741824) (hC:C≤1073741824) :
  Meets Tryz.prog 155 [.int .i64 (R:Nat),.int .i64 (C:Nat),clo g cap] cfs (fun r os fs=>isSl r∧∃ vs,(∀ i,i<R→isSl (vs i))∧os=[pM vs R C fun i k=>jv (f i k),gJ r R vs]∧fs=[]):=by
 refine mV Tryz.func155 ?_
 refine eF (t:=39) (d:=.one (.slice none 0 0)) (hz:=tz_nil) R rfl rfl qN qN fun v hv=>?_
 refine cS 0 rfl hv fun _=>?_
 refine aO (X:=Nat×(Nat→Value)) (fun x=>([(1,.int .i64 (C:Nat)),(2,clo g cap),(7,v),(13,.int .i64 (R:Nat)),(14,.int .i64 (x.1:Nat))],[pM x.2 x.1 C fun i k=>jv (f i k),gJ v R x.2],cfs))
  (fun x=>x.1≤R∧∀ i,i<x.1→isSl (x.2 i)) (fun x=>R - x.1) rfl ?_ ?_
 ·exact aU (0,fun _=>.slice none 0 0) ⟨Nat.zero_le _,fun i hi=>absurd hi (Nat.not_lt_zero _)⟩ trivial qF (Seals.none _ rfl)
 ·rintro ⟨i,vs⟩ ⟨h1,h2⟩
  simp only at h1 h2 ⊢
  refine aD _ rfl (fun hi=>?_) (fun hi=>?_)
  ·have hilt:i<R:=by omega
   refine eF (t:=22) (d:=I false []) C rfl rfl qN qN fun u hu=>?_
   refine aE 2 rfl hv i rfl hilt ?_
   refine cI (bL (d:=.one u) 2 rfl i hilt rfl qK (bW hu.one) ⟨_,_,Seals.own_cong (os:=[_,_,_]) 2 (fun y=>.one (if y=i then u else vs y)) rfl rfl (fun y _=>by simp only [upd]; split <;> rfl),?_⟩)
   refine aE 2 rfl hv i rfl hilt ?_
   refine aG 2 rfl i hilt (u:=u) qP ?_
   refine cS 0 rfl hu fun _=>?_
   refine aO (X:=Nat) (fun k=>([(1,.int .i64 (C:Nat)),(2,clo g cap),(7,v),(8,.int .i64 (i:Nat)),(13,.int .i64 (R:Nat)),(14,.int .i64 (i:Nat)),(26,.int .i64 (C:Nat)),(27,.int .i64 (k:Nat))],
    [bE u 2 C (fun y=>if y<k then zd (jv (f i y)) else I false []),pM vs i C fun i k=>jv (f i k),gJ v R fun y=>if y=i then u else vs y],cfs))
    (fun k=>k≤C) (fun k=>C - k) rfl ?_ ?_
   ·exact aU 0 (Nat.zero_le _) trivial qF (Seals.own_cong (os:=[_,_,_]) 0 _ rfl rfl fun y _=>(if_neg (Nat.not_lt_zero _)).symm)
   ·rintro k hk
    refine aD _ rfl (fun hc=>?_) (fun hc=>?_)
    ·have hkC:k<C:=by omega
     refine aY [0,1,2,3,4,5,6,7,8,9,10,11] [0,1,2,3,4,5,6,7,8,9,10,11] qK qK ?_
     refine aE 2 rfl hv i rfl hilt ?_
     refine aG 2 rfl i hilt (u:=u) qP ?_
     refine clo_call (hf i k hilt hkC) (Seals.refl _ _) (fun F hF=>hF) ?_
     rintro r1 _ _ ⟨rfl,rfl⟩
     refine cG (iF r1 (f i k).1 (f i k).2 (hl i k hilt hkC).1 (hl i k hilt hkC).2) fun r2=>?_
     refine aE 0 rfl hu k rfl hkC ?_
     refine cI (bL (d:=zd (iv (f i k).1 (f i k).2)) 0 rfl k hkC rfl qK (aC qM) ⟨_,_,Seals.own_cong (os:=[_,_,_]) 0 (fun y=>if y<k+1 then zd (jv (f i y)) else I false []) rfl rfl (fun y _=>?_),?_⟩)
     ·simp only [upd]
      by_cases hy:y=k
      ·subst hy
       rw [if_pos rfl,if_pos qN]; rfl
      ·by_cases hy2:y<k
       ·rw [if_neg hy,if_pos hy2,if_pos qN]
       ·rw [if_neg hy,if_neg hy2,if_neg qN]
     refine ar rfl qI ?_
     exact aU (k+1) qN (by simp only; omega) qF (aB fun F hF=>.tail _ (.tail _ hF))
    ·have hkC:k=C:=by omega
     subst hkC
     refine ar rfl qI ?_
     refine aU (i+1,fun y=>if y=i then u else vs y) ⟨by simp only; omega,fun y hy=>?_⟩ (by simp only; omega) qF ?_
     ·simp only at hy ⊢
      by_cases e:y=i
      ·rw [if_pos e]; exact hu
      ·rw [if_neg e]; exact h2 y qN
     ·refine Seals.join rfl rfl rfl (fun y hy=>⟨?_,rfl,fun _ _=>rfl⟩) ⟨?_,rfl,fun y hy=>?_⟩
      ·have hy':y<i:=hy
       show (if y=i then u else vs y)=vs y
       rw [if_neg qN]
      ·show (if i=i then u else vs i)=u
       rw [if_pos rfl]
      ·show zd (jv (f i y))=if y<k then _ else _
       rw [if_pos hy]
  ·have hiR:i=R:=by omega
   subst hiR
   exact fin ⟨hv,vs,h2,rfl,rfl⟩ (aH _ _)
structure Bs where
 x:Mx
 last:Int
 odd:Bool
 step:Nat
def lH (x:Mx) (R c:Nat):Nat→Nat→Nat
 | 0,_=>R
 | n+1,p=>if x p c=0 then lH x R c n (p+1) else p
def swp (x:Mx) (s p:Nat):Mx:=fun i k=>x (if i=s then p else if i=p then s else i) k
def elim (x:Mx) (s c:Nat) (last:Int):Mx:=fun i k=>if i≤s then x i k else if k<c then x i k else if k=c then 0 else (x s c*x i k - x i c*x s k)/last
def bstep (R:Nat) (st:Bs) (c:Nat):Bs :=
 if lH st.x R c (R - st.step) st.step=R then st
 else ⟨elim (swp st.x st.step (lH st.x R c (R - st.step) st.step)) st.step c st.last,swp st.x st.step (lH st.x R c (R - st.step) st.step) st.step c,
  if lH st.x R c (R - st.step) st.step=st.step then st.odd else !st.odd,st.step+1⟩
def brun (R:Nat):Nat→Nat→Bs→Bs
 | 0,_,st=>st
 | n+1,c,st=>if st.step<R then brun R n (c+1) (bstep R st c) else st
def bar (R C:Nat) (x:Mx):Bs:=brun R C 0 ⟨x,1,false,0⟩
theorem pfind_spec (x:Mx) (R c:Nat):∀ (n p:Nat),p+n=R→(lH x R c n p=R∧∀ i,p≤i→i<R→x i c=0)∨(p≤lH x R c n p∧lH x R c n p<R∧x (lH x R c n p) c≠0)
 | 0,p,h=>.inl ⟨rfl,fun i h1 h2=>by omega⟩
 | n+1,p,h=>by
  unfold lH
  split
  ·rename_i h0
   rcases pfind_spec x R c n (p+1) qN with ⟨h1,h2⟩ | ⟨h1,h2,h3⟩
   ·refine .inl ⟨h1,fun i hi hR=>?_⟩
    by_cases e:i=p
    ·rw [e,h0]
    ·exact h2 i qN hR
   ·exact .inr ⟨by omega,h2,h3⟩
  ·rename_i h0
   exact .inr ⟨Nat.le_refl _,by omega,h0⟩
def kF (A:Mx) (rl cl:List Nat):Mx:=fun i j=>A (rl.getD i 0) (cl.getD j 0)
def wt (A:Mx) (s x:Nat) (rl cl:List Nat):Nat→Int:=fun r=>sg (r+1)*det s (cut (kF A (x::rl) (0::cl)) (r+1) 0)
theorem bord (A:Mx) (s x k:Nat) (rl cl:List Nat) :
  det (s+1) (kF A (x::rl) (k::cl))=A x k*det s (kF A rl cl)+cM (fun r=>wt A s x rl cl r*A (rl.getD r 0) k) s:=by
 rw [det,jJ]
 congr 1
 ·simp [sg,kF]; rfl
 ·refine bI fun r _=>?_
  have:cut (kF A (x::rl) (k::cl)) (r+1) 0=cut (kF A (x::rl) (0::cl)) (r+1) 0:=by
   funext a b; simp [cut,kF,iG]
  rw [this]
  simp only [wt,kF,List.getD_cons_succ,List.getD_cons_zero]
  grind
theorem w6 (A:Mx) {s x k j:Nat} (rl cl:List Nat) (hj:j<s) (h:cl.getD j 0=k):det (s+1) (kF A (x::rl) (k::cl))=0:=by
 rw [← pB]
 refine (kJ (s+1)).eqRows (r:=0) (s:=j+1) qN qN qN fun i _=>?_
 simp only [tp,kF,List.getD_cons_succ,List.getD_cons_zero,h]
theorem det_row0 {n:Nat} (A:Mx) (h:∀ j,0<j→j<n+1→A 0 j=0):det (n+1) A=A 0 0*det n (cut A 0 0):=by
 rw [det_row A (i:=0) qN,jJ,eT fun j hj=>by rw [h (j+1) qN qN]; simp]
 simp [sg]
theorem det_row01 {n:Nat} (A:Mx) (h:∀ j,1<j→j<n+2→A 0 j=0):det (n+2) A=A 0 0*det (n+1) (cut A 0 0) - A 0 1*det (n+1) (cut A 0 1):=by
 rw [det_row A (i:=0) qN,jJ,jJ,eT fun j hj=>by rw [h (j+1+1) qN qN]; simp]
 simp [sg]; omega
theorem sylv (A:Mx) (s x y c k:Nat) (rl cl:List Nat) (hd:det s (kF A rl cl)≠0) :
  det s (kF A rl cl)*det (s+2) (kF A (y::x::rl) (k::c::cl)) =
   det (s+1) (kF A (x::rl) (c::cl))*det (s+1) (kF A (y::rl) (k::cl)) - det (s+1) (kF A (y::rl) (c::cl))*det (s+1) (kF A (x::rl) (k::cl)):=by
 let d:=det s (kF A rl cl)
 let cs:=k::c::cl
 let n0:=kF A (y::x::rl) cs
 let My:Nat→Int:=fun j=>det (s+1) (kF A (y::rl) (cs.getD j 0::cl))
 let Mx':Nat→Int:=fun j=>det (s+1) (kF A (x::rl) (cs.getD j 0::cl))
 have hF:=kJ (s+2)
 have e1:det (s+2) (rw' n0 1 Mx')=d*det (s+2) n0:=by
  have h1:=hF.smul n0 (r:=1) qN d (n0 1)
  rw [uW] at h1
  rw [← h1]
  have h2:=hF.addRows (A:=n0) (r:=1) qN (wt A s x rl cl) (fun r=>r+2) s (fun r hr=>⟨by omega,by omega⟩) (fun j=>d*n0 1 j)
  rw [← h2]
  refine bP fun i j _ _=>?_
  unfold rw'
  split
  ·show Mx' j=_
   simp only [Mx']
   rw [bord]
   simp only [n0,kF,List.getD_cons_succ,List.getD_cons_zero,d,cs]
   rw [Int.mul_comm]
  ·rfl
 have e2:det (s+2) (rw' (rw' n0 1 Mx') 0 My)=d*(d*det (s+2) n0):=by
  rw [← e1]
  have h1:=hF.smul (rw' n0 1 Mx') (r:=0) qN d (n0 0)
  have e0:rw' (rw' n0 1 Mx') 0 (n0 0)=rw' n0 1 Mx':=by
   funext i j; unfold rw'; split
   ·rename_i h; rw [h,if_neg qN]
   ·rfl
  rw [e0] at h1
  rw [← h1]
  have h2:=hF.addRows (A:=rw' n0 1 Mx') (r:=0) qN (wt A s y rl cl) (fun r=>r+2) s (fun r hr=>⟨by omega,by omega⟩) (fun j=>d*n0 0 j)
  rw [← h2]
  refine bP fun i j _ _=>?_
  unfold rw'
  split
  ·show My j=_
   simp only [My]
   rw [bord]
   have:∀ r,¬ r+2=1:=fun r=>by omega
   simp only [n0,kF,List.getD_cons_succ,List.getD_cons_zero,d,cs,if_neg (this _)]
   rw [Int.mul_comm]
  ·rfl
 have z:∀ w j,1<j→j<s+2→det (s+1) (kF A (w::rl) (cs.getD j 0::cl))=0:=fun w j h1 h2=>by
  obtain ⟨j,rfl⟩:∃ j',j=j'+2:=⟨j - 2,by omega⟩
  exact w6 A rl cl (j:=j) qN (by simp [cs])
 have e3:det (s+2) (rw' (rw' n0 1 Mx') 0 My)=My 0*(Mx' 1*d) - My 1*(Mx' 0*d):=by
  rw [det_row01 _ fun j h1 h2=>by show (if 0=0 then My j else _)=0; rw [if_pos rfl]; exact z y j h1 h2]
  have f0:rw' (rw' n0 1 Mx') 0 My 0 0=My 0:=if_pos rfl
  have f1:rw' (rw' n0 1 Mx') 0 My 0 1=My 1:=if_pos rfl
  rw [f0,f1]
  congr 2
  ·rw [det_row0 _ fun j h1 h2=>?_]
   ·congr 1
   ·simp only [cut,iG,rw']
    exact z x (j+1) qN qN
  ·rw [det_row0 _ fun j h1 h2=>?_]
   ·congr 1
   ·have e:sk 1 j=j+1:=if_neg qN
    simp only [cut,iG,rw',e]
    exact z x (j+1) qN qN
 rw [e2] at e3
 have e4:d*(d*det (s+2) n0)=d*(Mx' 1*My 0 - My 1*Mx' 0):=by rw [e3]; grind
 exact Int.eq_of_mul_eq_mul_left hd e4
structure BInv (A:Mx) (R C:Nat) (st:Bs) (c:Nat) (rl cl:List Nat) (p:Nat→Nat):Prop where
 stepR:st.step≤R
 into:∀ i,i<R→p i<R
 onto:∀ i,i<R→∃ j,j<R∧p j=i
 rows:∀ j,j<st.step→rl.getD j 0=p (st.step - 1 - j)
 cols:∀ j,j<st.step→cl.getD j 0<c
 down:∀ j,j+1<st.step→cl.getD (j+1) 0<cl.getD j 0
 last:st.last=det st.step (kF A rl cl)
 ne:st.last≠0
 val:∀ i k,st.step≤i→i<R→k<C→st.x i k=det (st.step+1) (kF A (p i::rl) (k::cl))
 zero:∀ i k,st.step≤i→i<R→k<c→k<C→st.x i k=0
 sign:det R (fun i j=>A (p i) j)=(if st.odd then -1 else 1)*det R A
theorem BInv.start (A:Mx) (R C:Nat):BInv A R C ⟨A,1,false,0⟩ 0 [] [] (fun i=>i) :=
 ⟨Nat.zero_le _,fun _ h=>h,fun i h=>⟨i,h,rfl⟩,fun j h=>absurd h (Nat.not_lt_zero _),fun j h=>absurd h (Nat.not_lt_zero _),fun j h=>absurd h (Nat.not_lt_zero _),rfl,by simp,
  fun i k _ _ _=>by simp [det,cM,sg,kF],fun i k _ _ h=>absurd h (Nat.not_lt_zero _),by simp⟩
theorem BInv.step {A:Mx} {R C:Nat} {st:Bs} {c:Nat} {rl cl:List Nat} {p:Nat→Nat} (h:BInv A R C st c rl cl p) (hs:st.step<R) (hc:c<C) :
  ∃ rl' cl' p',BInv A R C (bstep R st c) (c+1) rl' cl' p':=by
 obtain ⟨x,last,odd,s⟩:=st
 simp only at hs
 have hv:=h.val
 have hz:=h.zero
 have hlast:=h.last
 simp only at hv hz hlast
 unfold bstep
 rcases pfind_spec x R c (R - s) s qN with ⟨h1,h2⟩ | ⟨h1,h2,h3⟩
 ·simp only [h1,if_true]
  refine ⟨rl,cl,p,h.stepR,h.into,h.onto,h.rows,fun j hj=>Nat.lt_succ_of_lt (h.cols j hj),h.down,h.last,h.ne,h.val,fun i k hi hR hk hC=>?_,h.sign⟩
  by_cases e:k=c
  ·subst e; exact h2 i hi hR
  ·exact hz i k hi hR qN hC
 ·generalize lH x R c (R - s) s=q at h1 h2 h3
  simp only [if_neg (Nat.ne_of_lt h2)]
  let t:Nat→Nat:=fun i=>if i=s then q else if i=q then s else i
  have tt:∀ i,t (t i)=i:=fun i=>by simp only [t]; split <;> split <;> (try split) <;> omega
  have tR:∀ i,i<R→t i<R:=fun i hi=>by simp only [t]; split <;> (try split) <;> omega
  have ts:∀ i,s≤i→s≤t i:=fun i hi=>by simp only [t]; split <;> (try split) <;> omega
  have tl:∀ i,i<s→t i=i:=fun i hi=>by simp only [t]; rw [if_neg qN,if_neg qN]
  have hy:∀ i k,swp x s q i k=x (t i) k:=fun _ _=>rfl
  have hts:t s=q:=if_pos rfl
  have hv':∀ i k,s≤i→i<R→k<C→swp x s q i k=det (s+1) (kF A (p (t i)::rl) (k::cl)):=fun i k h1 h2 h3=>by rw [hy]; exact hv _ _ (ts i h1) (tR i h2) h3
  have hz':∀ i k,s≤i→i<R→k<c→swp x s q i k=0:=fun i k h1 h2 h3=>by rw [hy]; exact hz _ _ (ts i h1) (tR i h2) h3 qN
  have hd:swp x s q s c=det (s+1) (kF A (p (t s)::rl) (c::cl)):=hv' s c (Nat.le_refl _) hs hc
  have hd0:swp x s q s c≠0:=by rw [hy,hts]; exact h3
  have hl0:det s (kF A rl cl)≠0:=by have:=h.ne; simp only at this; rwa [hlast] at this
  have hsyl:∀ i k,s≤i→i<R→k<C→det s (kF A rl cl)*det (s+2) (kF A (p (t i)::p (t s)::rl) (k::c::cl))=swp x s q s c*swp x s q i k - swp x s q i c*swp x s q s k:=fun i k h1 h2 h3=>by
   rw [hv' s c (Nat.le_refl _) hs hc,hv' i k h1 h2 h3,hv' i c h1 h2 hc,hv' s k (Nat.le_refl _) hs h3]
   exact sylv A s (p (t s)) (p (t i)) c k rl cl hl0
  refine ⟨p (t s)::rl,c::cl,fun i=>p (t i),by simp only; omega,fun i hi=>h.into _ (tR i hi),fun i hi=>?_,fun j hj=>?_,fun j hj=>?_,fun j hj=>?_,hd,hd0,fun i k hi hR hk=>?_,fun i k hi hR hk hC=>?_,?_⟩
  ·obtain ⟨j,hj,e⟩:=h.onto i hi
   exact ⟨t j,tR j hj,by rw [tt,e]⟩
  ·simp only at hj ⊢
   cases j with
   | zero=>rw [List.getD_cons_zero]; congr 2
   | succ j =>
    rw [List.getD_cons_succ]
    have:=h.rows j (by simp only; omega)
    simp only at this
    rw [this,show s+1 - 1 - (j+1)=s - 1 - j by omega,tl _ qN]
  ·simp only at hj
   cases j with
   | zero=>rw [List.getD_cons_zero]; omega
   | succ j=>rw [List.getD_cons_succ]; have:=h.cols j (by simp only; omega); omega
  ·simp only at hj
   cases j with
   | zero=>rw [List.getD_cons_zero,List.getD_cons_succ]; exact h.cols 0 (by simp only; omega)
   | succ j=>rw [List.getD_cons_succ,List.getD_cons_succ]; exact h.down j (by simp only; omega)
  ·simp only at hi ⊢
   have hsy:=hsyl i k qN hR hk
   unfold elim
   rw [if_neg qN]
   by_cases hkc:k<c
   ·rw [if_pos hkc]
    rw [hz' i k qN hR hkc,hz' s k (Nat.le_refl _) hs hkc] at hsy
    rw [hz' i k qN hR hkc]
    rcases Int.mul_eq_zero.1 (show det s (kF A rl cl)*det (s+2) (kF A (p (t i)::p (t s)::rl) (k::c::cl))=0 by rw [hsy]; omega) with h4 | h4
    ·exact absurd h4 hl0
    ·exact h4.symm
   ·rw [if_neg hkc]
    by_cases e:k=c
    ·rw [if_pos e]
     exact (w6 A (p (t s)::rl) (c::cl) (j:=0) qN (by rw [e]; rfl)).symm
    ·rw [if_neg e,← hsy,hlast,Int.mul_ediv_cancel_left _ hl0]
  ·simp only at hi ⊢
   unfold elim
   rw [if_neg qN]
   by_cases hkc:k<c
   ·rw [if_pos hkc]; exact hz' i k qN hR hkc
   ·rw [if_neg hkc,if_pos qN]
  ·have hsg:=h.sign
   simp only at hsg ⊢
   by_cases e:q=s
   ·rw [if_pos e]
    rw [← hsg]
    refine bP fun i j _ _=>?_
    have:t i=i:=by simp only [t]; split <;> (try split) <;> omega
    rw [this]
   ·rw [if_neg e]
    have hw:=(kJ R).swap (A:=fun i j=>A (p i) j) (r:=s) (s:=q) hs h2 (fun e'=>e e'.symm)
    rw [hsg] at hw
    have:det R (fun i j=>A (p (t i)) j) = - ((if odd=true then -1 else 1)*det R A):=by
     rw [← hw]
     refine bP fun i j _ _=>?_
     simp only [rw',t]
     by_cases h1:i=q
     ·simp [h1,e]
     ·by_cases h2:i=s
      ·have:¬ s=q:=fun e'=>e e'.symm
       simp [h2,this]
      ·simp [h1,h2]
    rw [this]
    cases odd <;> simp
theorem BInv.run {A:Mx} {R C:Nat}:∀ (n:Nat) {st:Bs} {c:Nat} {rl cl:List Nat} {p:Nat→Nat},BInv A R C st c rl cl p→c+n=C →
  ∃ c' rl' cl' p',BInv A R C (brun R n c st) c' rl' cl' p'∧c'≤C∧((brun R n c st).step=R∨c'=C)
 | 0,st,c,rl,cl,p,h,hc=>⟨c,rl,cl,p,h,by omega,.inr qN⟩
 | n+1,st,c,rl,cl,p,h,hc=>by
  unfold brun
  split
  ·rename_i hs
   obtain ⟨rl',cl',p',h'⟩:=h.step hs qN
   exact BInv.run n h' qN
  ·rename_i hs
   exact ⟨c,rl,cl,p,h,by omega,.inl (by have:=h.stepR; omega)⟩
theorem bar_inv (R C:Nat) (A:Mx):∃ c rl cl p,BInv A R C (bar R C A) c rl cl p∧c≤C∧((bar R C A).step=R∨c=C) :=
 BInv.run C (BInv.start A R C) qN
theorem bar_rank (R C:Nat) (A:Mx):Rk (bar R C A).step R C A:=by
 obtain ⟨c,rl,cl,p,h,hc,he⟩:=bar_inv R C A
 generalize bar R C A=st at h he
 refine ⟨⟨fun a i=>one (rl.getD a 0) i,fun k b=>one k (cl.getD b 0),fun e=>h.ne ?_⟩,st.last,h.ne,?_⟩
 ·rw [h.last,← e]
  refine bP fun a b ha hb=>?_
  have hr:rl.getD a 0<R:=by rw [h.rows a ha]; exact h.into _ (by have:=h.stepR; omega)
  have hcl:cl.getD b 0<C:=Nat.lt_of_lt_of_le (h.cols b hb) hc
  unfold mm
  rw [gW (r:=cl.getD b 0) hcl fun k _ hk=>by show _*(if k=cl.getD b 0 then (1:Int) else 0)=0; rw [if_neg hk,Int.mul_zero]]
  rw [gW (r:=rl.getD a 0) hr fun k _ hk=>by show (if rl.getD a 0=k then (1:Int) else 0)*_=0; rw [if_neg (Ne.symm hk),Int.zero_mul]]
  simp [one,kF]
 ·have hrow:∀ i,∃ b:Nat→Int,i<R→∀ k,k<C→st.last*A i k=cM (fun r=>b r*A (rl.getD r 0) k) st.step:=by
   intro i
   by_cases hi:i<R
   ·obtain ⟨j,hj,rfl⟩:=h.onto i hi
    by_cases hjs:st.step≤j
    ·refine ⟨fun r => - wt A st.step (p j) rl cl r,fun _ k hk=>?_⟩
     have h1:=h.val j k hjs hj hk
     have h2:st.x j k=0:=by
      rcases he with he | he
      ·omega
      ·exact h.zero j k hjs hj qN hk
     rw [h2,bord,← h.last] at h1
     rw [bI (g':=fun r => - (wt A st.step (p j) rl cl r*A (rl.getD r 0) k)) fun r _=>by grind,isum_neg,Int.mul_comm]
     omega
    ·refine ⟨fun r=>if r=st.step - 1 - j then st.last else 0,fun _ k hk=>?_⟩
     rw [gW (r:=st.step - 1 - j) qN fun r _ hr=>by show (if r=st.step - 1 - j then st.last else 0)*_=0; rw [if_neg hr,Int.zero_mul]]
     show _=(if st.step - 1 - j=st.step - 1 - j then st.last else 0)*_
     rw [if_pos rfl,h.rows _ qN,show st.step - 1 - (st.step - 1 - j)=j by omega]
   ·exact ⟨fun _=>0,fun h=>absurd h hi⟩
  exact ⟨fun i=>Classical.choose (hrow i),fun r k=>A (rl.getD r 0) k,fun i k hi hk=>Classical.choose_spec (hrow i) hi k hk⟩
def rev (n:Nat) (A:Mx):Mx:=fun i j=>A (n - 1 - i) (n - 1 - j)
theorem det_rev (n:Nat) (A:Mx):det n (rev n A)=det n A:=by
 have hF:Form n (fun A=>det n (rev n A)):=by
  refine ⟨fun hc=>bP fun i j hi hj=>hc _ _ qN qN,fun A r hr a b u v=>?_,fun {A r} hr he=>?_⟩
  ·have e:∀ w,det n (rev n (rw' A r w))=det n (rw' (rev n A) (n - 1 - r) (fun j=>w (n - 1 - j))):=fun w=>bP fun i j hi hj=>by
    simp only [rev,rw']
    by_cases h:i=n - 1 - r
    ·rw [if_pos h,if_pos qN]
    ·rw [if_neg h,if_neg qN]
   rw [e,e,e]
   exact k8 (rev n A) (r:=n - 1 - r) qN a b (fun j=>u (n - 1 - j)) (fun j=>v (n - 1 - j))
  ·refine k9 (r:=n - 1 - (r+1)) qN fun j hj=>?_
   simp only [rev]
   rw [show n - 1 - (n - 1 - (r+1))=r+1 by omega,show n - 1 - (n - 1 - (r+1)+1)=r by omega]
   exact (he _ qN).symm
 have:=hF.eq A
 rw [this]
 have e:det n (rev n one)=1:=by
  rw [← wS n]
  refine bP fun i j hi hj=>?_
  simp only [rev,one]
  by_cases h:i=j
  ·rw [if_pos h,if_pos qN]
  ·rw [if_neg h,if_neg qN]
 rw [e,Int.mul_one]
theorem down_all {n:Nat} {f:Nat→Nat} (h0:∀ j,j<n→f j<n) (hd:∀ j,j+1<n→f (j+1)<f j):∀ j,j<n→f j=n - 1 - j:=by
 have h1:∀ j,j<n→f j+j≤n - 1:=by
  intro j
  induction j with
  | zero=>intro h; have:=h0 0 h; omega
  | succ j ih=>intro h; have:=ih qN; have:=hd j h; omega
 have h2:∀ m j,j+m+1=n→m≤f j:=by
  intro m
  induction m with
  | zero=>intro j _; omega
  | succ m ih=>intro j h; have:=ih (j+1) qN; have:=hd j qN; omega
 intro j hj
 have:=h1 j hj
 have:=h2 (n - 1 - j) j qN
 omega
theorem bar_det (n:Nat) (A:Mx):det n A=if (bar n n A).step<n then 0 else if (bar n n A).odd then - (bar n n A).last else (bar n n A).last:=by
 have hrk:=bar_rank n n A
 by_cases hlt:(bar n n A).step<n
 ·rw [if_pos hlt]
  exact hrk.full.2 hlt
 ·rw [if_neg hlt]
  obtain ⟨c,rl,cl,p,h,hc,he⟩:=bar_inv n n A
  generalize bar n n A=st at h he hlt
  have hs:st.step=n:=by have:=h.stepR; omega
  have hcl:=down_all (n:=n) (f:=fun j=>cl.getD j 0) (fun j hj=>Nat.lt_of_lt_of_le (h.cols j qN) hc) (fun j hj=>h.down j qN)
  have e:st.last=det n (fun i j=>A (p i) j):=by
   rw [h.last,hs,← det_rev n (fun i j=>A (p i) j)]
   refine bP fun i j hi hj=>?_
   simp only [kF,rev]
   rw [h.rows i qN,hcl j hj,hs]
  have hsg:=h.sign
  rw [← e] at hsg
  rw [hsg]
  cases st.odd <;> simp
theorem rZ {t e' ty:TypeId} {size':Nat} {vs:Nat→Value} {R C:Nat} {x:Mx} {os:List Own} {fs:List bD} {K:bZ} [ht:TSl Tryz.prog t e' size'] (pos i:Nat)
  (h:a8 os pos=some (pM vs R C x)) (hi:i<R) (hs:isSl (vs i)) (k:C≤9223372036854775807→K (.int .i64 C) os fs):LenK Tryz.prog [t] ty (vs i) os fs K:=by
 obtain ⟨a,m,c,hv⟩:=hs
 refine ⟨fun G w hw=>?_⟩
 have key:∃ (a':Option Addr) (c':Nat),vs i=.slice a' C c'∧C≤9223372036854775807:=by
  rcases hw.own _ (bF h) i hi with ⟨h1,h2⟩ | ⟨r,cap,h1,b1,b2,b3,_⟩ | ⟨r,h1,_⟩ | ⟨_,_,_,_,_,_,⟨r,_,_,h1,_⟩ | ⟨r,_,_,_,_,_,_,h1,_⟩⟩
  rotate_right
  ·have h1':vs i=_:=h1
   rw [hv] at h1'; simp at h1'
  rotate_right
  ·have h1':vs i=_:=h1
   rw [hv] at h1'; simp at h1'
  ·have h2':C=0:=h2
   exact ⟨none,0,by rw [h2']; exact h1,by omega⟩
  ·have b2':C≤cap:=b2
   exact ⟨some ⟨r,0,none⟩,cap,h1,by unfold maxLen at b3; omega⟩
  ·have h1':vs i=_:=h1
   rw [hv] at h1'; simp at h1'
 obtain ⟨a',c',e,hC⟩:=key
 rw [e]
 exact (len_val (P:=Tryz.prog) (t:=t) (ty:=ty) (a:=a') (n:=C) (c:=c') (os:=os) (fs:=fs) (K:=K) (k hC)).out G w hw
theorem dF {vs:Nat→Value} {R C:Nat} {x:Mx} {os:List Own} {fs:List bD} {K:bZ} (pos i j:Nat) (h:a8 os pos=some (pM vs R C x)) (hi:i<R) (hj:j<C) (a:Int) (ha:x i j=a)
  (k:∀ u,K u os ((u,zd a)::fs)):kE Tryz.prog 26 (k6 (vs i) (j*2)) os fs K:=by
 subst ha
 exact oT (o:=pM vs R C x) pos i h hi j 0 rfl hj (aK _) (aN _ _) k
theorem bS {kk:IntKind} {z:Int} {vs:Nat→Value} {R C:Nat} {x:Mx} {os:List Own} {fs:List bD} {K:bZ} (pos i:Nat) (h:a8 os pos=some (pM vs R C x)) (hi:i<R) (hs:isSl (vs i)) (j:Nat) (hz:z=(j:Int)) (hj:j<C)
  (k:K (k6 (vs i) (j*2)) os fs):eM Tryz.prog 22 (vs i) (.int kk z) os fs K :=
 oC (o:=pM vs R C x) pos i h hi (fun r=>by obtain ⟨a,n,c,e⟩:=hs; show vs i≠_; rw [e]; simp) j hz hj k
theorem jM {u:Value} {vs:Nat→Value} {R C:Nat} {x:Mx} {os:List Own} {fs:List bD} {K:bZ} (pos i j:Nat) (h:a8 os pos=some (pM vs R C x)) (hi:i<R) (hj:j<C) (w:Int) (x':Mx)
  (hu:Reads os fs u (zd w)) (hx:∀ a b,a<R→b<C→x' a b=if a=i∧b=j then w else x a b) (k:K undef (setOwn os pos (pM vs R C x')) fs) :
  StoreK Tryz.prog 26 (k6 (vs i) (j*2)) u os fs K :=
 pX (d:=zd w) pos i (pM vs R C x') h hi j hj rfl qK hu rfl rfl (fun a ha=>⟨rfl,rfl,fun b hb=>by
  show zd (x' a b)=if a=i∧b=j then zd w else zd (x a b)
  rw [hx a b ha hb]; split <;> rfl⟩) k
theorem Seals.famcong {vs vs':Nat→Value} {R C:Nat} {x x':Mx} {os:List Own} {fs:List bD} (pos:Nat) (h:a8 os pos=some (pM vs R C x)) (s:Nat→Nat) (hs:∀ i,i<R→s i<R∧vs' i=vs (s i)∧∀ k,k<C→x' i k=x (s i) k)
  (hinj:∀ i j,i<R→j<R→s i=s j→i=j):Seals os fs (setOwn os pos (pM vs' R C x')) fs :=
 Seals.re (o':=pM vs' R C x') pos h s rfl (fun i hi=>⟨(hs i hi).1,(hs i hi).2.1,rfl,fun k hk=>by
  show zd _=zd _
  rw [(hs i hi).2.2 k hk]⟩) hinj
theorem mB (v w:Value) (x y:Int) (a b:Nat) (hx:sz x a) (hy:sz y b) (ha:a≤137438953472) (hb:b≤137438953472) (h0:y≠0) :
  Meets Tryz.prog 157 [v,w] [(v,zd x),(w,zd y)] (fun r os fs=>os=[]∧fs=[(r,zd (x/y))]):=by
 refine mV Tryz.func157 ?_
 refine bA (aC (d:=zd x) qM) fun p hp=>?_
 refine bA (aC (d:=zd y) qM) fun q hq=>?_
 refine aM (d:=I false []) fun o ho=>?_
 refine aF (d:=zd x) 2 rfl hp rfl (aN _ _) fun u1=>?_
 refine aF (d:=zd y) 1 rfl hq rfl (aN _ _) fun u2=>?_
 refine cF (gK u1 u2 x y a b hx hy ha hb h0) ?_
 rintro _ _ _ ⟨rfl,z,m,rfl,rfl⟩
 refine aM (d:=I false []) fun c1 h1=>?_
 refine aM (d:=I false []) fun c2 h2=>?_
 refine aI (d:=zd (x/y)) 1 rfl h1 rfl qK ?_ ?_; exact aC qM
 refine aI (d:=zd (x%y)) 0 rfl h2 rfl qK ?_ ?_; exact aC qM
 refine aF (d:=zd (x/y)) 1 rfl h1 rfl (aN _ _) fun u3=>?_
 refine aI (d:=zd (x/y)) 2 rfl ho rfl qK ?_ ?_; exact aC qM
 refine aF (d:=zd (x/y)) 2 rfl ho rfl (aN _ _) fun r=>?_
 refine fin ⟨rfl,rfl⟩ (aA (aA (aA (aA (dS (aW 0 _ _)) (aW 0 _ _)) (aW 0 _ _)) (aW 0 _ _)) (aB qS))
theorem barAt_meets (p:Value) (m:List Row) (i k:Nat) (hi:i<m.length) (hk:k<(m.getD i []).length) :
  Meets Tryz.prog 156 [.int .i64 (i:Nat),.int .i64 (k:Nat),p] [(p,.ptr (W m))] (fun r os fs=>os=[]∧fs=[(r,J ((m.getD i []).getD k z0))]):=by
 refine mV Tryz.func156 ?_
 refine aM (d:=I false []) fun o ho=>?_
 refine aX (d:=W m) qM (load_W _) fun x1=>?_
 refine aQ qM i rfl hi fun a1=>?_
 refine aX (d:=V (m.getD i [])) qM (iZ _) fun x2=>?_
 refine aQ qM k rfl hk fun a2=>?_
 refine aX (d:=J ((m.getD i []).getD k z0)) qM (bM _) fun x3=>?_
 refine aI (d:=J ((m.getD i []).getD k z0)) 0 rfl ho rfl qK ?_ ?_; exact aC qM
 refine aF (d:=J ((m.getD i []).getD k z0)) 0 rfl ho rfl (bM _) fun r=>?_
 exact fin ⟨rfl,rfl⟩ (dS (aB qS))
def Eb (k:Nat):Nat→Nat
 | 0=>k+1
 | c+1=>2*Eb k c+1
theorem sM (k:Nat) {a b:Nat} (h:a≤b):Eb k a≤Eb k b:=by
 induction h with
 | refl=>exact Nat.le_refl _
 | step h ih=>simp only [Eb]; omega
theorem sz_elim {a b c d l:Int} {e:Nat} (ha:sz a e) (hb:sz b e) (hc:sz c e) (hd:sz d e):sz ((a*b - c*d)/l) (2*e+1):=by
 refine pW (iL ?_ ?_)
 ·rw [Nat.two_mul]; exact ha.mul hb
 ·rw [Nat.two_mul]; exact hc.mul hd
structure BSz (k R C:Nat) (st:Bs) (c:Nat):Prop where
 x:∀ i j,i<R→j<C→sz (st.x i j) (Eb k c)
 l:sz st.last (Eb k c)
 ne:st.last≠0
theorem mx_at {m:List Row} {k:Nat} (hf:Fits k m) (i j:Nat):sz (((ww m).getD i []).getD j 0) k:=by
 rw [nI]
 by_cases h:j<(m.getD i []).length
 ·rw [lO _ _ h]
  exact gY ((hf.get i).get j).1 ((hf.get i).get j).2
 ·rw [gE,List.getElem?_eq_none (by rw [cV]; omega)]
  exact jZ _
def mx (m:List (List Int)):Mx:=fun i j=>(m.getD i []).getD j 0
theorem cN {vs vs':Nat→Value} {R C:Nat} {x x':Mx} {os:List Own} {fs:List bD} (pos:Nat) (h:a8 os pos=some (pM vs R C x)) (s:Nat→Nat) (hs:∀ i,i<R→s i<R∧vs' i=vs (s i)∧∀ k,k<C→x' i k=x (s i) k)
  (hinj:∀ i j,i<R→j<R→s i=s j→i=j):Seals os fs (setOwn os pos (pM vs' R C x')) fs:=Seals.famcong pos h s hs hinj
theorem pfind_here {x:Mx} {R c p:Nat} (h:p<R) (h0:x p c≠0):lH x R c (R - p) p=p:=by
 rw [show R - p=(R - p - 1)+1 by omega,lH,if_neg h0]
theorem pfind_next {x:Mx} {R c p:Nat} (h:p<R) (h0:x p c=0):lH x R c (R - p) p=lH x R c (R - (p+1)) (p+1):=by
 rw [show R - p=(R - (p+1))+1 by omega,lH,if_pos h0]
def ex (s p i:Nat):Nat:=if i=s then p else if i=p then s else i
theorem ex_lt {s p i R:Nat} (hs:s<R) (hp:p<R) (hi:i<R):ex s p i<R:=by unfold ex; split <;> (try split) <;> omega
theorem ex_ex (s p i:Nat):ex s p (ex s p i)=i:=by unfold ex; split <;> split <;> (try split) <;> omega
theorem ex_inj {s p i j:Nat} (h:ex s p i=ex s p j):i=j:=by rw [← ex_ex s p i,h,ex_ex]
theorem ex_same (s i:Nat):ex s s i=i:=by unfold ex; split <;> (try split) <;> omega
def eY (z y:Mx) (i:Nat):Mx:=fun a b=>if a<i then z a b else y a b
def cD (z y:Mx) (i c k:Nat):Mx:=fun a b=>if a<i then z a b else if a=i∧c<b∧b<k then z a b else y a b
theorem BSz.step {k R C:Nat} {x:Mx} {last:Int} {odd od:Bool} {s c p:Nat} (h:BSz k R C ⟨x,last,odd,s⟩ c) (hs:s<R) (hp:p<R) (hc:c<C) (h0:swp x s p s c≠0) :
  BSz k R C ⟨elim (swp x s p) s c last,swp x s p s c,od,s+1⟩ (c+1):=by
 have hx:∀ i j,i<R→j<C→sz (swp x s p i j) (Eb k c):=fun i j hi hj=>h.x (ex s p i) j (ex_lt hs hp hi) hj
 refine ⟨fun i j hi hj=>?_,(hx s c hs hc).mono (by simp only [Eb]; omega),h0⟩
 have hm:Eb k c≤Eb k (c+1):=by simp only [Eb]; omega
 simp only [elim]
 split
 ·exact (hx i j hi hj).mono hm
 ·split
  ·exact (hx i j hi hj).mono hm
  ·split
   ·exact jZ _
   ·exact sz_elim (hx s c hs hc) (hx i j hi hj) (hx i c hi hc) (hx s j hs hj)
theorem BSz.skip {k R C:Nat} {st:Bs} {c:Nat} (h:BSz k R C st c):BSz k R C st (c+1) :=
 ⟨fun i j hi hj=>(h.x i j hi hj).mono (by simp only [Eb]; omega),h.l.mono (by simp only [Eb]; omega),h.ne⟩
theorem brun_more {R n c:Nat} {st:Bs} (h:st.step<R):brun R (n+1) c st=brun R n (c+1) (bstep R st c):=by rw [brun,if_pos h]
theorem brun_full {R n c:Nat} {st:Bs} (h:R≤st.step):brun R n c st=st:=by
 cases n with
 | zero=>rfl
 | succ n=>rw [brun,if_neg qN]
theorem bstep_none {R c:Nat} {x:Mx} {last:Int} {odd:Bool} {s:Nat} (h:lH x R c (R - s) s=R):bstep R ⟨x,last,odd,s⟩ c=⟨x,last,odd,s⟩:=by
 unfold bstep; rw [if_pos h]
theorem bstep_some {R c p:Nat} {x:Mx} {last:Int} {odd:Bool} {s:Nat} (h:lH x R c (R - s) s=p) (hp:p<R) :
  bstep R ⟨x,last,odd,s⟩ c=⟨elim (swp x s p) s c last,swp x s p s c,if p=s then odd else !odd,s+1⟩:=by
 unfold bstep; simp only [h]; rw [if_neg qN]
def bareissR (R C:Nat) (A:Mx):Value→List Own→List bD→Prop:=fun r os fs =>
 os=[]∧sz (bar R C A).last 17179869184∧∃ q,r=.tuple #[.int .i64 ((bar R C A).step:Nat),q,.bool (bar R C A).odd]∧fs=[(q,zd (bar R C A).last)]
theorem tZ {vs:Nat→Value} {s p i:Nat} (h:p≠s):upd (upd (fun i=>.one (vs i)) p (.one (vs s))) s (.one (vs p)) i=.one (vs (ex s p i)):=by
 unfold upd ex
 by_cases h1:i=s
 ·simp [h1]
 ·by_cases h2:i=p
  ·subst h2; simp [h]
  ·simp [h1,h2]
theorem bareiss_meets (v:Value) (m:List Row) (k:Nat) (hr:right m) (hf:Fits k m) (lm:m.length≤1048576) (lc:(m.getD 0 []).length≤1048576) (hk:Eb k (m.getD 0 []).length≤17179869184) :
  Meets Tryz.prog 134 [v] [(v,W m)] (bareissR m.length (m.getD 0 []).length (mx (ww m))):=by
 have hrow:∀ i,i<m.length→(m.getD i []).length=(m.getD 0 []).length:=fun i hi=>(hr.get hi).2
 have hR0:=hr.1
 generalize hC:(m.getD 0 []).length=C at *
 generalize hR:m.length=R at *
 have hC0:0<C:=by rw [← hC]; exact (hr.get qN).1
 have hA:∀ i j,i<R→j<C→mx (ww m) i j=jv ((m.getD i []).getD j z0):=fun i j hi hj=>by
  unfold mx; rw [nI,lO _ _ (by rw [hrow i hi]; exact hj)]
 have hk0:k+1≤Eb k C:=sM k (Nat.zero_le C)
 refine mV Tryz.func134 ?_
 refine mX (aC (d:=W m) qM) fun p0=>?_
 refine aM (d:=I false []) fun o ho=>?_
 refine aY [0,1,2,3,4,5,6,7,8] [0,1,2,3,4,5,6,7,8] qK qK ?_
 refine aX (d:=W m) qM (load_W _) fun x1=>?_
 refine aT qM fun _=>?_
 refine aX (d:=W m) qM (load_W _) fun x2=>?_
 refine aQ qM 0 rfl qN fun a1=>?_
 refine aX (d:=V (m.getD 0 [])) qM (iZ _) fun x3=>?_
 refine aT qM fun _=>?_
 rw [hR,hC]
 refine dK (mmade_meets R C 156 [p0] [(p0,.ptr (W m))] (fun i j=>(m.getD i []).getD j z0) (fun i j hi hj=>barAt_meets p0 m i j qN (by rw [hrow i hi]; exact hj))
  (fun i j _ _=>⟨((hf.get i).get j).1,Nat.le_trans ((hf.get i).get j).2 qN⟩) qN qN) (Seals.refl _ _) qS ?_
 rintro v' _ _ ⟨hv,vs0,hvs0,rfl,rfl⟩
 refine cG (dN 1 qE qE) fun u0=>?_
 refine aM (d:=I false []) fun l hl=>?_
 refine aI (d:=zd 1) 0 rfl hl rfl qK ?_ ?_; exact aC qM
 refine aO (X:=Bs×Nat×(Nat→Value)) (fun x=>([(3,o),(5,v'),(6,l),(7,.bool x.1.odd),(8,.int .i64 (x.1.step:Nat)),(9,.int .i64 (x.2.1:Nat))],[bE l 2 1 (fun _=>zd x.1.last),pM x.2.2 R C x.1.x,gJ v' R x.2.2,bE o 2 1 (fun _=>I false [])],[]))
  (fun x=>x.2.1≤C∧x.1.step≤R∧(∀ i,i<R→isSl (x.2.2 i))∧BSz k R C x.1 x.2.1∧brun R (C - x.2.1) x.2.1 x.1=bar R C (mx (ww m))) (fun x=>C - x.2.1) rfl ?_ ?_
 ·refine aU (⟨mx (ww m),1,false,0⟩,0,vs0) ⟨Nat.zero_le _,Nat.zero_le _,hvs0,⟨fun i j _ _=>(mx_at hf i j).mono (by simp only [Eb]; omega),?_,by simp⟩,rfl⟩ trivial qF
   (aA (bJ rfl) (aA (cN (os:=[_,_,_,_]) 1 rfl (fun i=>i) (fun a ha=>⟨ha,rfl,fun b hb=>hA a b ha hb⟩) fun _ _ _ _ e=>e) (aH _ _)))
  exact Nat.lt_of_lt_of_le (show (1:Int).natAbs<18446744073709551616^1 by decide) (Nat.pow_le_pow_right qE (by simp only [Eb]; omega))
 ·rintro ⟨⟨x,last,odd,s⟩,c,vs⟩ ⟨h1,h2,hvs,hsz,hrun⟩
  simp only at h1 h2 hvs hsz hrun ⊢
  have hEb:Eb k c≤17179869184:=Nat.le_trans (sM k h1) hk
  refine aE 2 rfl hv 0 rfl qN ?_
  refine aG 2 rfl 0 qN (u:=vs 0) rfl ?_
  refine rZ 1 0 rfl qN (hvs 0 qN) fun _=>?_
  refine aD _ rfl (fun hc=>?_) (fun hc=>?_)
  rotate_left
  ·have hcC:c=C:=by omega
   have hfin:bar R C (mx (ww m))=⟨x,last,odd,s⟩:=by rw [← hrun,hcC,Nat.sub_self,brun]
   refine gO [0,3,1,4,2,5] qK ?_
   refine a9 2 4 qK qK qK ?_ ?_
   ·refine eE [0,1,2,3,4,5] qK qK ?_
    refine aF (d:=zd last) 0 rfl hl rfl (aN _ _) fun u1=>?_
    refine aI (d:=zd last) 3 rfl ho rfl qK ?_ ?_; exact aC qM
    refine aF (d:=zd last) 3 rfl ho rfl (aN _ _) fun r=>?_
    refine fin ⟨rfl,by rw [hfin]; exact hsz.l.mono (Nat.le_trans (sM k h1) hk),r,?_,?_⟩ (aA (aA (aA (dS (aW 0 _ _)) (aW 0 _ _)) (aW 0 _ _)) (aB (fs':=[(r,zd last)]) qS))
    ·rw [hfin]; rfl
    ·rw [hfin]
   ·refine eE [0,1,3,4,2,5] qK qK ?_
    refine aF (d:=zd last) 0 rfl hl rfl (aN _ _) fun u1=>?_
    refine aI (d:=zd last) 3 rfl ho rfl qK ?_ ?_; exact aC qM
    refine aF (d:=zd last) 3 rfl ho rfl (aN _ _) fun r=>?_
    refine fin ⟨rfl,by rw [hfin]; exact hsz.l.mono (Nat.le_trans (sM k h1) hk),r,?_,?_⟩ (aA (aA (aA (dS (aW 0 _ _)) (aW 0 _ _)) (aW 0 _ _)) (aB (fs':=[(r,zd last)]) qS))
    ·rw [hfin]; rfl
    ·rw [hfin]
  have hcC:c<C:=by omega
  refine cS 2 rfl hv fun _=>?_
  refine aD _ rfl (fun hs=>?_) (fun hs=>?_)
  rotate_left
  ·have hfin:bar R C (mx (ww m))=⟨x,last,odd,s⟩:=by rw [← hrun,brun_full (by simp only; omega)]
   refine gO [0,3,1,4,2,5] qK ?_
   refine a9 2 4 qK qK qK ?_ ?_
   ·refine eE [0,1,2,3,4,5] qK qK ?_
    refine aF (d:=zd last) 0 rfl hl rfl (aN _ _) fun u1=>?_
    refine aI (d:=zd last) 3 rfl ho rfl qK ?_ ?_; exact aC qM
    refine aF (d:=zd last) 3 rfl ho rfl (aN _ _) fun r=>?_
    refine fin ⟨rfl,by rw [hfin]; exact hsz.l.mono (Nat.le_trans (sM k h1) hk),r,?_,?_⟩ (aA (aA (aA (dS (aW 0 _ _)) (aW 0 _ _)) (aW 0 _ _)) (aB (fs':=[(r,zd last)]) qS))
    ·rw [hfin]; rfl
    ·rw [hfin]
   ·refine eE [0,1,3,4,2,5] qK qK ?_
    refine aF (d:=zd last) 0 rfl hl rfl (aN _ _) fun u1=>?_
    refine aI (d:=zd last) 3 rfl ho rfl qK ?_ ?_; exact aC qM
    refine aF (d:=zd last) 3 rfl ho rfl (aN _ _) fun r=>?_
    refine fin ⟨rfl,by rw [hfin]; exact hsz.l.mono (Nat.le_trans (sM k h1) hk),r,?_,?_⟩ (aA (aA (aA (dS (aW 0 _ _)) (aW 0 _ _)) (aW 0 _ _)) (aB (fs':=[(r,zd last)]) qS))
    ·rw [hfin]; rfl
    ·rw [hfin]
  have hsR:s<R:=by omega
  have hfin:brun R (C - (c+1)) (c+1) (bstep R ⟨x,last,odd,s⟩ c)=bar R C (mx (ww m)):=by
   rw [← hrun,show C - c=(C - (c+1))+1 by omega,brun_more hsR]
  refine aO (X:=Nat) (fun p=>([(3,o),(5,v'),(6,l),(7,.bool odd),(8,.int .i64 (s:Nat)),(9,.int .i64 (c:Nat)),(10,.int .i64 (p:Nat))],[bE l 2 1 (fun _=>zd last),pM vs R C x,gJ v' R vs,bE o 2 1 (fun _=>I false [])],[]))
   (fun p=>s≤p∧p<R∧lH x R c (R - s) s=lH x R c (R - p) p) (fun p=>R - p) rfl ?_ ?_
  ·exact aU s ⟨Nat.le_refl _,hsR,rfl⟩ trivial qF (aH _ _)
  ·rintro p ⟨hp1,hpR,hpf⟩
   refine aE 2 rfl hv p rfl qN ?_
   refine aG 2 rfl p qN (u:=vs p) rfl ?_
   refine bS 1 p rfl qN (hvs p qN) c rfl qN ?_
   refine dF 1 p c rfl qN qN (x p c) rfl fun u1=>?_
   refine cH (uG u1 (x p c) _ (hsz.x p c hpR hcC) qN) ?_
   refine aD _ rfl (fun h0=>?_) (fun h0=>?_)
   ·have h0':x p c=0:=Int.sign_eq_zero_iff_zero.1 h0
    refine ar rfl qI ?_
    refine cS 2 rfl hv fun _=>?_
    refine aD _ rfl (fun hq=>?_) (fun hq=>?_)
    ·have hb:=bstep_none (last:=last) (odd:=odd) (show lH x R c (R - s) s=R by rw [hpf,pfind_next hpR h0',show R - (p+1)=0 by omega]; rfl)
     rw [hb] at hfin
     refine ar rfl qI ?_
     exact aU (⟨x,last,odd,s⟩,c+1,vs) ⟨by simp only; omega,h2,hvs,hsz.skip,hfin⟩ (by simp only; omega) qF (aH _ _)
    ·exact aU (p+1) ⟨by omega,by omega,by rw [hpf,pfind_next hpR h0']⟩ (by simp only; omega) qF (aH _ _)
   ·have h0':x p c≠0:=fun e=>h0 (Int.sign_eq_zero_iff_zero.2 e)
    have hb:=bstep_some (last:=last) (odd:=odd) (show lH x R c (R - s) s=p by rw [hpf,pfind_here hpR h0']) hpR
    rw [hb] at hfin
    have h0:swp x s p s c≠0:=by unfold swp; rw [if_pos rfl]; exact h0'
    have hys:∀ i j,i<R→j<C→sz (swp x s p i j) (Eb k c):=fun i j hi hj=>hsz.x (ex s p i) j (ex_lt hsR hpR hi) hj
    have hstep:∀ od,BSz k R C ⟨elim (swp x s p) s c last,swp x s p s c,od,s+1⟩ (c+1):=fun od=>hsz.step hsR hpR hcC h0
    have hyx:∀ i j,swp x s p i j=x (ex s p i) j:=fun _ _=>rfl
    obtain ⟨vs',hv's⟩:∃ vs':Nat→Value,∀ i,vs' i=vs (ex s p i):=⟨_,fun _=>rfl⟩
    have hvs':∀ i,i<R→isSl (vs' i):=fun i hi=>by rw [hv's]; exact hvs _ (ex_lt hsR hpR hi)
    clear hrun hpf h0'
    generalize swp x s p=y at *
    generalize hz:elim y s c last=z at *
    have hzs:∀ a b,a≤s→z a b=y a b:=fun a b ha=>by rw [← hz]; unfold elim; rw [if_pos ha]
    have hfc:∀ i,i<R→ex s p i<R∧vs' i=vs (ex s p i)∧∀ j,j<C→eY z y (s+1) i j=x (ex s p i) j:=fun i hi=>⟨ex_lt hsR hpR hi,hv's i,fun j _=>by
     unfold eY
     split
     ·rw [hzs i j qN,hyx]
     ·rw [hyx]⟩
    refine aD _ rfl (fun hne=>?_) (fun hne=>?_)
    ·have hps:p≠s:=by omega
     refine gO [0,1,4,5,6,7,8,9,10,11,12,13,2,3,14,15] qK ?_
     refine a9 2 13 qK qK qK ?_ ?_
     ·refine a9 3 13 qK qK qK ?_ ?_
      ·refine eE [0,1,2,3,4,5,6,7,8,9,10,11,12,13,14,15] qK qK ?_
       refine aE 2 rfl hv s rfl qN ?_
       refine aG 2 rfl s qN (u:=vs s) rfl ?_
       refine aE 2 rfl hv p rfl qN ?_
       refine aG 2 rfl p qN (u:=vs p) rfl ?_
       refine aE 2 rfl hv p rfl qN ?_
       refine bL (d:=.one (vs s)) 2 rfl p qN rfl qK (bW (hvs s qN).one) ?_
       refine aE 2 rfl hv s rfl qN ?_
       refine bL (d:=.one (vs p)) 2 rfl s qN rfl qK (bW (hvs p qN).one) ?_
       have hod:(if p=s then odd else !odd)=(!odd):=by rw [if_neg hps]
       refine ar rfl qI ?_
       refine aO (X:=Nat) (fun i=>([(3,o),(5,v'),(6,l),(7,.bool (!odd)),(8,.int .i64 (s:Nat)),(9,.int .i64 (c:Nat)),(11,.int .i64 (i:Nat))],[bE l 2 1 (fun _=>zd last),pM vs' R C (eY z y i),gJ v' R vs',bE o 2 1 (fun _=>I false [])],[]))
        (fun i=>s+1≤i∧i≤R) (fun i=>R - i) rfl ?_ ?_
       ·exact aU (s+1) ⟨Nat.le_refl _,by omega⟩ trivial qF (aA (Seals.own_cong (os:=[_,_,_,_]) 2 (fun i=>.one (vs' i)) rfl rfl fun i _=>by rw [tZ hps,hv's]) (aA (cN (os:=[_,_,_,_]) 1 rfl (ex s p) hfc fun _ _ _ _ e=>ex_inj e) (aH _ _)))
       ·rintro i ⟨hi1,hi2⟩
        refine cS 2 rfl hv fun _=>?_
        refine aD _ rfl (fun hi=>?_) (fun hi=>?_)
        ·have hiR:i<R:=by omega
         refine ar rfl qI ?_
         refine aO (X:=Nat) (fun k'=>([(3,o),(5,v'),(6,l),(7,.bool (!odd)),(8,.int .i64 (s:Nat)),(9,.int .i64 (c:Nat)),(11,.int .i64 (i:Nat)),(12,.int .i64 (k':Nat))],[bE l 2 1 (fun _=>zd last),pM vs' R C (cD z y i c k'),gJ v' R vs',bE o 2 1 (fun _=>I false [])],[]))
          (fun k'=>c+1≤k'∧k'≤C) (fun k'=>C - k') rfl ?_ ?_
         ·refine aU (c+1) ⟨Nat.le_refl _,by omega⟩ trivial qF (cN (os:=[_,_,_,_]) 1 rfl (fun i=>i) (fun a ha=>⟨ha,rfl,fun b hb=>?_⟩) fun _ _ _ _ e=>e)
          unfold cD eY
          rw [if_neg (show ¬ (a=i∧c<b∧b<c+1) by omega)]
         ·rintro k' ⟨hk1,hk2⟩
          refine aE 2 rfl hv 0 rfl qN ?_
          refine aG 2 rfl 0 qN (u:=vs' 0) rfl ?_
          refine rZ 1 0 rfl qN (hvs' 0 qN) fun _=>?_
          refine aD _ rfl (fun hc2=>?_) (fun hc2=>?_)
          ·have hkC:k'<C:=by omega
           have y1:=hys s c hsR hcC
           have y2:=hys i k' hiR hkC
           have y3:=hys i c hiR hcC
           have y4:=hys s k' hsR hkC
           refine aY [0,1,2,3,4,5,6,7,8,9,10,11,12,13,14,15,16,17,18,20,21,22,23,24,25,26,27,28,29,30,31,32,33,36,19,34,35,37,38,39] [0,1,2,3,4,5,6,7,8,9,10,11,12,13,14,15,16,17,18,19,20,21,22,23,24,25,26,27,28,29,30,31,32,33,34,35,36,37,38,39] qK qK ?_
           refine aE 2 rfl hv i rfl qN ?_
           refine aG 2 rfl i qN (u:=vs' i) rfl ?_
           refine aE 2 rfl hv s rfl qN ?_
           refine aG 2 rfl s qN (u:=vs' s) rfl ?_
           refine bS 1 s rfl qN (hvs' s qN) c rfl qN ?_
           refine dF 1 s c rfl qN qN (y s c) ?_ fun u1=>?_
           ·unfold cD; rw [if_pos qN,hzs _ _ qN]
           refine aE 2 rfl hv i rfl qN ?_
           refine aG 2 rfl i qN (u:=vs' i) rfl ?_
           refine bS 1 i rfl qN (hvs' i qN) k' rfl qN ?_
           refine dF 1 i k' rfl qN qN (y i k') ?_ fun u2=>?_
           ·unfold cD; rw [if_neg qN,if_neg qN]
           refine aE 2 rfl hv i rfl qN ?_
           refine aG 2 rfl i qN (u:=vs' i) rfl ?_
           refine bS 1 i rfl qN (hvs' i qN) c rfl qN ?_
           refine dF 1 i c rfl qN qN (y i c) ?_ fun u3=>?_
           ·unfold cD; rw [if_neg qN,if_neg qN]
           refine aE 2 rfl hv s rfl qN ?_
           refine aG 2 rfl s qN (u:=vs' s) rfl ?_
           refine bS 1 s rfl qN (hvs' s qN) k' rfl qN ?_
           refine dF 1 s k' rfl qN qN (y s k') ?_ fun u4=>?_
           ·unfold cD; rw [if_pos qN,hzs _ _ qN]
           refine aF (d:=zd last) 0 rfl hl rfl (aN _ _) fun w4=>?_
           refine cG (fQ u1 u2 (y s c) (y i k') _ _ y1 y2 qN qN) fun w1=>?_
           refine cG (fQ u3 u4 (y i c) (y s k') _ _ y3 y4 qN qN) fun w2=>?_
           refine cG (zSubZ w1 w2 (y s c*y i k') (y i c*y s k') _ _ (y1.mul y2) (y3.mul y4) qN qN) fun w3=>?_
           refine cG (mB w3 w4 (y s c*y i k' - y i c*y s k') last _ _ (iL (y1.mul y2) (y3.mul y4)) hsz.l qN qN hsz.ne) fun w5=>?_
           refine bS 1 i rfl qN (hvs' i qN) k' rfl qN ?_
           refine jM 1 i k' rfl qN qN _ (cD z y i c (k'+1)) (aC qM) (fun a b ha hb=>?_) ?_
           ·unfold cD
            by_cases e:a=i∧b=k'
            ·rw [if_pos e,e.1,e.2,if_neg qN,if_pos qN,← hz]
             unfold elim; rw [if_neg qN,if_neg qN,if_neg qN]
            ·rw [if_neg e]
             by_cases e1:a<i
             ·rw [if_pos e1,if_pos e1]
             ·rw [if_neg e1,if_neg e1]
              by_cases e2:a=i∧c<b∧b<k'
              ·rw [if_pos e2,if_pos qN]
              ·rw [if_neg e2,if_neg qN]
           refine ar rfl qI ?_
           exact aU (k'+1) ⟨by omega,by omega⟩ (by simp only; omega) qF (aH _ _)
          ·have hkC:k'=C:=by omega
           refine aE 2 rfl hv i rfl qN ?_
           refine aG 2 rfl i qN (u:=vs' i) rfl ?_
           refine lE (da:=.one (.bool false)) (db:=U (bT 0)) (fun S w=>⟨[.bool false],[.slice none 0 0],rfl,eJ S w,by rw [bR]; exact gM S w 1 _⟩) fun zz=>?_
           refine bS 1 i rfl qN (hvs' i qN) c rfl qN ?_
           refine jM 1 i c rfl qN qN 0 (eY z y (i+1)) (aC (d:=zd 0) qM) (fun a b ha hb=>?_) ?_
           ·unfold cD eY
            by_cases e:a=i∧b=c
            ·rw [if_pos e,e.1,e.2,if_pos qN,← hz]
             unfold elim; rw [if_neg qN,if_neg qN,if_pos rfl]
            ·rw [if_neg e]
             by_cases e1:a<i
             ·rw [if_pos e1,if_pos qN]
             ·rw [if_neg e1]
              by_cases e2:a=i∧c<b∧b<k'
              ·rw [if_pos e2,if_pos qN]
              ·rw [if_neg e2]
               by_cases e3:a=i
               ·rw [if_pos qN,← hz]
                unfold elim; rw [if_neg qN,if_pos qN]
               ·rw [if_neg qN]
           refine ar rfl qI ?_
           exact aU (i+1) ⟨by omega,by omega⟩ (by simp only; omega) qF (aH _ _)
        ·have hiR:R=i:=by omega
         subst hiR
         refine aE 2 rfl hv s rfl qN ?_
         refine aG 2 rfl s qN (u:=vs' s) rfl ?_
         refine bS 1 s rfl qN (hvs' s qN) c rfl qN ?_
         refine dF 1 s c rfl qN qN (y s c) ?_ fun u1=>?_
         ·unfold eY; rw [if_pos qN,hzs _ _ qN]
         refine aI (d:=zd (y s c)) 0 rfl hl rfl qK ?_ ?_; exact aC qM
         refine ar rfl qI ?_
         refine ar rfl qI ?_
         refine aU (⟨z,y s c,(!odd),s+1⟩,c+1,vs') ⟨by simp only; omega,by simp only; omega,hvs',?_,?_⟩ (by simp only; omega) qF (aA (bJ rfl) (aA (cN (os:=[_,_,_,_]) 1 rfl (fun i=>i) (fun a ha=>⟨ha,rfl,fun b hb=>?_⟩) fun _ _ _ _ e=>e) (aH _ _)))
         ·exact hstep _
         ·simp only
          rw [← hod]; exact hfin
         ·unfold eY; rw [if_pos ha]
      ·refine eE [0,1,2,4,5,6,7,8,9,10,11,12,13,3,14,15] qK qK ?_
       refine aE 2 rfl hv s rfl qN ?_
       refine aG 2 rfl s qN (u:=vs s) rfl ?_
       refine aE 2 rfl hv p rfl qN ?_
       refine aG 2 rfl p qN (u:=vs p) rfl ?_
       refine aE 2 rfl hv p rfl qN ?_
       refine bL (d:=.one (vs s)) 2 rfl p qN rfl qK (bW (hvs s qN).one) ?_
       refine aE 2 rfl hv s rfl qN ?_
       refine bL (d:=.one (vs p)) 2 rfl s qN rfl qK (bW (hvs p qN).one) ?_
       have hod:(if p=s then odd else !odd)=(!odd):=by rw [if_neg hps]
       refine ar rfl qI ?_
       refine aO (X:=Nat) (fun i=>([(3,o),(5,v'),(6,l),(7,.bool (!odd)),(8,.int .i64 (s:Nat)),(9,.int .i64 (c:Nat)),(11,.int .i64 (i:Nat))],[bE l 2 1 (fun _=>zd last),pM vs' R C (eY z y i),gJ v' R vs',bE o 2 1 (fun _=>I false [])],[]))
        (fun i=>s+1≤i∧i≤R) (fun i=>R - i) rfl ?_ ?_
       ·exact aU (s+1) ⟨Nat.le_refl _,by omega⟩ trivial qF (aA (Seals.own_cong (os:=[_,_,_,_]) 2 (fun i=>.one (vs' i)) rfl rfl fun i _=>by rw [tZ hps,hv's]) (aA (cN (os:=[_,_,_,_]) 1 rfl (ex s p) hfc fun _ _ _ _ e=>ex_inj e) (aH _ _)))
       ·rintro i ⟨hi1,hi2⟩
        refine cS 2 rfl hv fun _=>?_
        refine aD _ rfl (fun hi=>?_) (fun hi=>?_)
        ·have hiR:i<R:=by omega
         refine ar rfl qI ?_
         refine aO (X:=Nat) (fun k'=>([(3,o),(5,v'),(6,l),(7,.bool (!odd)),(8,.int .i64 (s:Nat)),(9,.int .i64 (c:Nat)),(11,.int .i64 (i:Nat)),(12,.int .i64 (k':Nat))],[bE l 2 1 (fun _=>zd last),pM vs' R C (cD z y i c k'),gJ v' R vs',bE o 2 1 (fun _=>I false [])],[]))
          (fun k'=>c+1≤k'∧k'≤C) (fun k'=>C - k') rfl ?_ ?_
         ·refine aU (c+1) ⟨Nat.le_refl _,by omega⟩ trivial qF (cN (os:=[_,_,_,_]) 1 rfl (fun i=>i) (fun a ha=>⟨ha,rfl,fun b hb=>?_⟩) fun _ _ _ _ e=>e)
          unfold cD eY
          rw [if_neg (show ¬ (a=i∧c<b∧b<c+1) by omega)]
         ·rintro k' ⟨hk1,hk2⟩
          refine aE 2 rfl hv 0 rfl qN ?_
          refine aG 2 rfl 0 qN (u:=vs' 0) rfl ?_
          refine rZ 1 0 rfl qN (hvs' 0 qN) fun _=>?_
          refine aD _ rfl (fun hc2=>?_) (fun hc2=>?_)
          ·have hkC:k'<C:=by omega
           have y1:=hys s c hsR hcC
           have y2:=hys i k' hiR hkC
           have y3:=hys i c hiR hcC
           have y4:=hys s k' hsR hkC
           refine aY [0,1,2,3,4,5,6,7,8,9,10,11,12,13,14,15,16,17,18,20,21,22,23,24,25,26,27,28,29,30,31,32,33,36,19,34,35,37,38,39] [0,1,2,3,4,5,6,7,8,9,10,11,12,13,14,15,16,17,18,19,20,21,22,23,24,25,26,27,28,29,30,31,32,33,34,35,36,37,38,39] qK qK ?_
           refine aE 2 rfl hv i rfl qN ?_
           refine aG 2 rfl i qN (u:=vs' i) rfl ?_
           refine aE 2 rfl hv s rfl qN ?_
           refine aG 2 rfl s qN (u:=vs' s) rfl ?_
           refine bS 1 s rfl qN (hvs' s qN) c rfl qN ?_
           refine dF 1 s c rfl qN qN (y s c) ?_ fun u1=>?_
           ·unfold cD; rw [if_pos qN,hzs _ _ qN]
           refine aE 2 rfl hv i rfl qN ?_
           refine aG 2 rfl i qN (u:=vs' i) rfl ?_
           refine bS 1 i rfl qN (hvs' i qN) k' rfl qN ?_
           refine dF 1 i k' rfl qN qN (y i k') ?_ fun u2=>?_
           ·unfold cD; rw [if_neg qN,if_neg qN]
           refine aE 2 rfl hv i rfl qN ?_
           refine aG 2 rfl i qN (u:=vs' i) rfl ?_
           refine bS 1 i rfl qN (hvs' i qN) c rfl qN ?_
           refine dF 1 i c rfl qN qN (y i c) ?_ fun u3=>?_
           ·unfold cD; rw [if_neg qN,if_neg qN]
           refine aE 2 rfl hv s rfl qN ?_
           refine aG 2 rfl s qN (u:=vs' s) rfl ?_
           refine bS 1 s rfl qN (hvs' s qN) k' rfl qN ?_
           refine dF 1 s k' rfl qN qN (y s k') ?_ fun u4=>?_
           ·unfold cD; rw [if_pos qN,hzs _ _ qN]
           refine aF (d:=zd last) 0 rfl hl rfl (aN _ _) fun w4=>?_
           refine cG (fQ u1 u2 (y s c) (y i k') _ _ y1 y2 qN qN) fun w1=>?_
           refine cG (fQ u3 u4 (y i c) (y s k') _ _ y3 y4 qN qN) fun w2=>?_
           refine cG (zSubZ w1 w2 (y s c*y i k') (y i c*y s k') _ _ (y1.mul y2) (y3.mul y4) qN qN) fun w3=>?_
           refine cG (mB w3 w4 (y s c*y i k' - y i c*y s k') last _ _ (iL (y1.mul y2) (y3.mul y4)) hsz.l qN qN hsz.ne) fun w5=>?_
           refine bS 1 i rfl qN (hvs' i qN) k' rfl qN ?_
           refine jM 1 i k' rfl qN qN _ (cD z y i c (k'+1)) (aC qM) (fun a b ha hb=>?_) ?_
           ·unfold cD
            by_cases e:a=i∧b=k'
            ·rw [if_pos e,e.1,e.2,if_neg qN,if_pos qN,← hz]
             unfold elim; rw [if_neg qN,if_neg qN,if_neg qN]
            ·rw [if_neg e]
             by_cases e1:a<i
             ·rw [if_pos e1,if_pos e1]
             ·rw [if_neg e1,if_neg e1]
              by_cases e2:a=i∧c<b∧b<k'
              ·rw [if_pos e2,if_pos qN]
              ·rw [if_neg e2,if_neg qN]
           refine ar rfl qI ?_
           exact aU (k'+1) ⟨by omega,by omega⟩ (by simp only; omega) qF (aH _ _)
          ·have hkC:k'=C:=by omega
           refine aE 2 rfl hv i rfl qN ?_
           refine aG 2 rfl i qN (u:=vs' i) rfl ?_
           refine lE (da:=.one (.bool false)) (db:=U (bT 0)) (fun S w=>⟨[.bool false],[.slice none 0 0],rfl,eJ S w,by rw [bR]; exact gM S w 1 _⟩) fun zz=>?_
           refine bS 1 i rfl qN (hvs' i qN) c rfl qN ?_
           refine jM 1 i c rfl qN qN 0 (eY z y (i+1)) (aC (d:=zd 0) qM) (fun a b ha hb=>?_) ?_
           ·unfold cD eY
            by_cases e:a=i∧b=c
            ·rw [if_pos e,e.1,e.2,if_pos qN,← hz]
             unfold elim; rw [if_neg qN,if_neg qN,if_pos rfl]
            ·rw [if_neg e]
             by_cases e1:a<i
             ·rw [if_pos e1,if_pos qN]
             ·rw [if_neg e1]
              by_cases e2:a=i∧c<b∧b<k'
              ·rw [if_pos e2,if_pos qN]
              ·rw [if_neg e2]
               by_cases e3:a=i
               ·rw [if_pos qN,← hz]
                unfold elim; rw [if_neg qN,if_pos qN]
               ·rw [if_neg qN]
           refine ar rfl qI ?_
           exact aU (i+1) ⟨by omega,by omega⟩ (by simp only; omega) qF (aH _ _)
        ·have hiR:R=i:=by omega
         subst hiR
         refine aE 2 rfl hv s rfl qN ?_
         refine aG 2 rfl s qN (u:=vs' s) rfl ?_
         refine bS 1 s rfl qN (hvs' s qN) c rfl qN ?_
         refine dF 1 s c rfl qN qN (y s c) ?_ fun u1=>?_
         ·unfold eY; rw [if_pos qN,hzs _ _ qN]
         refine aI (d:=zd (y s c)) 0 rfl hl rfl qK ?_ ?_; exact aC qM
         refine ar rfl qI ?_
         refine ar rfl qI ?_
         refine aU (⟨z,y s c,(!odd),s+1⟩,c+1,vs') ⟨by simp only; omega,by simp only; omega,hvs',?_,?_⟩ (by simp only; omega) qF (aA (bJ rfl) (aA (cN (os:=[_,_,_,_]) 1 rfl (fun i=>i) (fun a ha=>⟨ha,rfl,fun b hb=>?_⟩) fun _ _ _ _ e=>e) (aH _ _)))
         ·exact hstep _
         ·simp only
          rw [← hod]; exact hfin
         ·unfold eY; rw [if_pos ha]
     ·refine a9 3 13 qK qK qK ?_ ?_
      ·refine eE [0,1,3,4,5,6,7,8,9,10,11,12,13,2,14,15] qK qK ?_
       refine aE 2 rfl hv s rfl qN ?_
       refine aG 2 rfl s qN (u:=vs s) rfl ?_
       refine aE 2 rfl hv p rfl qN ?_
       refine aG 2 rfl p qN (u:=vs p) rfl ?_
       refine aE 2 rfl hv p rfl qN ?_
       refine bL (d:=.one (vs s)) 2 rfl p qN rfl qK (bW (hvs s qN).one) ?_
       refine aE 2 rfl hv s rfl qN ?_
       refine bL (d:=.one (vs p)) 2 rfl s qN rfl qK (bW (hvs p qN).one) ?_
       have hod:(if p=s then odd else !odd)=(!odd):=by rw [if_neg hps]
       refine ar rfl qI ?_
       refine aO (X:=Nat) (fun i=>([(3,o),(5,v'),(6,l),(7,.bool (!odd)),(8,.int .i64 (s:Nat)),(9,.int .i64 (c:Nat)),(11,.int .i64 (i:Nat))],[bE l 2 1 (fun _=>zd last),pM vs' R C (eY z y i),gJ v' R vs',bE o 2 1 (fun _=>I false [])],[]))
        (fun i=>s+1≤i∧i≤R) (fun i=>R - i) rfl ?_ ?_
       ·exact aU (s+1) ⟨Nat.le_refl _,by omega⟩ trivial qF (aA (Seals.own_cong (os:=[_,_,_,_]) 2 (fun i=>.one (vs' i)) rfl rfl fun i _=>by rw [tZ hps,hv's]) (aA (cN (os:=[_,_,_,_]) 1 rfl (ex s p) hfc fun _ _ _ _ e=>ex_inj e) (aH _ _)))
       ·rintro i ⟨hi1,hi2⟩
        refine cS 2 rfl hv fun _=>?_
        refine aD _ rfl (fun hi=>?_) (fun hi=>?_)
        ·have hiR:i<R:=by omega
         refine ar rfl qI ?_
         refine aO (X:=Nat) (fun k'=>([(3,o),(5,v'),(6,l),(7,.bool (!odd)),(8,.int .i64 (s:Nat)),(9,.int .i64 (c:Nat)),(11,.int .i64 (i:Nat)),(12,.int .i64 (k':Nat))],[bE l 2 1 (fun _=>zd last),pM vs' R C (cD z y i c k'),gJ v' R vs',bE o 2 1 (fun _=>I false [])],[]))
          (fun k'=>c+1≤k'∧k'≤C) (fun k'=>C - k') rfl ?_ ?_
         ·refine aU (c+1) ⟨Nat.le_refl _,by omega⟩ trivial qF (cN (os:=[_,_,_,_]) 1 rfl (fun i=>i) (fun a ha=>⟨ha,rfl,fun b hb=>?_⟩) fun _ _ _ _ e=>e)
          unfold cD eY
          rw [if_neg (show ¬ (a=i∧c<b∧b<c+1) by omega)]
         ·rintro k' ⟨hk1,hk2⟩
          refine aE 2 rfl hv 0 rfl qN ?_
          refine aG 2 rfl 0 qN (u:=vs' 0) rfl ?_
          refine rZ 1 0 rfl qN (hvs' 0 qN) fun _=>?_
          refine aD _ rfl (fun hc2=>?_) (fun hc2=>?_)
          ·have hkC:k'<C:=by omega
           have y1:=hys s c hsR hcC
           have y2:=hys i k' hiR hkC
           have y3:=hys i c hiR hcC
           have y4:=hys s k' hsR hkC
           refine aY [0,1,2,3,4,5,6,7,8,9,10,11,12,13,14,15,16,17,18,20,21,22,23,24,25,26,27,28,29,30,31,32,33,36,19,34,35,37,38,39] [0,1,2,3,4,5,6,7,8,9,10,11,12,13,14,15,16,17,18,19,20,21,22,23,24,25,26,27,28,29,30,31,32,33,34,35,36,37,38,39] qK qK ?_
           refine aE 2 rfl hv i rfl qN ?_
           refine aG 2 rfl i qN (u:=vs' i) rfl ?_
           refine aE 2 rfl hv s rfl qN ?_
           refine aG 2 rfl s qN (u:=vs' s) rfl ?_
           refine bS 1 s rfl qN (hvs' s qN) c rfl qN ?_
           refine dF 1 s c rfl qN qN (y s c) ?_ fun u1=>?_
           ·unfold cD; rw [if_pos qN,hzs _ _ qN]
           refine aE 2 rfl hv i rfl qN ?_
           refine aG 2 rfl i qN (u:=vs' i) rfl ?_
           refine bS 1 i rfl qN (hvs' i qN) k' rfl qN ?_
           refine dF 1 i k' rfl qN qN (y i k') ?_ fun u2=>?_
           ·unfold cD; rw [if_neg qN,if_neg qN]
           refine aE 2 rfl hv i rfl qN ?_
           refine aG 2 rfl i qN (u:=vs' i) rfl ?_
           refine bS 1 i rfl qN (hvs' i qN) c rfl qN ?_
           refine dF 1 i c rfl qN qN (y i c) ?_ fun u3=>?_
           ·unfold cD; rw [if_neg qN,if_neg qN]
           refine aE 2 rfl hv s rfl qN ?_
           refine aG 2 rfl s qN (u:=vs' s) rfl ?_
           refine bS 1 s rfl qN (hvs' s qN) k' rfl qN ?_
           refine dF 1 s k' rfl qN qN (y s k') ?_ fun u4=>?_
           ·unfold cD; rw [if_pos qN,hzs _ _ qN]
           refine aF (d:=zd last) 0 rfl hl rfl (aN _ _) fun w4=>?_
           refine cG (fQ u1 u2 (y s c) (y i k') _ _ y1 y2 qN qN) fun w1=>?_
           refine cG (fQ u3 u4 (y i c) (y s k') _ _ y3 y4 qN qN) fun w2=>?_
           refine cG (zSubZ w1 w2 (y s c*y i k') (y i c*y s k') _ _ (y1.mul y2) (y3.mul y4) qN qN) fun w3=>?_
           refine cG (mB w3 w4 (y s c*y i k' - y i c*y s k') last _ _ (iL (y1.mul y2) (y3.mul y4)) hsz.l qN qN hsz.ne) fun w5=>?_
           refine bS 1 i rfl qN (hvs' i qN) k' rfl qN ?_
           refine jM 1 i k' rfl qN qN _ (cD z y i c (k'+1)) (aC qM) (fun a b ha hb=>?_) ?_
           ·unfold cD
            by_cases e:a=i∧b=k'
            ·rw [if_pos e,e.1,e.2,if_neg qN,if_pos qN,← hz]
             unfold elim; rw [if_neg qN,if_neg qN,if_neg qN]
            ·rw [if_neg e]
             by_cases e1:a<i
             ·rw [if_pos e1,if_pos e1]
             ·rw [if_neg e1,if_neg e1]
              by_cases e2:a=i∧c<b∧b<k'
              ·rw [if_pos e2,if_pos qN]
              ·rw [if_neg e2,if_neg qN]
           refine ar rfl qI ?_
           exact aU (k'+1) ⟨by omega,by omega⟩ (by simp only; omega) qF (aH _ _)
          ·have hkC:k'=C:=by omega
           refine aE 2 rfl hv i rfl qN ?_
           refine aG 2 rfl i qN (u:=vs' i) rfl ?_
           refine lE (da:=.one (.bool false)) (db:=U (bT 0)) (fun S w=>⟨[.bool false],[.slice none 0 0],rfl,eJ S w,by rw [bR]; exact gM S w 1 _⟩) fun zz=>?_
           refine bS 1 i rfl qN (hvs' i qN) c rfl qN ?_
           refine jM 1 i c rfl qN qN 0 (eY z y (i+1)) (aC (d:=zd 0) qM) (fun a b ha hb=>?_) ?_
           ·unfold cD eY
            by_cases e:a=i∧b=c
            ·rw [if_pos e,e.1,e.2,if_pos qN,← hz]
             unfold elim; rw [if_neg qN,if_neg qN,if_pos rfl]
            ·rw [if_neg e]
             by_cases e1:a<i
             ·rw [if_pos e1,if_pos qN]
             ·rw [if_neg e1]
              by_cases e2:a=i∧c<b∧b<k'
              ·rw [if_pos e2,if_pos qN]
              ·rw [if_neg e2]
               by_cases e3:a=i
               ·rw [if_pos qN,← hz]
                unfold elim; rw [if_neg qN,if_pos qN]
               ·rw [if_neg qN]
           refine ar rfl qI ?_
           exact aU (i+1) ⟨by omega,by omega⟩ (by simp only; omega) qF (aH _ _)
        ·have hiR:R=i:=by omega
         subst hiR
         refine aE 2 rfl hv s rfl qN ?_
         refine aG 2 rfl s qN (u:=vs' s) rfl ?_
         refine bS 1 s rfl qN (hvs' s qN) c rfl qN ?_
         refine dF 1 s c rfl qN qN (y s c) ?_ fun u1=>?_
         ·unfold eY; rw [if_pos qN,hzs _ _ qN]
         refine aI (d:=zd (y s c)) 0 rfl hl rfl qK ?_ ?_; exact aC qM
         refine ar rfl qI ?_
         refine ar rfl qI ?_
         refine aU (⟨z,y s c,(!odd),s+1⟩,c+1,vs') ⟨by simp only; omega,by simp only; omega,hvs',?_,?_⟩ (by simp only; omega) qF (aA (bJ rfl) (aA (cN (os:=[_,_,_,_]) 1 rfl (fun i=>i) (fun a ha=>⟨ha,rfl,fun b hb=>?_⟩) fun _ _ _ _ e=>e) (aH _ _)))
         ·exact hstep _
         ·simp only
          rw [← hod]; exact hfin
         ·unfold eY; rw [if_pos ha]
      ·refine eE [0,1,4,5,6,7,8,9,10,11,12,13,2,3,14,15] qK qK ?_
       refine aE 2 rfl hv s rfl qN ?_
       refine aG 2 rfl s qN (u:=vs s) rfl ?_
       refine aE 2 rfl hv p rfl qN ?_
       refine aG 2 rfl p qN (u:=vs p) rfl ?_
       refine aE 2 rfl hv p rfl qN ?_
       refine bL (d:=.one (vs s)) 2 rfl p qN rfl qK (bW (hvs s qN).one) ?_
       refine aE 2 rfl hv s rfl qN ?_
       refine bL (d:=.one (vs p)) 2 rfl s qN rfl qK (bW (hvs p qN).one) ?_
       have hod:(if p=s then odd else !odd)=(!odd):=by rw [if_neg hps]
       refine ar rfl qI ?_
       refine aO (X:=Nat) (fun i=>([(3,o),(5,v'),(6,l),(7,.bool (!odd)),(8,.int .i64 (s:Nat)),(9,.int .i64 (c:Nat)),(11,.int .i64 (i:Nat))],[bE l 2 1 (fun _=>zd last),pM vs' R C (eY z y i),gJ v' R vs',bE o 2 1 (fun _=>I false [])],[]))
        (fun i=>s+1≤i∧i≤R) (fun i=>R - i) rfl ?_ ?_
       ·exact aU (s+1) ⟨Nat.le_refl _,by omega⟩ trivial qF (aA (Seals.own_cong (os:=[_,_,_,_]) 2 (fun i=>.one (vs' i)) rfl rfl fun i _=>by rw [tZ hps,hv's]) (aA (cN (os:=[_,_,_,_]) 1 rfl (ex s p) hfc fun _ _ _ _ e=>ex_inj e) (aH _ _)))
       ·rintro i ⟨hi1,hi2⟩
        refine cS 2 rfl hv fun _=>?_
        refine aD _ rfl (fun hi=>?_) (fun hi=>?_)
        ·have hiR:i<R:=by omega
         refine ar rfl qI ?_
         refine aO (X:=Nat) (fun k'=>([(3,o),(5,v'),(6,l),(7,.bool (!odd)),(8,.int .i64 (s:Nat)),(9,.int .i64 (c:Nat)),(11,.int .i64 (i:Nat)),(12,.int .i64 (k':Nat))],[bE l 2 1 (fun _=>zd last),pM vs' R C (cD z y i c k'),gJ v' R vs',bE o 2 1 (fun _=>I false [])],[]))
          (fun k'=>c+1≤k'∧k'≤C) (fun k'=>C - k') rfl ?_ ?_
         ·refine aU (c+1) ⟨Nat.le_refl _,by omega⟩ trivial qF (cN (os:=[_,_,_,_]) 1 rfl (fun i=>i) (fun a ha=>⟨ha,rfl,fun b hb=>?_⟩) fun _ _ _ _ e=>e)
          unfold cD eY
          rw [if_neg (show ¬ (a=i∧c<b∧b<c+1) by omega)]
         ·rintro k' ⟨hk1,hk2⟩
          refine aE 2 rfl hv 0 rfl qN ?_
          refine aG 2 rfl 0 qN (u:=vs' 0) rfl ?_
          refine rZ 1 0 rfl qN (hvs' 0 qN) fun _=>?_
          refine aD _ rfl (fun hc2=>?_) (fun hc2=>?_)
          ·have hkC:k'<C:=by omega
           have y1:=hys s c hsR hcC
           have y2:=hys i k' hiR hkC
           have y3:=hys i c hiR hcC
           have y4:=hys s k' hsR hkC
           refine aY [0,1,2,3,4,5,6,7,8,9,10,11,12,13,14,15,16,17,18,20,21,22,23,24,25,26,27,28,29,30,31,32,33,36,19,34,35,37,38,39] [0,1,2,3,4,5,6,7,8,9,10,11,12,13,14,15,16,17,18,19,20,21,22,23,24,25,26,27,28,29,30,31,32,33,34,35,36,37,38,39] qK qK ?_
           refine aE 2 rfl hv i rfl qN ?_
           refine aG 2 rfl i qN (u:=vs' i) rfl ?_
           refine aE 2 rfl hv s rfl qN ?_
           refine aG 2 rfl s qN (u:=vs' s) rfl ?_
           refine bS 1 s rfl qN (hvs' s qN) c rfl qN ?_
           refine dF 1 s c rfl qN qN (y s c) ?_ fun u1=>?_
           ·unfold cD; rw [if_pos qN,hzs _ _ qN]
           refine aE 2 rfl hv i rfl qN ?_
           refine aG 2 rfl i qN (u:=vs' i) rfl ?_
           refine bS 1 i rfl qN (hvs' i qN) k' rfl qN ?_
           refine dF 1 i k' rfl qN qN (y i k') ?_ fun u2=>?_
           ·unfold cD; rw [if_neg qN,if_neg qN]
           refine aE 2 rfl hv i rfl qN ?_
           refine aG 2 rfl i qN (u:=vs' i) rfl ?_
           refine bS 1 i rfl qN (hvs' i qN) c rfl qN ?_
           refine dF 1 i c rfl qN qN (y i c) ?_ fun u3=>?_
           ·unfold cD; rw [if_neg qN,if_neg qN]
           refine aE 2 rfl hv s rfl qN ?_
           refine aG 2 rfl s qN (u:=vs' s) rfl ?_
           refine bS 1 s rfl qN (hvs' s qN) k' rfl qN ?_
           refine dF 1 s k' rfl qN qN (y s k') ?_ fun u4=>?_
           ·unfold cD; rw [if_pos qN,hzs _ _ qN]
           refine aF (d:=zd last) 0 rfl hl rfl (aN _ _) fun w4=>?_
           refine cG (fQ u1 u2 (y s c) (y i k') _ _ y1 y2 qN qN) fun w1=>?_
           refine cG (fQ u3 u4 (y i c) (y s k') _ _ y3 y4 qN qN) fun w2=>?_
           refine cG (zSubZ w1 w2 (y s c*y i k') (y i c*y s k') _ _ (y1.mul y2) (y3.mul y4) qN qN) fun w3=>?_
           refine cG (mB w3 w4 (y s c*y i k' - y i c*y s k') last _ _ (iL (y1.mul y2) (y3.mul y4)) hsz.l qN qN hsz.ne) fun w5=>?_
           refine bS 1 i rfl qN (hvs' i qN) k' rfl qN ?_
           refine jM 1 i k' rfl qN qN _ (cD z y i c (k'+1)) (aC qM) (fun a b ha hb=>?_) ?_
           ·unfold cD
            by_cases e:a=i∧b=k'
            ·rw [if_pos e,e.1,e.2,if_neg qN,if_pos qN,← hz]
             unfold elim; rw [if_neg qN,if_neg qN,if_neg qN]
            ·rw [if_neg e]
             by_cases e1:a<i
             ·rw [if_pos e1,if_pos e1]
             ·rw [if_neg e1,if_neg e1]
              by_cases e2:a=i∧c<b∧b<k'
              ·rw [if_pos e2,if_pos qN]
              ·rw [if_neg e2,if_neg qN]
           refine ar rfl qI ?_
           exact aU (k'+1) ⟨by omega,by omega⟩ (by simp only; omega) qF (aH _ _)
          ·have hkC:k'=C:=by omega
           refine aE 2 rfl hv i rfl qN ?_
           refine aG 2 rfl i qN (u:=vs' i) rfl ?_
           refine lE (da:=.one (.bool false)) (db:=U (bT 0)) (fun S w=>⟨[.bool false],[.slice none 0 0],rfl,eJ S w,by rw [bR]; exact gM S w 1 _⟩) fun zz=>?_
           refine bS 1 i rfl qN (hvs' i qN) c rfl qN ?_
           refine jM 1 i c rfl qN qN 0 (eY z y (i+1)) (aC (d:=zd 0) qM) (fun a b ha hb=>?_) ?_
           ·unfold cD eY
            by_cases e:a=i∧b=c
            ·rw [if_pos e,e.1,e.2,if_pos qN,← hz]
             unfold elim; rw [if_neg qN,if_neg qN,if_pos rfl]
            ·rw [if_neg e]
             by_cases e1:a<i
             ·rw [if_pos e1,if_pos qN]
             ·rw [if_neg e1]
              by_cases e2:a=i∧c<b∧b<k'
              ·rw [if_pos e2,if_pos qN]
              ·rw [if_neg e2]
               by_cases e3:a=i
               ·rw [if_pos qN,← hz]
                unfold elim; rw [if_neg qN,if_pos qN]
               ·rw [if_neg qN]
           refine ar rfl qI ?_
           exact aU (i+1) ⟨by omega,by omega⟩ (by simp only; omega) qF (aH _ _)
        ·have hiR:R=i:=by omega
         subst hiR
         refine aE 2 rfl hv s rfl qN ?_
         refine aG 2 rfl s qN (u:=vs' s) rfl ?_
         refine bS 1 s rfl qN (hvs' s qN) c rfl qN ?_
         refine dF 1 s c rfl qN qN (y s c) ?_ fun u1=>?_
         ·unfold eY; rw [if_pos qN,hzs _ _ qN]
         refine aI (d:=zd (y s c)) 0 rfl hl rfl qK ?_ ?_; exact aC qM
         refine ar rfl qI ?_
         refine ar rfl qI ?_
         refine aU (⟨z,y s c,(!odd),s+1⟩,c+1,vs') ⟨by simp only; omega,by simp only; omega,hvs',?_,?_⟩ (by simp only; omega) qF (aA (bJ rfl) (aA (cN (os:=[_,_,_,_]) 1 rfl (fun i=>i) (fun a ha=>⟨ha,rfl,fun b hb=>?_⟩) fun _ _ _ _ e=>e) (aH _ _)))
         ·exact hstep _
         ·simp only
          rw [← hod]; exact hfin
         ·unfold eY; rw [if_pos ha]
    ·have hps:p=s:=by omega
     have hod:(if p=s then odd else !odd)=(odd):=by rw [if_pos hps]
     refine ar rfl qI ?_
     refine aO (X:=Nat) (fun i=>([(3,o),(5,v'),(6,l),(7,.bool (odd)),(8,.int .i64 (s:Nat)),(9,.int .i64 (c:Nat)),(11,.int .i64 (i:Nat))],[bE l 2 1 (fun _=>zd last),pM vs' R C (eY z y i),gJ v' R vs',bE o 2 1 (fun _=>I false [])],[]))
      (fun i=>s+1≤i∧i≤R) (fun i=>R - i) rfl ?_ ?_
     ·exact aU (s+1) ⟨Nat.le_refl _,by omega⟩ trivial qF (aA (Seals.own_cong (os:=[_,_,_,_]) 2 (fun i=>.one (vs' i)) rfl rfl fun i _=>by rw [hv's,hps,ex_same]) (aA (cN (os:=[_,_,_,_]) 1 rfl (ex s p) hfc fun _ _ _ _ e=>ex_inj e) (aH _ _)))
     ·rintro i ⟨hi1,hi2⟩
      refine cS 2 rfl hv fun _=>?_
      refine aD _ rfl (fun hi=>?_) (fun hi=>?_)
      ·have hiR:i<R:=by omega
       refine ar rfl qI ?_
       refine aO (X:=Nat) (fun k'=>([(3,o),(5,v'),(6,l),(7,.bool (odd)),(8,.int .i64 (s:Nat)),(9,.int .i64 (c:Nat)),(11,.int .i64 (i:Nat)),(12,.int .i64 (k':Nat))],[bE l 2 1 (fun _=>zd last),pM vs' R C (cD z y i c k'),gJ v' R vs',bE o 2 1 (fun _=>I false [])],[]))
        (fun k'=>c+1≤k'∧k'≤C) (fun k'=>C - k') rfl ?_ ?_
       ·refine aU (c+1) ⟨Nat.le_refl _,by omega⟩ trivial qF (cN (os:=[_,_,_,_]) 1 rfl (fun i=>i) (fun a ha=>⟨ha,rfl,fun b hb=>?_⟩) fun _ _ _ _ e=>e)
        unfold cD eY
        rw [if_neg (show ¬ (a=i∧c<b∧b<c+1) by omega)]
       ·rintro k' ⟨hk1,hk2⟩
        refine aE 2 rfl hv 0 rfl qN ?_
        refine aG 2 rfl 0 qN (u:=vs' 0) rfl ?_
        refine rZ 1 0 rfl qN (hvs' 0 qN) fun _=>?_
        refine aD _ rfl (fun hc2=>?_) (fun hc2=>?_)
        ·have hkC:k'<C:=by omega
         have y1:=hys s c hsR hcC
         have y2:=hys i k' hiR hkC
         have y3:=hys i c hiR hcC
         have y4:=hys s k' hsR hkC
         refine aY [0,1,2,3,4,5,6,7,8,9,10,11,12,13,14,15,16,17,18,20,21,22,23,24,25,26,27,28,29,30,31,32,33,36,19,34,35,37,38,39] [0,1,2,3,4,5,6,7,8,9,10,11,12,13,14,15,16,17,18,19,20,21,22,23,24,25,26,27,28,29,30,31,32,33,34,35,36,37,38,39] qK qK ?_
         refine aE 2 rfl hv i rfl qN ?_
         refine aG 2 rfl i qN (u:=vs' i) rfl ?_
         refine aE 2 rfl hv s rfl qN ?_
         refine aG 2 rfl s qN (u:=vs' s) rfl ?_
         refine bS 1 s rfl qN (hvs' s qN) c rfl qN ?_
         refine dF 1 s c rfl qN qN (y s c) ?_ fun u1=>?_
         ·unfold cD; rw [if_pos qN,hzs _ _ qN]
         refine aE 2 rfl hv i rfl qN ?_
         refine aG 2 rfl i qN (u:=vs' i) rfl ?_
         refine bS 1 i rfl qN (hvs' i qN) k' rfl qN ?_
         refine dF 1 i k' rfl qN qN (y i k') ?_ fun u2=>?_
         ·unfold cD; rw [if_neg qN,if_neg qN]
         refine aE 2 rfl hv i rfl qN ?_
         refine aG 2 rfl i qN (u:=vs' i) rfl ?_
         refine bS 1 i rfl qN (hvs' i qN) c rfl qN ?_
         refine dF 1 i c rfl qN qN (y i c) ?_ fun u3=>?_
         ·unfold cD; rw [if_neg qN,if_neg qN]
         refine aE 2 rfl hv s rfl qN ?_
         refine aG 2 rfl s qN (u:=vs' s) rfl ?_
         refine bS 1 s rfl qN (hvs' s qN) k' rfl qN ?_
         refine dF 1 s k' rfl qN qN (y s k') ?_ fun u4=>?_
         ·unfold cD; rw [if_pos qN,hzs _ _ qN]
         refine aF (d:=zd last) 0 rfl hl rfl (aN _ _) fun w4=>?_
         refine cG (fQ u1 u2 (y s c) (y i k') _ _ y1 y2 qN qN) fun w1=>?_
         refine cG (fQ u3 u4 (y i c) (y s k') _ _ y3 y4 qN qN) fun w2=>?_
         refine cG (zSubZ w1 w2 (y s c*y i k') (y i c*y s k') _ _ (y1.mul y2) (y3.mul y4) qN qN) fun w3=>?_
         refine cG (mB w3 w4 (y s c*y i k' - y i c*y s k') last _ _ (iL (y1.mul y2) (y3.mul y4)) hsz.l qN qN hsz.ne) fun w5=>?_
         refine bS 1 i rfl qN (hvs' i qN) k' rfl qN ?_
         refine jM 1 i k' rfl qN qN _ (cD z y i c (k'+1)) (aC qM) (fun a b ha hb=>?_) ?_
         ·unfold cD
          by_cases e:a=i∧b=k'
          ·rw [if_pos e,e.1,e.2,if_neg qN,if_pos qN,← hz]
           unfold elim; rw [if_neg qN,if_neg qN,if_neg qN]
          ·rw [if_neg e]
           by_cases e1:a<i
           ·rw [if_pos e1,if_pos e1]
           ·rw [if_neg e1,if_neg e1]
            by_cases e2:a=i∧c<b∧b<k'
            ·rw [if_pos e2,if_pos qN]
            ·rw [if_neg e2,if_neg qN]
         refine ar rfl qI ?_
         exact aU (k'+1) ⟨by omega,by omega⟩ (by simp only; omega) qF (aH _ _)
        ·have hkC:k'=C:=by omega
         refine aE 2 rfl hv i rfl qN ?_
         refine aG 2 rfl i qN (u:=vs' i) rfl ?_
         refine lE (da:=.one (.bool false)) (db:=U (bT 0)) (fun S w=>⟨[.bool false],[.slice none 0 0],rfl,eJ S w,by rw [bR]; exact gM S w 1 _⟩) fun zz=>?_
         refine bS 1 i rfl qN (hvs' i qN) c rfl qN ?_
         refine jM 1 i c rfl qN qN 0 (eY z y (i+1)) (aC (d:=zd 0) qM) (fun a b ha hb=>?_) ?_
         ·unfold cD eY
          by_cases e:a=i∧b=c
          ·rw [if_pos e,e.1,e.2,if_pos qN,← hz]
           unfold elim; rw [if_neg qN,if_neg qN,if_pos rfl]
          ·rw [if_neg e]
           by_cases e1:a<i
           ·rw [if_pos e1,if_pos qN]
           ·rw [if_neg e1]
            by_cases e2:a=i∧c<b∧b<k'
            ·rw [if_pos e2,if_pos qN]
            ·rw [if_neg e2]
             by_cases e3:a=i
             ·rw [if_pos qN,← hz]
              unfold elim; rw [if_neg qN,if_pos qN]
             ·rw [if_neg qN]
         refine ar rfl qI ?_
         exact aU (i+1) ⟨by omega,by omega⟩ (by simp only; omega) qF (aH _ _)
      ·have hiR:R=i:=by omega
       subst hiR
       refine aE 2 rfl hv s rfl qN ?_
       refine aG 2 rfl s qN (u:=vs' s) rfl ?_
       refine bS 1 s rfl qN (hvs' s qN) c rfl qN ?_
       refine dF 1 s c rfl qN qN (y s c) ?_ fun u1=>?_
       ·unfold eY; rw [if_pos qN,hzs _ _ qN]
       refine aI (d:=zd (y s c)) 0 rfl hl rfl qK ?_ ?_; exact aC qM
       refine ar rfl qI ?_
       refine ar rfl qI ?_
       refine aU (⟨z,y s c,(odd),s+1⟩,c+1,vs') ⟨by simp only; omega,by simp only; omega,hvs',?_,?_⟩ (by simp only; omega) qF (aA (bJ rfl) (aA (cN (os:=[_,_,_,_]) 1 rfl (fun i=>i) (fun a ha=>⟨ha,rfl,fun b hb=>?_⟩) fun _ _ _ _ e=>e) (aH _ _)))
       ·exact hstep _
       ·simp only
        rw [← hod]; exact hfin
       ·unfold eY; rw [if_pos ha]
theorem mdet_meets (v:Value) (m:List Row) (k:Nat) (hr:mA m) (hf:Fits k m) (lm:m.length≤1048576) (hk:Eb k m.length≤17179869184) :
  Meets Tryz.prog 92 [v] [(v,W m)] (fun r os fs=>os=[]∧fs=[(r,zd (det m.length (mx (ww m))))]):=by
 have hsq:=hr.2
 refine mV Tryz.func92 ?_
 refine aM (d:=I false []) fun o ho=>?_
 refine cF (bareiss_meets v m k hr.1 hf lm qN (by rw [← hsq]; exact hk)) ?_
 rintro _ _ _ ⟨rfl,hsz,q,rfl,rfl⟩
 rw [← hsq] at hsz ⊢
 have hd:=bar_det m.length (mx (ww m))
 generalize bar m.length m.length (mx (ww m))=st at *
 refine aM (d:=I false []) fun l hl=>?_
 refine aI (d:=zd st.last) 0 rfl hl rfl qK ?_ ?_; exact aC qM
 refine aT qM fun _=>?_
 refine aD _ rfl (fun hlt=>?_) (fun hlt=>?_)
 ·rw [if_pos qN] at hd
  refine lE (da:=.one (.bool false)) (db:=U (bT 0)) (fun S w=>⟨[.bool false],[.slice none 0 0],rfl,eJ S w,by rw [bR]; exact gM S w 1 _⟩) fun z=>?_
  refine aI (d:=zd 0) 1 rfl ho rfl qK ?_ ?_; exact aC qM
  refine aF (d:=zd 0) 1 rfl ho rfl (aN _ _) fun r=>?_
  rw [hd]
  exact fin ⟨rfl,rfl⟩ (dS (dS (aB qS)))
 ·rw [if_neg qN] at hd
  cases hodd:st.odd with
  | true =>
   rw [hodd,if_pos rfl] at hd
   refine aF (d:=zd st.last) 0 rfl hl rfl (aN _ _) fun u=>?_
   refine cG (zNegZ u st.last _ hsz qN) fun w=>?_
   refine aI (d:=zd (-st.last)) 1 rfl ho rfl qK ?_ ?_; exact aC qM
   refine aF (d:=zd (-st.last)) 1 rfl ho rfl (aN _ _) fun r=>?_
   rw [hd]
   exact fin ⟨rfl,rfl⟩ (dS (dS (aB qS)))
  | false =>
   rw [hodd,if_neg qP] at hd
   refine aF (d:=zd st.last) 0 rfl hl rfl (aN _ _) fun u=>?_
   refine cG (zNormZ u st.last _ hsz qN) fun w=>?_
   refine aI (d:=zd st.last) 1 rfl ho rfl qK ?_ ?_; exact aC qM
   refine aF (d:=zd st.last) 1 rfl ho rfl (aN _ _) fun r=>?_
   rw [hd]
   exact fin ⟨rfl,rfl⟩ (dS (dS (aB qS)))
theorem mDet_meets (v:Value) (m:List Row) (k:Nat) (hf:Fits k m) (lm:m.length≤1048576) (hk:Eb k m.length≤17179869184) :
  Meets Tryz.prog 46 [v] [(v,W m)] (fun r os fs=>os=[]∧∃ q,r=.tuple #[q,.int .i64 (if mA m then 0 else 1)]∧fs=[(q,zd (if mA m then det m.length (mx (ww m)) else 0))]):=by
 refine mV Tryz.func46 ?_
 refine aM (d:=I false []) fun o ho=>?_
 refine cH (mSquare_meets v m) ?_
 by_cases hs:mA m
 ·rw [decide_eq_true hs,if_pos hs,if_pos hs]
  refine cG (mdet_meets v m k hs hf lm hk) fun w=>?_
  refine aI (d:=zd (det m.length (mx (ww m)))) 0 rfl ho rfl qK ?_ ?_; exact aC qM
  refine aF (d:=zd (det m.length (mx (ww m)))) 0 rfl ho rfl (aN _ _) fun r=>?_
  exact fin ⟨rfl,r,rfl,rfl⟩ (dS (aB qS))
 ·rw [decide_eq_false hs,if_neg hs,if_neg hs]
  refine lE (da:=.one (.bool false)) (db:=U (bT 0)) (fun S w=>⟨[.bool false],[.slice none 0 0],rfl,eJ S w,by rw [bR]; exact gM S w 1 _⟩) fun z=>?_
  refine aI (d:=zd 0) 0 rfl ho rfl qK ?_ ?_; exact aC qM
  refine aF (d:=zd 0) 0 rfl ho rfl (aN _ _) fun r=>?_
  exact fin ⟨rfl,r,rfl,rfl⟩ (dS (aB qS))
theorem det_sz:∀ (n:Nat) {x:Mx} {k:Nat},n<1048576→(∀ i j,i<n→j<n→sz (x i j) k)→sz (det n x) ((k+1)*n+1)
 | 0,x,k,_,_=>by unfold det; exact Nat.lt_of_lt_of_le (show (1:Int).natAbs<18446744073709551616^1 by decide) (Nat.pow_le_pow_right qE qN)
 | n+1,x,k,hn,h=>by
  unfold det
  refine (vU (e:=k+((k+1)*n+1)) (fun i hi=>sg_sz i (sz.mul (h i 0 hi qN) (det_sz n qN fun a b ha hb=>h _ _ (uR ha) (uR hb)))) qN).mono ?_
  rw [Nat.mul_add]; omega
theorem Knw.vd_of {os:List Own} {fs:List bD} {v:Value} {n:Nat} {g:Nat→Int} (h:Knw os fs v (.sl 2 n fun i=>J ((((List.range n).map g).map cn).getD i z0))):Knw os fs v (vd ((List.range n).map g)) :=
 h.cast (by unfold vd V LD; simp)
theorem rA (l:List Int):∀ (n:Nat) (k:Nat),k≤n→(∀ j,k≤j→j<n→l.getD j 0=0)→sE l n=sE l k
 | 0,k,h,_=>by
           have:k=0:=by omega
           subst this; rfl
 | n+1,k,h,hz=>by
  by_cases e:k=n+1
  ·rw [e]
  ·rw [sE,if_pos (hz n qN qN)]
   exact rA l n k qN fun j h1 h2=>hz j h1 qN
theorem qJ (v:Value) (p:Row) (hp:Fit 137438953472 p) :
  Meets Tryz.prog 99 [v] [(v,V p)] (fun r os fs=>os=[]∧fs=[]∧r=.int .i64 (deg (vv p))):=by
 refine mV Tryz.func99 ?_
 refine aT qM fun _=>?_
 refine aO (X:=Nat) (fun n=>([(0,v),(3,.int .i64 (n:Nat))],[],[(v,V p)])) (fun n=>n≤p.length∧∀ j,n≤j→j<p.length→(vv p).getD j 0=0) (fun n=>n) rfl ?_ ?_
 ·exact aU p.length ⟨Nat.le_refl _,fun j h1 h2=>by omega⟩ trivial qF (aB qS)
 ·rintro n ⟨h1,h2⟩
  refine aD _ rfl (fun hn=>?_) (fun hn=>?_)
  ·have hn':n - 1<p.length:=by omega
   have hg:=lO p (n - 1) hn'
   refine ar rfl qI ?_
   refine aQ qM (n - 1) qN hn' fun a1=>?_
   refine aX (d:=J (p.getD (n - 1) z0)) qM (bM _) fun x1=>?_
   refine cH (cY x1 (p.getD (n - 1) z0).1 (p.getD (n - 1) z0).2 (hp.get _).1 (hp.get _).2) ?_
   refine aD _ rfl (fun hz=>?_) (fun hz=>?_)
   ·refine ar rfl qI ?_
    refine aU (n - 1) ⟨by omega,fun j h3 h4=>?_⟩ (by simp only; omega) qF (aB qS)
    by_cases e:j=n - 1
    ·rw [e,hg]; exact Int.sign_eq_zero_iff_zero.1 hz
    ·exact h2 j qN h4
   ·refine ar rfl qI ?_
    refine fin ⟨rfl,rfl,?_⟩ (aH _ _)
    have hd:sE (vv p) p.length=sE (vv p) n:=rA _ _ _ h1 h2
    have hne:(vv p).getD (n - 1) 0≠0:=by rw [hg]; exact fun e=>hz (Int.sign_eq_zero_iff_zero.2 e)
    unfold deg
    rw [cV,hd]
    obtain ⟨n',rfl⟩:∃ n',n=n'+1:=⟨n - 1,by omega⟩
    rw [sE,if_neg (by simpa using hne)]
    exact congrArg (Value.int .i64) qN
  ·have hn0:n=0:=by omega
   subst hn0
   refine ar rfl qI ?_
   refine fin ⟨rfl,rfl,?_⟩ (aH _ _)
   unfold deg
   rw [cV,rA _ _ _ h1 h2]; rfl
theorem k7 {P:Program} {N id:Nat} {L:List Oper} {f:Fr} {os:List Own} {fs:List bD} {K:lJ} {X:Type} (I:X→Fr×List Own×List bD) (ok:X→Prop)
  (h:DrawK P N id L f os fs fun f os fs=>AtK I ok f os fs fun _=>True) (k:∀ x,ok x→K (I x).1 (I x).2.1 (I x).2.2):DrawK P N id L f os fs K:=by
 refine ⟨fun G Q hQ a w hk hw=>?_⟩
 let Q':pC:=fun e=>match e with
  | .normal=>fun f os fs=>AtK I ok f os fs fun _=>True
  | e=>Q e
 refine wp_mono (h.out G Q' rfl a w hk hw) ?_
 rintro e a' w' ⟨f',os',fs',hk',hw',hq⟩
 cases e with
 | normal =>
  obtain ⟨⟨x,hx,_,g1,g2⟩⟩:=hq
  exact ⟨_,_,_,hk'.sub g1,g2 G w' hw',by rw [hQ]; exact k x hx⟩
 | exit id=>exact ⟨f',os',fs',hk',hw',hq⟩
 | goto l=>exact ⟨f',os',fs',hk',hw',hq⟩
 | ret=>exact ⟨f',os',fs',hk',hw',hq⟩
 | panic ch=>exact ⟨f',os',fs',hk',hw',hq⟩
 | outgrown=>exact ⟨f',os',fs',hk',hw',hq⟩
def o8 (vs:Nat→Value) (m:List Row):Own:=⟨m.length,vs,2,fun i=>(m.getD i []).length,fun i k=>J ((m.getD i []).getD k z0)⟩
theorem Seals.madeR {v:Value} {vs:Nat→Value} {m:List Row} {os:List Own} {fs:List bD} (hv:isSl v) (hs:∀ i,i<m.length→isSl (vs i)) :
  Seals (o8 vs m::gJ v m.length vs::os) fs os ((v,W m)::fs) :=
 aA (Seals.rows (F:=o8 vs m) hv hs) (a7 (Knw.cast (Knw.sl_cong (e':=fun i=>V (m.getD i [])) (bC (List.Mem.head _)) fun _ _=>rfl) rfl) (aB fun _ hF=>.tail _ hF))
theorem index_famR {kk:IntKind} {z:Int} {vs:Nat→Value} {m:List Row} {os:List Own} {fs:List bD} {K:bZ} (pos i:Nat) (h:a8 os pos=some (o8 vs m)) (hi:i<m.length) (hs:isSl (vs i)) (j:Nat) (hz:z=(j:Int)) (hj:j<(m.getD i []).length)
  (k:K (k6 (vs i) (j*2)) os fs):eM Tryz.prog 22 (vs i) (.int kk z) os fs K :=
 oC (o:=o8 vs m) pos i h hi (fun r=>by obtain ⟨a,n,c,e⟩:=hs; show vs i≠_; rw [e]; simp) j hz hj k
theorem oE {m:List Row} {i a:Nat} {r:Row} (h:i<m.length):(m.set i r).getD a []=if a=i then r else m.getD a []:=by
 simp only [gE,List.getElem?_set]
 by_cases e:i=a
 ·subst e; simp [h]
 ·simp [e,Ne.symm e]
theorem store_R {u:Value} {vs:Nat→Value} {m:List Row} {os:List Own} {fs:List bD} {K:bZ} (pos i j:Nat) (h:a8 os pos=some (o8 vs m)) (hi:i<m.length) (hj:j<(m.getD i []).length) (x:Bool×List Nat)
  (hu:Reads os fs u (J x)) (k:K undef (setOwn os pos (o8 vs (m.set i ((m.getD i []).set j x)))) fs) :
  StoreK Tryz.prog 26 (k6 (vs i) (j*2)) u os fs K :=
 pX (d:=J x) pos i (o8 vs (m.set i ((m.getD i []).set j x))) h hi j hj rfl qK hu (by simp [o8]) rfl (fun a ha=>by
  have ha':a<m.length:=ha
  refine ⟨rfl,?_,fun b hb=>?_⟩
  ·show ((m.set i ((m.getD i []).set j x)).getD a []).length=(m.getD a []).length
   rw [oE hi]
   by_cases e:a=i
   ·rw [if_pos e,List.length_set,e]
   ·rw [if_neg e]
  ·show J (((m.set i ((m.getD i []).set j x)).getD a []).getD b z0)=if a=i∧b=j then J x else J ((m.getD a []).getD b z0)
   rw [oE hi]
   by_cases e:a=i
   ·rw [if_pos e,wD hj]
    by_cases e2:b=j
    ·rw [if_pos e2,if_pos ⟨e,e2⟩]
    ·rw [if_neg e2,if_neg (fun h=>e2 h.2),e]
   ·rw [if_neg e,if_neg (fun h=>e h.1)]) k
theorem tI (m:List (List Int)) (i:Nat):((m.map (·.map cn)).getD i [])=(m.getD i []).map cn:=by
 by_cases h:i<m.length
 ·simp [gE,h]
 ·simp [gE,h]
theorem right_cn (m:List (List Int)):right (m.map (·.map cn))↔right m:=by
 unfold right
 rw [List.length_map,tI,List.length_map]
 constructor
 ·rintro ⟨h1,h2⟩
  exact ⟨h1,fun r hr=>by have:=h2 _ (List.mem_map.2 ⟨r,hr,rfl⟩); rwa [List.length_map] at this⟩
 ·rintro ⟨h1,h2⟩
  refine ⟨h1,fun r hr=>?_⟩
  obtain ⟨r',hr',rfl⟩:=List.mem_map.1 hr
  rw [List.length_map]; exact h2 r' hr'
theorem square_cn (m:List (List Int)):mA (m.map (·.map cn))↔mA m:=by
 unfold mA
 rw [right_cn,tI,List.length_map,List.length_map]
def szM (e:Nat) (m:List (List Int)):Prop:=∀ r,r∈m→∀ x,x∈r→sz x e
def szR (e:Nat) (l:List Int):Prop:=∀ x,x∈l→sz x e
theorem szM.fits {e:Nat} {m:List (List Int)} (h:szM e m):Fits e (m.map (·.map cn)):=fun r hr=>by
 obtain ⟨r',hr',rfl⟩:=List.mem_map.1 hr
 exact Fit_cn fun x hx=>h r' hr' x hx
theorem detW (v:Value) (m:List (List Int)) (e:Nat) (d:Int) (hs:mA m) (hd:det m.length (mx m)=d) (hz:szM e m) (lm:m.length≤1048576) (hk:Eb e m.length≤17179869184) :
  Meets Tryz.prog 46 [v] [(v,wd m)] (fun r os fs=>os=[]∧∃ q,r=.tuple #[q,.int .i64 0]∧fs=[(q,zd d)]):=by
 have h:=mDet_meets v (m.map (·.map cn)) e hz.fits (by rw [List.length_map]; exact lm) (by rw [List.length_map]; exact hk)
 rw [if_pos ((square_cn m).2 hs),if_pos ((square_cn m).2 hs),ww_cn,List.length_map,hd] at h
 exact h
theorem exactW (v w:Value) (x y:Int):Meets Tryz.prog 47 [v,w] [(v,zd x),(w,zd y)] (fun r os fs=>os=[]∧fs=[]∧r=.bool (decide (x=y))):=by
 have h:=wJ v w (cn x) (cn y)
 have e:(cn x=cn y)↔x=y:=⟨fun h=>by rw [← eR x,h,eR],fun h=>by rw [h]⟩
 rw [decide_eq_decide.2 e] at h
 exact h
theorem map_cn_inj {l m:List Int}:l.map cn=m.map cn↔l=m:=⟨fun h=>by rw [← fR l,h,fR],fun h=>by rw [h]⟩
theorem exactAllW (v w:Value) (x y:List Int):Meets Tryz.prog 26 [v,w] [(v,vd x),(w,vd y)] (fun r os fs=>os=[]∧fs=[]∧r=.bool (decide (x=y))):=by
 have h:=o9 v w (x.map cn) (y.map cn)
 rw [decide_eq_decide.2 map_cn_inj] at h
 exact h
def IL (l:List Int):Dat:=.sl 1 l.length fun i=>.one (.int .i64 (l.getD i 0))
theorem vP {P:Program} {t e:TypeId} {os:List Own} {fs:List bD} {K:bZ} [ht:TSl P t e 1] [he:TEl P e 1 8] {n:Nat} (l:List Int) {ps:List (Nat×Value)} (hps:ps=enumP 0 (l.map fun x=>Value.int .i64 x)) (hn:n=l.length) (hl:l.length≤1000) (k:∀ v,K v os ((v,IL l)::fs)) :
  gH P t n ps os fs K:=by
 have hr:∀ l:List Int,ReadsAll os fs 1 (l.map fun x=>Value.int .i64 x) (l.map fun x=>Dat.one (.int .i64 x)):=fun l=>by
  induction l with
  | nil=>trivial
  | cons x l ih=>exact ⟨bW rfl,rfl,ih⟩
 have h1:=cZ (P:=P) (t:=t) (os:=os) (fs:=fs) (K:=fun u os' fs'=>∃ os'' fs'',Seals os' fs' os'' fs''∧K u os'' fs'') (n:=n) (l.map fun x=>Value.int .i64 x) (l.map fun x=>Dat.one (.int .i64 x)) hps (by rw [hn,List.length_map]) qN qE (hr l)
 refine ⟨Grw.sealed (h1 fun v=>⟨_,_,?_,k v⟩).out⟩
 exact Seals.knw_cong hn fun i hi=>by
  have hi':i<l.length:=by omega
  simp [gE,hi']
instance (x:Int) (e:Nat):Decidable (sz x e):=inferInstanceAs (Decidable (_<_))
def limR (r:Row):Prop:=∀ x,x∈r→Lim x.2
def smallR (n c:Nat) (r:Row):Prop:=r.length≤n∧∀ x,x∈r→x.2.length≤c
instance (n c:Nat) (r:Row):Decidable (smallR n c r):=inferInstanceAs (Decidable (_∧_))
theorem smallR.fit {n c:Nat} {r:Row} (h:smallR n c r) (hl:limR r):Fit c r:=fun x hx=>⟨hl x hx,h.2 x hx⟩
end Go.Proofs.YtjebljkoiaojaaaGreat
